/- Texts of this claim, together. -/
import Derived.Test.YtdkpgodakmailaaGreatDoorHS8

set_option linter.unusedVariables false
set_option linter.unusedSimpArgs false
namespace Go.Proofs.YtdkpgodakmailaaGreatDoor
open Go.RowKit Ev
structure Fr where
 (a b : Int)
def cmpI (a c : Int) : Int := if a < c then -1 else if a > c then 1 else 0
def cmpL : List Int → List Int → Int
 | [], [] => 0
 | [], _ :: _ => -1
 | _ :: _, [] => 1
 | a :: l, b :: m => if cmpI a b ≠ 0 then cmpI a b else cmpL l m
theorem cmpL_pos : ∀ (l m : List Int), decide (cmpL l m > 0) = befL m l
 | [], [] => rfl
 | [], _ :: _ => rfl
 | _ :: _, [] => rfl
 | a :: l, b :: m => by
  unfold cmpL befL
  rw [← cmpL_pos l m]
  rcases Int.lt_trichotomy a b with h | h | h
  ·rw [show cmpI a b = -1 from if_pos h, if_pos (by decide), decide_eq_false (show ¬ b < a by omega), decide_eq_false (show ¬ b = a by omega)]; rfl
  ·subst h
   rw [show cmpI a a = 0 by unfold cmpI; rw [if_neg (by omega), if_neg (by omega)], if_neg (by simp), decide_eq_false (show ¬ a < a by omega), decide_eq_true rfl]; rfl
  ·rw [show cmpI a b = 1 by unfold cmpI; rw [if_neg (by omega), if_pos h], if_pos (by decide), decide_eq_true h]; rfl
theorem cmpL_cons {a b : Int} {l m : List Int} : cmpL (a :: l) (b :: m) = if cmpI a b ≠ 0 then cmpI a b else cmpL l m := rfl
theorem plain_int (l : List Int) (i j : Nat) : ∃ y, intsC l i j = .v y := ⟨_, rfl⟩
theorem smStep_skip {hd : List Int → Bool} {o : Option (List Int)} {s : List Int} : smStep hd o s = bif (bif o.isSome then (bif decide (((s.length : Nat) : Int) > (((o.getD []).length : Nat) : Int)) then true else (bif (((s.length : Nat) : Int) == (((o.getD []).length : Nat) : Int)) then (bif decide (cmpL s (o.getD []) > (0 : Int)) then true else (!(hd s))) else (!(hd s)))) else (!(hd s))) then o else some s := by
 cases o with
 | none => unfold smStep; cases hd s <;> rfl
 | some b =>
  simp only [Option.isSome_some, Option.getD_some, cond_true]
  rw [cmpL_pos]
  unfold smStep lessL
  simp only
  rcases Nat.lt_trichotomy b.length s.length with h | h | h
  ·rw [decide_eq_true h, decide_eq_true (show (s.length : Int) > b.length by omega)]; rfl
  ·have e : ((s.length : Int) == (b.length : Int)) = true := by simp [h]
   rw [e, decide_eq_false (show ¬ b.length < s.length by omega), decide_eq_false (show ¬ (s.length : Int) > b.length by omega), decide_eq_true h]
   cases befL b s <;> cases hd s <;> rfl
  ·have e : ((s.length : Int) == (b.length : Int)) = false := by simp; omega
   rw [e, decide_eq_false (show ¬ b.length < s.length by omega), decide_eq_false (show ¬ (s.length : Int) > b.length by omega), decide_eq_false (show ¬ b.length = s.length by omega)]
   cases hd s <;> rfl
theorem nums_listC (l : List Int) : listC l.length mkInt (numsC .i64 l) = l := ints_listC l
theorem membs_all : (List.range 256).all (fun k => decide (scan (senE (membs 8 k)) (membs 8 k).length = 0) && decide ((membs 8 k).length ≤ 8)) = true := by kernel_rfl
theorem membs_ok {k : Nat} (h : k < 256) : scan (senE (membs 8 k)) (membs 8 k).length = 0 ∧ (membs 8 k).length ≤ 8 := by
 have := List.all_eq_true.1 membs_all k (List.mem_range.2 h)
 simpa using this
theorem membs_len {k : Nat} (h : k < 256) : (membs 8 k).length ≤ 8 := (membs_ok h).2
theorem vet_membs {f : Int} {k : Nat} (h : k < 256) (hf : inB f 0 8 = true) : vetE f (membs 8 k) = 0 := by
 obtain ⟨h1, h2⟩ := membs_ok h
 unfold vetE
 rw [hf, h1, decide_eq_true (by omega)]; rfl
theorem u64_succ {n : Int} (h : 0 ≤ n ∧ n < 1000000) : IntKind.u64.wrap (n + 1) = n + 1 := by
 have : IntKind.u64.wrap (n + 1) = (n + 1) % 18446744073709551616 := rfl
 omega
def con_math_bits_TrailingZeros64 : Con := fun args => match args with
 | [.t (.c (.v (.int .u64 u)))] => some (.t (.c (.v (.int .i64 (tzV u)))), some (1 ≤ u ∧ u < 256), false)
 | _ => none
theorem ok_math_bits_TrailingZeros64 : Ok Tryz.prog 186 con_math_bits_TrailingZeros64 := by
 refine Ok.oldGd (Enters.of (fn := Tryz.f186) (by kernel_rfl) (by kernel_rfl) (by kernel_rfl)) fun args r pre fresh h hp => ?_
 unfold con_math_bits_TrailingZeros64 at h
 split at h
 ·rename_i u
  cases h
  refine ⟨rfl, _, rfl, fun W N vs hG hv => ?_⟩
  have hp := hp
  obtain ⟨u0, ws0, k0, g0, hv0⟩ := hv.cons_inv
  subst k0
  have e0 := plain_arg rfl g0
  subst e0
  have ev := hv0.nil_inv
  subst ev
  exact (bits_64 u hp W hG).mono fun e w' h => ⟨h.1, h.2 ▸ Below.refl _ _⟩
 ·cases h
def S52 : Sum := addS S51 186 con_math_bits_TrailingZeros64
theorem VS52 : Valid Tryz.prog S52 := Valid.add VS51 ok_math_bits_TrailingZeros64
def vc_math_bits_TrailingZeros (u : Int) (post : DV → Prop) : Prop := (1 ≤ u ∧ u < 256) ∧ (post (.t (.c (.v (.int .i64 (tzV u))))))
def ann_math_bits_TrailingZeros : Ann := ⟨fun _ => none, fun _ => none, fun _ => [], noIt, false, fun _ => none, fun _ => none⟩
theorem ev_math_bits_TrailingZeros (J : Inv) (u : Int) (post : DV → Prop) : evFn Tryz.prog tab S52 ann_math_bits_TrailingZeros J Tryz.f165 [.t (.c (.v (.int .u64 u)))] post = vc_math_bits_TrailingZeros u post := by kernel_rfl
theorem fit_math_bits_TrailingZeros : okFn ann_math_bits_TrailingZeros Tryz.f165 = true := by kernel_rfl
theorem lp_math_bits_TrailingZeros (J : Inv) (post : DV → Prop) : AllG J (loopsFn Tryz.prog tab S52 ann_math_bits_TrailingZeros J Tryz.f165 post) = (True) := by kernel_rfl
theorem spec_math_bits_TrailingZeros (u : Int) (hp : 1 ≤ u ∧ u < 256) : vc_math_bits_TrailingZeros u (fun r => LeD r (.t (.c (.v (.int .i64 (tzV u)))))) := by
 exact ⟨hp, LeD.refl _⟩
def con_math_bits_TrailingZeros : Con := fun args => match args with
 | [.t (.c (.v (.int .u64 u)))] => some (.t (.c (.v (.int .i64 (tzV u)))), some (1 ≤ u ∧ u < 256), false)
 | _ => none
theorem ok_math_bits_TrailingZeros : Ok Tryz.prog 165 con_math_bits_TrailingZeros := by
 refine Ok.fn (ann := ann_math_bits_TrailingZeros) mixed tabOK VS52 ValidIt.no (fn := Tryz.f165) (by kernel_rfl) (by kernel_rfl) fit_math_bits_TrailingZeros fun args r pre fresh h hp => ?_
 unfold con_math_bits_TrailingZeros at h
 split at h
 ·rename_i u
  cases h
  refine ⟨rfl, fun _ _ _ => False, _, LeA.refl _, Nat.le_of_ble_eq_true (by kernel_rfl), ?_, ?_⟩
  ·rw [ev_math_bits_TrailingZeros]; exact spec_math_bits_TrailingZeros u hp
  ·rw [lp_math_bits_TrailingZeros]; trivial
 ·cases h
def S53 : Sum := addS S52 165 con_math_bits_TrailingZeros
theorem VS53 : Valid Tryz.prog S53 := Valid.add VS52 ok_math_bits_TrailingZeros
def mk_flash_members_0 (u : Int) (v0_0 : List Int) (v0_1 : Int) : DS := ⟨[some (.t (.c (.v (.int .u64 v0_1)))), none, none, some (.t (.c (.os 3))), none, none, none, none, none, none, none, none, none, none, none, none], [none, none, none, some (.num 3 .i64 v0_0), none, none, none, none, none, none, none, none, none, none, none, none]⟩
def vc_flash_members (J : Inv) (u : Int) (post : DV → Row → Prop) : Prop := ∃ n, J 0 (n :: []) (mk_flash_members_0 u ([]) u)
def ann_flash_members : Ann := ⟨fun _ => none, fun b => lookA b [(0, (none, some ⟨[0], [], [(3, .num 3 .i64 ([]))]⟩))], fun _ => [], noIt, false, fun _ => none, fun _ => none⟩
theorem ev_flash_members (J : Inv) (u : Int) (post : DV → Row → Prop) : evFnO Tryz.prog tab S53 ann_flash_members J Tryz.f133 [.t (.c (.v (.int .u64 u)))] post = vc_flash_members J u post := by kernel_rfl
theorem fit_flash_members : okFn ann_flash_members Tryz.f133 = true := by kernel_rfl
def rd_flash_members_0 (J : Inv) (u : Int) (v0_0 : List Int) (v0_1 : Int) (nn0 : Nat) (post : DV → Row → Prop) : Prop := cond (v0_1 != (0 : Int)) ((1 ≤ v0_1 ∧ v0_1 < 256) ∧ (((IntKind.i64 = IntKind.i64 ∧ True) ∧ roomP 8 (v0_0.length + ([tzV v0_1] : List Int).length)) ∧ (lt (IntKind.u64.wrap (v0_1 - (1 : Int))) fun x1 => lt (IntKind.u64.wrap ((BitVec.ofInt 64 v0_1 &&& BitVec.ofInt 64 x1).toNat : Int)) fun x2 => J 0 (nn0 :: []) (mk_flash_members_0 u (v0_0 ++ ([tzV v0_1])) x2)))) (post (.t (.c (.os 0))) (.num 3 .i64 v0_0))
theorem er_flash_members_0 (J : Inv) (u : Int) (v0_0 : List Int) (v0_1 : Int) (nn0 : Nat) (post : DV → Row → Prop) : roundO Tryz.prog tab S53 ann_flash_members J Tryz.f133 post 0 (nn0 :: []) (mk_flash_members_0 u v0_0 v0_1) = rd_flash_members_0 J u v0_0 v0_1 nn0 post := by kernel_rfl
theorem lp_flash_members (J : Inv) (post : DV → Row → Prop) : AllG J (loopsFnO Tryz.prog tab S53 ann_flash_members J Tryz.f133 post) = (((∀ F s, ¬ J 0 (0 :: F) s) ∧ ∀ n F s, J 0 ((n + 1) :: F) s → roundO Tryz.prog tab S53 ann_flash_members J Tryz.f133 post 0 (n :: F) s) ∧ True) := by kernel_rfl
def J_flash_members (u : Int) : Inv := fun b F s => match b, F with
 | 0, [nn0] => ∃ (v0_0 : List Int) (v0_1 : Int), s = mk_flash_members_0 u v0_0 v0_1 ∧ ((0 ≤ v0_1 ∧ v0_1 < 256) ∧ v0_1 < nn0 ∧ v0_0.length ≤ 256 - v0_1 ∧ v0_0 ++ membs 8 v0_1.toNat = membs 8 u.toNat)
 | _, _ => False
theorem rnd_flash_members_0 (u : Int) (v0_0 : List Int) (v0_1 : Int) (nn0 : Nat) (hp : 0 ≤ u ∧ u < 256) (hi : (0 ≤ v0_1 ∧ v0_1 < 256) ∧ v0_1 < (nn0 + 1) ∧ v0_0.length ≤ 256 - v0_1 ∧ v0_0 ++ membs 8 v0_1.toNat = membs 8 u.toNat) : rd_flash_members_0 (J_flash_members u) u v0_0 v0_1 nn0 (fun r' R' => r' = (.t (.c (.os 0))) ∧ R' = (.num 3 .i64 (membs 8 (u).toNat))) := by
 obtain ⟨i1, i2, i3, i4⟩ := hi
 unfold rd_flash_members_0
 refine cond_i (fun h => ?_) (fun h => ?_)
 ·have h : v0_1 ≠ 0 := by simpa using h
  obtain ⟨_, _, t3, t4⟩ := tz_ok (u := v0_1) (by omega)
  refine ⟨by omega, ⟨⟨rfl, trivial⟩, ?_⟩, lt_i fun x1 h1 => lt_i fun x2 h2 => ?_⟩
  ·unfold roomP maxLen; simp; omega
  ·subst h1
   rw [show x2 = nxS v0_1 from h2.symm]
   refine ⟨_, _, rfl, by omega, by omega, ?_, ?_⟩
   ·rw [List.length_append, List.length_singleton]; push_cast; omega
   ·rw [List.append_assoc, List.singleton_append, ← t4, i4]
 ·have h : v0_1 = 0 := by simpa using h
  subst h
  rw [show membs 8 ((0 : Int)).toNat = [] from by kernel_rfl, List.append_nil] at i4
  rw [i4]
  exact ⟨rfl, rfl⟩
theorem zero_flash_members_0 (u : Int) (v0_0 : List Int) (v0_1 : Int)  (hi : (0 ≤ v0_1 ∧ v0_1 < 256) ∧ v0_1 < 0 ∧ v0_0.length ≤ 256 - v0_1 ∧ v0_0 ++ membs 8 v0_1.toNat = membs 8 u.toNat) : False := by
 omega
theorem spec_flash_members (u : Int) (hp : 0 ≤ u ∧ u < 256) : vc_flash_members (J_flash_members u) u (fun r' R' => r' = (.t (.c (.os 0))) ∧ R' = (.num 3 .i64 (membs 8 (u).toNat))) := by
 unfold vc_flash_members
 exact ⟨u.toNat + 1, [], u, rfl, hp, by omega, by simp; omega, rfl⟩
theorem all_flash_members (u : Int) (hp : 0 ≤ u ∧ u < 256) : AllG (J_flash_members u) (loopsFnO Tryz.prog tab S53 ann_flash_members (J_flash_members u) Tryz.f133 (fun r' R' => r' = (.t (.c (.os 0))) ∧ R' = (.num 3 .i64 (membs 8 (u).toNat)))) := by
 rw [lp_flash_members]
 refine ⟨⟨?_, ?_⟩, trivial⟩
 ·intro F s h
  obtain _ | ⟨g, F⟩ := F
  case cons => exact h.elim
  obtain ⟨w0, w1, rfl, hi⟩ := h
  exact zero_flash_members_0 u w0 w1 hi
 ·intro n F s h
  obtain _ | ⟨g, F⟩ := F
  case cons => exact h.elim
  obtain ⟨w0, w1, rfl, hi⟩ := h
  rw [er_flash_members_0]
  exact rnd_flash_members_0 u _ _ _ hp hi
def con_flash_members : Con := fun args => match args with
 | [.t (.c (.v (.int .u64 u)))] => some (.t (.c (.os 0)), some (0 ≤ u ∧ u < 256), .own (.num 3 .i64 (membs 8 (u).toNat)))
 | _ => none
theorem ok_flash_members : Ok Tryz.prog 133 con_flash_members := by
 refine Ok.fnO (ann := ann_flash_members) mixed tabOK VS53 ValidIt.no (fn := Tryz.f133) (by kernel_rfl) (by kernel_rfl) fit_flash_members fun args r pre fresh h hp => ?_
 unfold con_flash_members at h
 split at h
 ·rename_i u
  cases h
  refine ⟨_, rfl, trivial, J_flash_members u, _, LeA.refl _, Nat.le_of_ble_eq_true (by kernel_rfl), ?_, ?_⟩
  ·rw [ev_flash_members]; exact spec_flash_members u hp
  ·exact all_flash_members u hp
 ·cases h
def S54 : Sum := addS S53 133 con_flash_members
theorem VS54 : Valid Tryz.prog S54 := Valid.add VS53 ok_flash_members
def vc_cmp_isNaN_int (a : Int) (post : DV → Prop) : Prop := post (.t (.c (.v (.bool (a != a)))))
def ann_cmp_isNaN_int : Ann := ⟨fun _ => none, fun _ => none, fun _ => [], noIt, false, fun _ => none, fun _ => none⟩
theorem ev_cmp_isNaN_int (J : Inv) (a : Int) (post : DV → Prop) : evFn Tryz.prog tab S54 ann_cmp_isNaN_int J Tryz.f187 [.t (.c (.v (.int .i64 a)))] post = vc_cmp_isNaN_int a post := by kernel_rfl
theorem fit_cmp_isNaN_int : okFn ann_cmp_isNaN_int Tryz.f187 = true := by kernel_rfl
theorem lp_cmp_isNaN_int (J : Inv) (post : DV → Prop) : AllG J (loopsFn Tryz.prog tab S54 ann_cmp_isNaN_int J Tryz.f187 post) = (True) := by kernel_rfl
theorem spec_cmp_isNaN_int (a : Int) : vc_cmp_isNaN_int a (fun r => LeD r (.t (.c (.v (.bool false))))) := by
 exact leB (by simp)
def con_cmp_isNaN_int : Con := fun args => match args with
 | [.t (.c (.v (.int .i64 a)))] => some (.t (.c (.v (.bool false))), none, false)
 | _ => none
theorem ok_cmp_isNaN_int : Ok Tryz.prog 187 con_cmp_isNaN_int := by
 refine Ok.fn (ann := ann_cmp_isNaN_int) mixed tabOK VS54 ValidIt.no (fn := Tryz.f187) (by kernel_rfl) (by kernel_rfl) fit_cmp_isNaN_int fun args r pre fresh h hp => ?_
 unfold con_cmp_isNaN_int at h
 split at h
 ·rename_i a
  cases h
  refine ⟨rfl, fun _ _ _ => False, _, LeA.refl _, Nat.le_of_ble_eq_true (by kernel_rfl), ?_, ?_⟩
  ·rw [ev_cmp_isNaN_int]; exact spec_cmp_isNaN_int a
  ·rw [lp_cmp_isNaN_int]; trivial
 ·cases h
def S55 : Sum := addS S54 187 con_cmp_isNaN_int
theorem VS55 : Valid Tryz.prog S55 := Valid.add VS54 ok_cmp_isNaN_int
def vc_cmp_Compare_int (a : Int) (c : Int) (post : DV → Prop) : Prop := cond (decide (a < c)) (post (.t (.c (.v (.int .i64 (-1)))))) (cond (decide (a > c)) (post (.t (.c (.v (.int .i64 1))))) (post (.t (.c (.v (.int .i64 0))))))
def ann_cmp_Compare_int : Ann := ⟨fun _ => none, fun _ => none, fun _ => [], noIt, false, fun _ => none, fun _ => none⟩
theorem ev_cmp_Compare_int (J : Inv) (a : Int) (c : Int) (post : DV → Prop) : evFn Tryz.prog tab S55 ann_cmp_Compare_int J Tryz.f166 [.t (.c (.v (.int .i64 a))), .t (.c (.v (.int .i64 c)))] post = vc_cmp_Compare_int a c post := by kernel_rfl
theorem fit_cmp_Compare_int : okFn ann_cmp_Compare_int Tryz.f166 = true := by kernel_rfl
theorem lp_cmp_Compare_int (J : Inv) (post : DV → Prop) : AllG J (loopsFn Tryz.prog tab S55 ann_cmp_Compare_int J Tryz.f166 post) = (True) := by kernel_rfl
theorem spec_cmp_Compare_int (a : Int) (c : Int) : vc_cmp_Compare_int a c (fun r => LeD r (.t (.c (.v (.int .i64 (cmpI a c)))))) := by
 unfold vc_cmp_Compare_int
 unfold cmpI
 refine cond_i (fun h => leI ?_) (fun h => cond_i (fun q => leI ?_) (fun q => leI ?_))
 ·rw [if_pos (of_decide_eq_true h)]
 ·rw [if_neg (of_decide_eq_false h), if_pos (of_decide_eq_true q)]
 ·rw [if_neg (of_decide_eq_false h), if_neg (of_decide_eq_false q)]
def con_cmp_Compare_int : Con := fun args => match args with
 | [.t (.c (.v (.int .i64 a))), .t (.c (.v (.int .i64 c)))] => some (.t (.c (.v (.int .i64 (cmpI a c)))), none, false)
 | _ => none
theorem ok_cmp_Compare_int : Ok Tryz.prog 166 con_cmp_Compare_int := by
 refine Ok.fn (ann := ann_cmp_Compare_int) mixed tabOK VS55 ValidIt.no (fn := Tryz.f166) (by kernel_rfl) (by kernel_rfl) fit_cmp_Compare_int fun args r pre fresh h hp => ?_
 unfold con_cmp_Compare_int at h
 split at h
 ·rename_i a c
  cases h
  refine ⟨rfl, fun _ _ _ => False, _, LeA.refl _, Nat.le_of_ble_eq_true (by kernel_rfl), ?_, ?_⟩
  ·rw [ev_cmp_Compare_int]; exact spec_cmp_Compare_int a c
  ·rw [lp_cmp_Compare_int]; trivial
 ·cases h
def S56 : Sum := addS S55 166 con_cmp_Compare_int
theorem VS56 : Valid Tryz.prog S56 := Valid.add VS55 ok_cmp_Compare_int
def mk_slices_Compare_int_int_0 (l : List Int) (l2 : List Int) (v0_0 : Int) : DS := ⟨[some (.t (.c (.sl 1 l.length (intsC l)))), some (.t (.c (.sl 1 l2.length (intsC l2)))), none, none, none, none, none, none, none, some (.t (.c (.sl 1 l.length (intsC l)))), some (.t (.c (.v (.int .i64 ((l.length : Nat) : Int))))), some (.t (.c (.v (.int .i64 v0_0)))), none, none, none, none, none, none, none, none, none, none, none, none, none, none, none, none, none, none, none, none, none, none, none, none], [none, none, none, none, none, none, none, none, none, none, none, none, none, none, none, none, none, none, none, none, none, none, none, none, none, none, none, none, none, none, none, none, none, none, none, none]⟩
def vc_slices_Compare_int_int (J : Inv) (l : List Int) (l2 : List Int) (post : DV → Prop) : Prop := ∃ n, J 0 (n :: []) (mk_slices_Compare_int_int_0 l l2 0)
def ann_slices_Compare_int_int : Ann := ⟨fun _ => none, fun b => lookA b [(0, (none, some ⟨[0, 1, 9, 10, 11], [], []⟩))], fun _ => [], noIt, false, fun _ => none, fun _ => none⟩
theorem ev_slices_Compare_int_int (J : Inv) (l : List Int) (l2 : List Int) (post : DV → Prop) : evFn Tryz.prog tab S56 ann_slices_Compare_int_int J Tryz.f134 [.t (.c (.sl 1 l.length (intsC l))), .t (.c (.sl 1 l2.length (intsC l2)))] post = vc_slices_Compare_int_int J l l2 post := by kernel_rfl
theorem fit_slices_Compare_int_int : okFn ann_slices_Compare_int_int Tryz.f134 = true := by kernel_rfl
def rd_slices_Compare_int_int_0 (J : Inv) (l : List Int) (l2 : List Int) (v0_0 : Int) (nn0 : Nat) (post : DV → Prop) : Prop := cond (decide (v0_0 < ((l.length : Nat) : Int))) ((0 ≤ v0_0 ∧ v0_0 < ((l.length : Nat) : Int)) ∧ (cond (decide (v0_0 ≥ ((l2.length : Nat) : Int))) (post (.t (.c (.v (.int .i64 1))))) ((0 ≤ v0_0 ∧ v0_0 < ((l2.length : Nat) : Int)) ∧ (cond ((cmpI (l.getD v0_0.toNat 0) (l2.getD v0_0.toNat 0)) != (0 : Int)) (post (.t (.c (.v (.int .i64 (cmpI (l.getD v0_0.toNat 0) (l2.getD v0_0.toNat 0))))))) (lt (IntKind.i64.wrap (v0_0 + (1 : Int))) fun x1 => J 0 (nn0 :: []) (mk_slices_Compare_int_int_0 l l2 x1)))))) (cond (decide (((l.length : Nat) : Int) < ((l2.length : Nat) : Int))) (post (.t (.c (.v (.int .i64 (-1)))))) (post (.t (.c (.v (.int .i64 0))))))
theorem er_slices_Compare_int_int_0 (J : Inv) (l : List Int) (l2 : List Int) (v0_0 : Int) (nn0 : Nat) (post : DV → Prop) : round Tryz.prog tab S56 ann_slices_Compare_int_int J Tryz.f134 post 0 (nn0 :: []) (mk_slices_Compare_int_int_0 l l2 v0_0) = rd_slices_Compare_int_int_0 J l l2 v0_0 nn0 post := by kernel_rfl
theorem lp_slices_Compare_int_int (J : Inv) (post : DV → Prop) : AllG J (loopsFn Tryz.prog tab S56 ann_slices_Compare_int_int J Tryz.f134 post) = (((∀ F s, ¬ J 0 (0 :: F) s) ∧ ∀ n F s, J 0 ((n + 1) :: F) s → round Tryz.prog tab S56 ann_slices_Compare_int_int J Tryz.f134 post 0 (n :: F) s) ∧ True) := by kernel_rfl
def J_slices_Compare_int_int (l : List Int) (l2 : List Int) : Inv := fun b F s => match b, F with
 | 0, [nn0] => ∃ (v0_0 : Int), s = mk_slices_Compare_int_int_0 l l2 v0_0 ∧ (l.length ≤ 1000000 ∧ 0 ≤ v0_0 ∧ v0_0 ≤ l.length ∧ v0_0 ≤ l2.length ∧ (nn0 : Int) + v0_0 = l.length + 1 ∧ cmpL l l2 = cmpL (l.drop v0_0.toNat) (l2.drop v0_0.toNat))
 | _, _ => False
theorem rnd_slices_Compare_int_int_0 (l : List Int) (l2 : List Int) (v0_0 : Int) (nn0 : Nat) (hp : (l).length ≤ 1000000) (hi : l.length ≤ 1000000 ∧ 0 ≤ v0_0 ∧ v0_0 ≤ l.length ∧ v0_0 ≤ l2.length ∧ ((nn0 + 1) : Int) + v0_0 = l.length + 1 ∧ cmpL l l2 = cmpL (l.drop v0_0.toNat) (l2.drop v0_0.toNat)) : rd_slices_Compare_int_int_0 (J_slices_Compare_int_int l l2) l l2 v0_0 nn0 (fun r => LeD r (.t (.c (.v (.int .i64 (cmpL l l2)))))) := by
 obtain ⟨i0, i1, i2, i3, i4, i5⟩ := hi
 obtain ⟨k, rfl⟩ : ∃ k : Nat, v0_0 = k := ⟨v0_0.toNat, by omega⟩
 have hk : (k : Int).toNat = k := rfl
 rw [hk] at i5
 unfold rd_slices_Compare_int_int_0
 rw [hk]
 refine cond_i (fun h => ?_) (fun h => ?_)
 ·have hlt : k < l.length := by have := of_decide_eq_true h; omega
  have el : l.drop k = l.getD k 0 :: l.drop (k + 1) := by rw [List.drop_eq_getElem_cons hlt]; simp [List.getD, hlt]
  rw [el] at i5
  refine ⟨by omega, cond_i (fun q => leI ?_) (fun q => ?_)⟩
  ·have q := of_decide_eq_true q
   rw [i5, show l2.drop k = [] from List.drop_eq_nil_of_le (by omega)]; rfl
  ·have q := of_decide_eq_false q
   have hr : k < l2.length := by omega
   have er : l2.drop k = l2.getD k 0 :: l2.drop (k + 1) := by rw [List.drop_eq_getElem_cons hr]; simp [List.getD, hr]
   rw [er] at i5
   rw [cmpL_cons] at i5
   refine ⟨by omega, cond_i (fun q => leI ?_) (fun q => lt_i fun x hx => ?_)⟩
   ·rw [i5, if_pos (by simpa using q)]
   ·rw [if_neg (by simpa using q)] at i5
    rw [wi (by omega)] at hx
    subst hx
    exact ⟨_, rfl, i0, by omega, by omega, by omega, by omega, by rw [show ((k : Int) + 1).toNat = k + 1 by omega]; exact i5⟩
 ·have hge : k = l.length := by have := of_decide_eq_false h; omega
  rw [List.drop_eq_nil_of_le (show l.length ≤ k by omega)] at i5
  refine cond_i (fun q => leI ?_) (fun q => leI ?_)
  ·have q := of_decide_eq_true q
   have hr : k < l2.length := by omega
   rw [i5, List.drop_eq_getElem_cons hr]; rfl
  ·have q := of_decide_eq_false q
   rw [i5, show l2.drop k = [] from List.drop_eq_nil_of_le (by omega)]; rfl
theorem zero_slices_Compare_int_int_0 (l : List Int) (l2 : List Int) (v0_0 : Int)  (hi : l.length ≤ 1000000 ∧ 0 ≤ v0_0 ∧ v0_0 ≤ l.length ∧ v0_0 ≤ l2.length ∧ (0 : Int) + v0_0 = l.length + 1 ∧ cmpL l l2 = cmpL (l.drop v0_0.toNat) (l2.drop v0_0.toNat)) : False := by
 omega
theorem spec_slices_Compare_int_int (l : List Int) (l2 : List Int) (hp : (l).length ≤ 1000000) : vc_slices_Compare_int_int (J_slices_Compare_int_int l l2) l l2 (fun r => LeD r (.t (.c (.v (.int .i64 (cmpL l l2)))))) := by
 unfold vc_slices_Compare_int_int
 exact ⟨l.length + 1, 0, rfl, hp, by omega, by omega, by omega, by omega, rfl⟩
theorem all_slices_Compare_int_int (l : List Int) (l2 : List Int) (hp : (l).length ≤ 1000000) : AllG (J_slices_Compare_int_int l l2) (loopsFn Tryz.prog tab S56 ann_slices_Compare_int_int (J_slices_Compare_int_int l l2) Tryz.f134 (fun r => LeD r (.t (.c (.v (.int .i64 (cmpL l l2))))))) := by
 rw [lp_slices_Compare_int_int]
 refine ⟨⟨?_, ?_⟩, trivial⟩
 ·intro F s h
  obtain _ | ⟨g, F⟩ := F
  case cons => exact h.elim
  obtain ⟨w0, rfl, hi⟩ := h
  exact zero_slices_Compare_int_int_0 l l2 w0 hi
 ·intro n F s h
  obtain _ | ⟨g, F⟩ := F
  case cons => exact h.elim
  obtain ⟨w0, rfl, hi⟩ := h
  rw [er_slices_Compare_int_int_0]
  exact rnd_slices_Compare_int_int_0 l l2 _ _ hp hi
def con_slices_Compare_int_int : Con := fun args => match args with
 | [.t (.c (.sl 1 n_l c_l)), .t (.c (.sl 1 n_l2 c_l2))] => some (.t (.c (.v (.int .i64 (cmpL (listC n_l mkInt c_l) (listC n_l2 mkInt c_l2))))), some (numsP 1 n_l c_l ∧ numsP 1 n_l2 c_l2 ∧ ((listC n_l mkInt c_l)).length ≤ 1000000), false)
 | _ => none
theorem ok_slices_Compare_int_int : Ok Tryz.prog 134 con_slices_Compare_int_int := by
 refine Ok.fn (ann := ann_slices_Compare_int_int) mixed tabOK VS56 ValidIt.no (fn := Tryz.f134) (by kernel_rfl) (by kernel_rfl) fit_slices_Compare_int_int fun args r pre fresh h hp => ?_
 unfold con_slices_Compare_int_int at h
 split at h
 ·rename_i n_l c_l n_l2 c_l2
  cases h
  obtain ⟨hp0, hp1, hp⟩ := hp
  refine ⟨rfl, J_slices_Compare_int_int (listC n_l mkInt c_l) (listC n_l2 mkInt c_l2), [.t (.c (.sl 1 ((listC n_l mkInt c_l).length) (intsC (listC n_l mkInt c_l)))), .t (.c (.sl 1 ((listC n_l2 mkInt c_l2).length) (intsC (listC n_l2 mkInt c_l2))))], ?_, Nat.le_of_ble_eq_true (by kernel_rfl), ?_, ?_⟩
  ·exact (LeA_cons (leT_c ((leL_int hp0))) (LeA_cons (leT_c ((leL_int hp1))) LeA_nil))
  ·rw [ev_slices_Compare_int_int]; exact spec_slices_Compare_int_int (listC n_l mkInt c_l) (listC n_l2 mkInt c_l2) hp
  ·exact all_slices_Compare_int_int (listC n_l mkInt c_l) (listC n_l2 mkInt c_l2) hp
 ·cases h
def S57 : Sum := addS S56 134 con_slices_Compare_int_int
theorem VS57 : Valid Tryz.prog S57 := Valid.add VS56 ok_slices_Compare_int_int
def vc_flash_SmallestVeto_1 (v : List Int) (m : List Muon) (f : Int) (z0 z1 : Int) (y0 y1 : Int) (post : DV → Prop) : Prop := (muP m.length (musC m) ∧ numsP 1 v.length (intsC v) ∧ musE (muOf m.length (musC m)) = 0 ∧ vetE f (listC v.length mkInt (intsC v)) = 0) ∧ (lt (IntKind.i64.wrap ((sumW (passL f (listC v.length mkInt (intsC v)) (muOf m.length (musC m)))) * y1)) fun x1 => lt (IntKind.i64.wrap (y0 * (sumW (muOf m.length (musC m))))) fun x2 => post (.t (.c (.v (.bool (decide (x1 ≤ x2)))))))
def ann_flash_SmallestVeto_1 : Ann := ⟨fun _ => none, fun _ => none, fun _ => [], noIt, false, fun _ => none, fun _ => none⟩
theorem ev_flash_SmallestVeto_1 (J : Inv) (v : List Int) (m : List Muon) (f : Int) (z0 z1 : Int) (y0 y1 : Int) (post : DV → Prop) : evFn Tryz.prog tab S57 ann_flash_SmallestVeto_1 J Tryz.f84 [.t (.c (.sl 1 v.length (intsC v))), .t (.c (.px 1 0 (boxC [.sl 2 m.length (musC m)]))), .t (.c (.px 3 0 (boxC [.v (.int .i64 f), .v (.int .i64 z0), .v (.int .i64 z1)]))), .t (.c (.px 2 0 (boxC [.v (.int .i64 y0), .v (.int .i64 y1)])))] post = vc_flash_SmallestVeto_1 v m f z0 z1 y0 y1 post := by kernel_rfl
theorem fit_flash_SmallestVeto_1 : okFn ann_flash_SmallestVeto_1 Tryz.f84 = true := by kernel_rfl
theorem lp_flash_SmallestVeto_1 (J : Inv) (post : DV → Prop) : AllG J (loopsFn Tryz.prog tab S57 ann_flash_SmallestVeto_1 J Tryz.f84 post) = (True) := by kernel_rfl
theorem spec_flash_SmallestVeto_1 (v : List Int) (m : List Muon) (f : Int) (z0 z1 : Int) (y0 y1 : Int) (hp : musE m = 0 ∧ vetE f v = 0 ∧ (0 ≤ y0 ∧ y0 ≤ 1000000000) ∧ 0 ≤ y1 ∧ y1 ≤ 1000000000) : vc_flash_SmallestVeto_1 v m f z0 z1 y0 y1 (fun r => LeD r (.t (.c (.v (.bool (keepB m f y0 y1 v)))))) := by
 obtain ⟨q1, q2, q3, q4⟩ := hp
 obtain ⟨⟨p1, p2⟩, ⟨p3, p4⟩, _⟩ := pass_rg q1 f v
 unfold vc_flash_SmallestVeto_1
 rw [mus_of, ints_listC]
 have m1 := mul_rg (x := sumW (passL f v m)) (y := y1) (A := 4000) (B := 1000000000) (C := 4000000000000) (by omega) (by omega) (by decide)
 have m2 := mul_rg (x := y0) (y := sumW m) (A := 1000000000) (B := 4000) (C := 4000000000000) (by omega) (by omega) (by decide)
 refine ⟨⟨muP_mus m, numsP_ints v, q1, q2⟩, lt_i fun x1 h1 => lt_i fun x2 h2 => leB ?_⟩
 rw [wi (by omega)] at h1 h2
 subst h1 h2
 rfl
def con_flash_SmallestVeto_1 : Con := fun args => match args with
 | [.t (.c (.sl 1 n_v c_v)), .t (.c (.px 1 0 c_pm)), .t (.c (.px 3 0 c_px)), .t (.c (.px 2 0 c_pp))] => some (.t (.c (.v (.bool (keepB (muOf (cvLen (c_pm 0)) (cvCells (c_pm 0))) (cvInt (c_px 0)) (cvInt (c_pp 0)) (cvInt (c_pp 1)) (listC n_v mkInt c_v))))), some (numsP 1 n_v c_v ∧ intsB [] c_pm = true ∧ slP 2 (c_pm 0) ∧ muP (cvLen (c_pm 0)) (cvCells (c_pm 0)) ∧ intsB [0, 1, 2] c_px = true ∧ intsB [0, 1] c_pp = true ∧ musE (muOf (cvLen (c_pm 0)) (cvCells (c_pm 0))) = 0 ∧ vetE (cvInt (c_px 0)) (listC n_v mkInt c_v) = 0 ∧ (0 ≤ (cvInt (c_pp 0)) ∧ (cvInt (c_pp 0)) ≤ 1000000000) ∧ 0 ≤ (cvInt (c_pp 1)) ∧ (cvInt (c_pp 1)) ≤ 1000000000), false)
 | _ => none
theorem ok_flash_SmallestVeto_1 : Ok Tryz.prog 84 con_flash_SmallestVeto_1 := by
 refine Ok.fn (ann := ann_flash_SmallestVeto_1) mixed tabOK VS57 ValidIt.no (fn := Tryz.f84) (by kernel_rfl) (by kernel_rfl) fit_flash_SmallestVeto_1 fun args r pre fresh h hp => ?_
 unfold con_flash_SmallestVeto_1 at h
 split at h
 ·rename_i n_v c_v c_pm c_px c_pp
  cases h
  obtain ⟨hp0, hp1, hp2, hp3, hp4, hp5, hp⟩ := hp
  refine ⟨rfl, fun _ _ _ => False, [.t (.c (.sl 1 ((listC n_v mkInt c_v).length) (intsC (listC n_v mkInt c_v)))), .t (.c (.px 1 0 (boxC [.sl 2 ((muOf (cvLen (c_pm 0)) (cvCells (c_pm 0))).length) (musC (muOf (cvLen (c_pm 0)) (cvCells (c_pm 0))))]))), .t (.c (.px 3 0 (boxC [.v (.int .i64 (cvInt (c_px 0))), .v (.int .i64 (cvInt (c_px 1))), .v (.int .i64 (cvInt (c_px 2)))]))), .t (.c (.px 2 0 (boxC [.v (.int .i64 (cvInt (c_pp 0))), .v (.int .i64 (cvInt (c_pp 1)))])))], ?_, Nat.le_of_ble_eq_true (by kernel_rfl), ?_, ?_⟩
  ·exact (LeA_cons (leT_c ((leL_int hp0))) (LeA_cons (leT_c (leC_p (LeCs.cons (leC_s hp2 (leL_Muon hp3)) LeCs.nil))) (LeA_cons (leT_c (leC_p (LeCs.cons (leC_i (intsB_get hp4 0 (by decide))) (LeCs.cons (leC_i (intsB_get hp4 1 (by decide))) (LeCs.cons (leC_i (intsB_get hp4 2 (by decide))) LeCs.nil))))) (LeA_cons (leT_c (leC_p (LeCs.cons (leC_i (intsB_get hp5 0 (by decide))) (LeCs.cons (leC_i (intsB_get hp5 1 (by decide))) LeCs.nil)))) LeA_nil))))
  ·rw [ev_flash_SmallestVeto_1]; exact spec_flash_SmallestVeto_1 (listC n_v mkInt c_v) (muOf (cvLen (c_pm 0)) (cvCells (c_pm 0))) (cvInt (c_px 0)) (cvInt (c_px 1)) (cvInt (c_px 2)) (cvInt (c_pp 0)) (cvInt (c_pp 1)) hp
  ·rw [lp_flash_SmallestVeto_1]; trivial
 ·cases h
def S58 : Sum := addS S57 84 con_flash_SmallestVeto_1
theorem VS58 : Valid Tryz.prog S58 := Valid.add VS57 ok_flash_SmallestVeto_1
def mk_flash_smallest_a_0 (q : Int) (m : List Muon) (f : Int) (z0 z1 : Int) (y0 y1 : Int) (v0_0 : List Int) (v0_1 : Int) (v0_2 : Int) (v0_3 : Bool) : DS := ⟨[none, some (.t (.fn 84 [.px 1 0 (boxC [.sl 2 m.length (musC m)]), .px 3 0 (boxC [.v (.int .i64 f), .v (.int .i64 z0), .v (.int .i64 z1)]), .px 2 0 (boxC [.v (.int .i64 y0), .v (.int .i64 y1)])])), none, none, none, none, some (.t (.c (.os 6))), some (.t (.c (.v (.bool v0_3)))), none, none, none, some (.t (.c (.v (.int .u64 v0_1)))), some (.t (.c (.v (.int .u64 v0_2)))), none, none, none, none, none, none, none, none, none, none, none, none, none, none, none, none, none, none, none, none, none, none, none, none, none, none, none, none, none, none, none, none, none, none, none], [none, none, none, none, none, none, some (.num 3 .i64 v0_0), none, none, none, none, none, none, none, none, none, none, none, none, none, none, none, none, none, none, none, none, none, none, none, none, none, none, none, none, none, none, none, none, none, none, none, none, none, none, none, none, none]⟩
def vc_flash_smallest_a (J : Inv) (q : Int) (m : List Muon) (f : Int) (z0 z1 : Int) (y0 y1 : Int) (post : DV → Prop) : Prop := lt (IntKind.u64.wrap ((1 : Int) * 2 ^ (min (q).toNat 64))) fun x1 => (0 ≤ q) ∧ (∃ n, J 0 (n :: []) (mk_flash_smallest_a_0 q m f z0 z1 y0 y1 ([]) x1 0 false))
def ann_flash_smallest_a : Ann := ⟨fun _ => none, fun b => lookA b [(0, (none, some ⟨[1, 7, 11, 12], [], [(6, .num 3 .i64 ([]))]⟩))], fun _ => [], noIt, true, fun r => lookA r [(7, (2, [43]))], fun _ => none⟩
theorem ev_flash_smallest_a (J : Inv) (q : Int) (m : List Muon) (f : Int) (z0 z1 : Int) (y0 y1 : Int) (post : DV → Prop) : evFn Tryz.prog tab S58 ann_flash_smallest_a J Tryz.f83 [.t (.c (.v (.int .i64 q))), .t (.fn 84 [.px 1 0 (boxC [.sl 2 m.length (musC m)]), .px 3 0 (boxC [.v (.int .i64 f), .v (.int .i64 z0), .v (.int .i64 z1)]), .px 2 0 (boxC [.v (.int .i64 y0), .v (.int .i64 y1)])])] post = vc_flash_smallest_a J q m f z0 z1 y0 y1 post := by kernel_rfl
theorem fit_flash_smallest_a : okFn ann_flash_smallest_a Tryz.f83 = true := by kernel_rfl
def rd_flash_smallest_a_0 (J : Inv) (q : Int) (m : List Muon) (f : Int) (z0 z1 : Int) (y0 y1 : Int) (v0_0 : List Int) (v0_1 : Int) (v0_2 : Int) (v0_3 : Bool) (nn0 : Nat) (post : DV → Prop) : Prop := cond (decide (v0_2 < v0_1)) ((0 ≤ v0_2 ∧ v0_2 < 256) ∧ ((cond v0_3 (cond (decide ((((membs 8 (v0_2).toNat).length : Nat) : Int) > ((v0_0.length : Nat) : Int))) ((true = true) ∧ ((true = true) ∧ (True))) (cond ((((membs 8 (v0_2).toNat).length : Nat) : Int) == ((v0_0.length : Nat) : Int)) ((numsP 1 ((membs 8 (v0_2).toNat).length) (numsC .i64 (membs 8 (v0_2).toNat)) ∧ numsP 1 v0_0.length (numsC .i64 v0_0) ∧ ((listC ((membs 8 (v0_2).toNat).length) mkInt (numsC .i64 (membs 8 (v0_2).toNat)))).length ≤ 1000000) ∧ (cond (decide ((cmpL (listC ((membs 8 (v0_2).toNat).length) mkInt (numsC .i64 (membs 8 (v0_2).toNat))) (listC v0_0.length mkInt (numsC .i64 v0_0))) > (0 : Int))) ((true = true) ∧ (True)) ((numsP 1 ((membs 8 (v0_2).toNat).length) (numsC .i64 (membs 8 (v0_2).toNat)) ∧ intsB [] (boxC [.sl 2 m.length (musC m)]) = true ∧ slP 2 ((boxC [.sl 2 m.length (musC m)]) 0) ∧ muP m.length (musC m) ∧ intsB [0, 1, 2] (boxC [.v (.int .i64 f), .v (.int .i64 z0), .v (.int .i64 z1)]) = true ∧ intsB [0, 1] (boxC [.v (.int .i64 y0), .v (.int .i64 y1)]) = true ∧ musE (muOf m.length (musC m)) = 0 ∧ vetE f (listC ((membs 8 (v0_2).toNat).length) mkInt (numsC .i64 (membs 8 (v0_2).toNat))) = 0 ∧ (0 ≤ y0 ∧ y0 ≤ 1000000000) ∧ 0 ≤ y1 ∧ y1 ≤ 1000000000) ∧ (True)))) ((false = false) ∧ ((numsP 1 ((membs 8 (v0_2).toNat).length) (numsC .i64 (membs 8 (v0_2).toNat)) ∧ intsB [] (boxC [.sl 2 m.length (musC m)]) = true ∧ slP 2 ((boxC [.sl 2 m.length (musC m)]) 0) ∧ muP m.length (musC m) ∧ intsB [0, 1, 2] (boxC [.v (.int .i64 f), .v (.int .i64 z0), .v (.int .i64 z1)]) = true ∧ intsB [0, 1] (boxC [.v (.int .i64 y0), .v (.int .i64 y1)]) = true ∧ musE (muOf m.length (musC m)) = 0 ∧ vetE f (listC ((membs 8 (v0_2).toNat).length) mkInt (numsC .i64 (membs 8 (v0_2).toNat))) = 0 ∧ (0 ≤ y0 ∧ y0 ≤ 1000000000) ∧ 0 ≤ y1 ∧ y1 ≤ 1000000000) ∧ (True))))) ((false = false) ∧ ((numsP 1 ((membs 8 (v0_2).toNat).length) (numsC .i64 (membs 8 (v0_2).toNat)) ∧ intsB [] (boxC [.sl 2 m.length (musC m)]) = true ∧ slP 2 ((boxC [.sl 2 m.length (musC m)]) 0) ∧ muP m.length (musC m) ∧ intsB [0, 1, 2] (boxC [.v (.int .i64 f), .v (.int .i64 z0), .v (.int .i64 z1)]) = true ∧ intsB [0, 1] (boxC [.v (.int .i64 y0), .v (.int .i64 y1)]) = true ∧ musE (muOf m.length (musC m)) = 0 ∧ vetE f (listC ((membs 8 (v0_2).toNat).length) mkInt (numsC .i64 (membs 8 (v0_2).toNat))) = 0 ∧ (0 ≤ y0 ∧ y0 ≤ 1000000000) ∧ 0 ≤ y1 ∧ y1 ≤ 1000000000) ∧ (True)))) ∧ (lt ((bif v0_3 then (bif decide ((((membs 8 (v0_2).toNat).length : Nat) : Int) > ((v0_0.length : Nat) : Int)) then true else (bif ((((membs 8 (v0_2).toNat).length : Nat) : Int) == ((v0_0.length : Nat) : Int)) then (bif decide ((cmpL (listC ((membs 8 (v0_2).toNat).length) mkInt (numsC .i64 (membs 8 (v0_2).toNat))) (listC v0_0.length mkInt (numsC .i64 v0_0))) > (0 : Int)) then true else (!(keepB (muOf m.length (musC m)) f y0 y1 (listC ((membs 8 (v0_2).toNat).length) mkInt (numsC .i64 (membs 8 (v0_2).toNat)))))) else (!(keepB (muOf m.length (musC m)) f y0 y1 (listC ((membs 8 (v0_2).toNat).length) mkInt (numsC .i64 (membs 8 (v0_2).toNat))))))) else (!(keepB (muOf m.length (musC m)) f y0 y1 (listC ((membs 8 (v0_2).toNat).length) mkInt (numsC .i64 (membs 8 (v0_2).toNat))))))) fun x1 => cond x1 (lt (IntKind.u64.wrap (v0_2 + (1 : Int))) fun x2 => J 0 (nn0 :: []) (mk_flash_smallest_a_0 q m f z0 z1 y0 y1 v0_0 v0_1 x2 v0_3)) (lt (IntKind.u64.wrap (v0_2 + (1 : Int))) fun x3 => J 0 (nn0 :: []) (mk_flash_smallest_a_0 q m f z0 z1 y0 y1 (membs 8 (v0_2).toNat) v0_1 x3 true))))) (post (.tu [.c (.sl 1 v0_0.length (numsC .i64 v0_0)), .c (.v (.bool v0_3))]))
theorem er_flash_smallest_a_0 (J : Inv) (q : Int) (m : List Muon) (f : Int) (z0 z1 : Int) (y0 y1 : Int) (v0_0 : List Int) (v0_1 : Int) (v0_2 : Int) (v0_3 : Bool) (nn0 : Nat) (post : DV → Prop) : round Tryz.prog tab S58 ann_flash_smallest_a J Tryz.f83 post 0 (nn0 :: []) (mk_flash_smallest_a_0 q m f z0 z1 y0 y1 v0_0 v0_1 v0_2 v0_3) = rd_flash_smallest_a_0 J q m f z0 z1 y0 y1 v0_0 v0_1 v0_2 v0_3 nn0 post := by kernel_rfl
theorem lp_flash_smallest_a (J : Inv) (post : DV → Prop) : AllG J (loopsFn Tryz.prog tab S58 ann_flash_smallest_a J Tryz.f83 post) = (((∀ F s, ¬ J 0 (0 :: F) s) ∧ ∀ n F s, J 0 ((n + 1) :: F) s → round Tryz.prog tab S58 ann_flash_smallest_a J Tryz.f83 post 0 (n :: F) s) ∧ True) := by kernel_rfl
def J_flash_smallest_a (q : Int) (m : List Muon) (f : Int) (z0 z1 : Int) (y0 y1 : Int) : Inv := fun b F s => match b, F with
 | 0, [nn0] => ∃ (v0_0 : List Int) (v0_1 : Int) (v0_2 : Int) (v0_3 : Bool), s = mk_flash_smallest_a_0 q m f z0 z1 y0 y1 v0_0 v0_1 v0_2 v0_3 ∧ ((musE m = 0 ∧ inB f 0 8 = true ∧ (0 ≤ y0 ∧ y0 ≤ 1000000000) ∧ 0 ≤ y1 ∧ y1 ≤ 1000000000) ∧ v0_1 = 256 ∧ 0 ≤ v0_2 ∧ v0_2 ≤ 256 ∧ (nn0 : Int) + v0_2 = 257 ∧ v0_3 = ((List.range v0_2.toNat).foldl (fun o k => smStep (keepB m f y0 y1) o (membs 8 k)) none).isSome ∧ v0_0 = ((List.range v0_2.toNat).foldl (fun o k => smStep (keepB m f y0 y1) o (membs 8 k)) none).getD [])
 | _, _ => False
set_option maxHeartbeats 8000000 in
set_option maxRecDepth 100000 in
theorem rnd_flash_smallest_a_0 (q : Int) (m : List Muon) (f : Int) (z0 z1 : Int) (y0 y1 : Int) (v0_0 : List Int) (v0_1 : Int) (v0_2 : Int) (v0_3 : Bool) (nn0 : Nat) (hp : q = 8 ∧ musE m = 0 ∧ inB f 0 8 = true ∧ (0 ≤ y0 ∧ y0 ≤ 1000000000) ∧ 0 ≤ y1 ∧ y1 ≤ 1000000000) (hi : (musE m = 0 ∧ inB f 0 8 = true ∧ (0 ≤ y0 ∧ y0 ≤ 1000000000) ∧ 0 ≤ y1 ∧ y1 ≤ 1000000000) ∧ v0_1 = 256 ∧ 0 ≤ v0_2 ∧ v0_2 ≤ 256 ∧ ((nn0 + 1) : Int) + v0_2 = 257 ∧ v0_3 = ((List.range v0_2.toNat).foldl (fun o k => smStep (keepB m f y0 y1) o (membs 8 k)) none).isSome ∧ v0_0 = ((List.range v0_2.toNat).foldl (fun o k => smStep (keepB m f y0 y1) o (membs 8 k)) none).getD []) : rd_flash_smallest_a_0 (J_flash_smallest_a q m f z0 z1 y0 y1) q m f z0 z1 y0 y1 v0_0 v0_1 v0_2 v0_3 nn0 (fun r => LeD r (.tu [.c (.sl 1 (((smallF 8 (keepB m f y0 y1)).getD []).length) (intsC ((smallF 8 (keepB m f y0 y1)).getD []))), .c (.v (.bool ((smallF 8 (keepB m f y0 y1)).isSome)))])) := by
 obtain ⟨⟨q1, q2, q3⟩, rfl, i1, i2, i3, i4, i5⟩ := hi
 obtain ⟨k, rfl⟩ : ∃ k : Nat, v0_2 = k := ⟨v0_2.toNat, by omega⟩
 have hk : (k : Int).toNat = k := rfl
 rw [hk] at i4 i5
 unfold rd_flash_smallest_a_0
 rw [hk, mus_of, nums_listC, nums_listC]
 obtain ⟨o, ho⟩ : ∃ o, (List.range k).foldl (fun o k => smStep (keepB m f y0 y1) o (membs 8 k)) none = o := ⟨_, rfl⟩
 rw [ho] at i4 i5
 subst i4 i5
 refine cond_i (fun h => ?_) (fun h => ?_)
 ·have h := of_decide_eq_true h
  have hv := vet_membs (f := f) (k := k) (by omega) q2
  have hlen := membs_len (k := k) (by omega)
  have hC : (numsP 1 ((membs 8 k).length) (numsC .i64 (membs 8 k)) ∧ intsB [] (boxC [.sl 2 m.length (musC m)]) = true ∧ slP 2 ((boxC [.sl 2 m.length (musC m)]) 0) ∧ muP m.length (musC m) ∧ intsB [0, 1, 2] (boxC [.v (.int .i64 f), .v (.int .i64 z0), .v (.int .i64 z1)]) = true ∧ intsB [0, 1] (boxC [.v (.int .i64 y0), .v (.int .i64 y1)]) = true ∧ musE m = 0 ∧ vetE f (membs 8 k) = 0 ∧ (0 ≤ y0 ∧ y0 ≤ 1000000000) ∧ 0 ≤ y1 ∧ y1 ≤ 1000000000) := ⟨numsP_ints _, rfl, rfl, muP_mus m, rfl, rfl, q1, hv, q3⟩
  have step : (List.range (k + 1)).foldl (fun o k => smStep (keepB m f y0 y1) o (membs 8 k)) none = smStep (keepB m f y0 y1) o (membs 8 k) := by rw [List.range_succ, List.foldl_append, ho]; rfl
  refine ⟨by omega, ?_, lt_i fun x1 h1 => ?_⟩
  ·refine cond_i (fun _ => cond_i (fun _ => ⟨rfl, rfl, trivial⟩) (fun _ => cond_i (fun _ => ⟨⟨numsP_ints _, numsP_ints _, by omega⟩, cond_i (fun _ => ⟨rfl, trivial⟩) (fun _ => ⟨hC, trivial⟩)⟩) (fun _ => ⟨rfl, hC, trivial⟩))) (fun _ => ⟨rfl, hC, trivial⟩)
  ·have e := smStep_skip (hd := (keepB m f y0 y1)) (o := o) (s := membs 8 k)
   rw [h1] at e
   refine cond_i (fun hx => lt_i fun x2 h2 => ?_) (fun hx => lt_i fun x2 h2 => ?_)
   ·rw [hx] at e
    rw [u64_succ (by omega)] at h2
    subst h2
    refine ⟨_, _, _, _, rfl, ⟨q1, q2, q3⟩, rfl, by omega, by omega, by omega, ?_, ?_⟩
    ·rw [show ((k : Int) + 1).toNat = k + 1 by omega, step, e]; rfl
    ·rw [show ((k : Int) + 1).toNat = k + 1 by omega, step, e]; rfl
   ·rw [hx] at e
    rw [u64_succ (by omega)] at h2
    subst h2
    refine ⟨_, _, _, _, rfl, ⟨q1, q2, q3⟩, rfl, by omega, by omega, by omega, ?_, ?_⟩
    ·rw [show ((k : Int) + 1).toNat = k + 1 by omega, step, e]; rfl
    ·rw [show ((k : Int) + 1).toNat = k + 1 by omega, step, e]; rfl
 ·have h := of_decide_eq_false h
  have hk : k = 256 := by omega
  subst hk
  have e : smallF 8 (keepB m f y0 y1) = o := ho
  rw [e]
  exact LeD.refl _
theorem zero_flash_smallest_a_0 (q : Int) (m : List Muon) (f : Int) (z0 z1 : Int) (y0 y1 : Int) (v0_0 : List Int) (v0_1 : Int) (v0_2 : Int) (v0_3 : Bool)  (hi : (musE m = 0 ∧ inB f 0 8 = true ∧ (0 ≤ y0 ∧ y0 ≤ 1000000000) ∧ 0 ≤ y1 ∧ y1 ≤ 1000000000) ∧ v0_1 = 256 ∧ 0 ≤ v0_2 ∧ v0_2 ≤ 256 ∧ (0 : Int) + v0_2 = 257 ∧ v0_3 = ((List.range v0_2.toNat).foldl (fun o k => smStep (keepB m f y0 y1) o (membs 8 k)) none).isSome ∧ v0_0 = ((List.range v0_2.toNat).foldl (fun o k => smStep (keepB m f y0 y1) o (membs 8 k)) none).getD []) : False := by
 omega
set_option maxHeartbeats 8000000 in
set_option maxRecDepth 100000 in
theorem spec_flash_smallest_a (q : Int) (m : List Muon) (f : Int) (z0 z1 : Int) (y0 y1 : Int) (hp : q = 8 ∧ musE m = 0 ∧ inB f 0 8 = true ∧ (0 ≤ y0 ∧ y0 ≤ 1000000000) ∧ 0 ≤ y1 ∧ y1 ≤ 1000000000) : vc_flash_smallest_a (J_flash_smallest_a q m f z0 z1 y0 y1) q m f z0 z1 y0 y1 (fun r => LeD r (.tu [.c (.sl 1 (((smallF 8 (keepB m f y0 y1)).getD []).length) (intsC ((smallF 8 (keepB m f y0 y1)).getD []))), .c (.v (.bool ((smallF 8 (keepB m f y0 y1)).isSome)))])) := by
 obtain ⟨q0, q1, q2⟩ := hp
 unfold vc_flash_smallest_a
 refine lt_i fun x1 h1 => ⟨by omega, 257, [], x1, 0, false, rfl, ⟨q1, q2⟩, ?_, by omega, by omega, by omega, rfl, rfl⟩
 subst q0
 rw [← h1]; kernel_rfl
theorem all_flash_smallest_a (q : Int) (m : List Muon) (f : Int) (z0 z1 : Int) (y0 y1 : Int) (hp : q = 8 ∧ musE m = 0 ∧ inB f 0 8 = true ∧ (0 ≤ y0 ∧ y0 ≤ 1000000000) ∧ 0 ≤ y1 ∧ y1 ≤ 1000000000) : AllG (J_flash_smallest_a q m f z0 z1 y0 y1) (loopsFn Tryz.prog tab S58 ann_flash_smallest_a (J_flash_smallest_a q m f z0 z1 y0 y1) Tryz.f83 (fun r => LeD r (.tu [.c (.sl 1 (((smallF 8 (keepB m f y0 y1)).getD []).length) (intsC ((smallF 8 (keepB m f y0 y1)).getD []))), .c (.v (.bool ((smallF 8 (keepB m f y0 y1)).isSome)))]))) := by
 rw [lp_flash_smallest_a]
 refine ⟨⟨?_, ?_⟩, trivial⟩
 ·intro F s h
  obtain _ | ⟨g, F⟩ := F
  case cons => exact h.elim
  obtain ⟨w0, w1, w2, w3, rfl, hi⟩ := h
  exact zero_flash_smallest_a_0 q m f z0 z1 y0 y1 w0 w1 w2 w3 hi
 ·intro n F s h
  obtain _ | ⟨g, F⟩ := F
  case cons => exact h.elim
  obtain ⟨w0, w1, w2, w3, rfl, hi⟩ := h
  rw [er_flash_smallest_a_0]
  exact rnd_flash_smallest_a_0 q m f z0 z1 y0 y1 _ _ _ _ _ hp hi
def con_flash_smallest_a : Con := fun args => match args with
 | [.t (.c (.v (.int .i64 q))), .t (.fn 84 [.px 1 0 c_pm, .px 3 0 c_px, .px 2 0 c_pp])] => some (.tu [.c (.sl 1 (((smallF 8 (keepB (muOf (cvLen (c_pm 0)) (cvCells (c_pm 0))) (cvInt (c_px 0)) (cvInt (c_pp 0)) (cvInt (c_pp 1)))).getD []).length) (intsC ((smallF 8 (keepB (muOf (cvLen (c_pm 0)) (cvCells (c_pm 0))) (cvInt (c_px 0)) (cvInt (c_pp 0)) (cvInt (c_pp 1)))).getD []))), .c (.v (.bool ((smallF 8 (keepB (muOf (cvLen (c_pm 0)) (cvCells (c_pm 0))) (cvInt (c_px 0)) (cvInt (c_pp 0)) (cvInt (c_pp 1)))).isSome)))], some (intsB [] c_pm = true ∧ slP 2 (c_pm 0) ∧ muP (cvLen (c_pm 0)) (cvCells (c_pm 0)) ∧ intsB [0, 1, 2] c_px = true ∧ intsB [0, 1] c_pp = true ∧ q = 8 ∧ musE (muOf (cvLen (c_pm 0)) (cvCells (c_pm 0))) = 0 ∧ inB (cvInt (c_px 0)) 0 8 = true ∧ (0 ≤ (cvInt (c_pp 0)) ∧ (cvInt (c_pp 0)) ≤ 1000000000) ∧ 0 ≤ (cvInt (c_pp 1)) ∧ (cvInt (c_pp 1)) ≤ 1000000000), true)
 | _ => none
theorem ok_flash_smallest_a : Ok Tryz.prog 83 con_flash_smallest_a := by
 refine Ok.fnFr (ann := ann_flash_smallest_a) mixed tabOK VS58 ValidIt.no rfl (fn := Tryz.f83) (by kernel_rfl) (by kernel_rfl) fit_flash_smallest_a fun args r pre fresh h hp => ?_
 unfold con_flash_smallest_a at h
 split at h
 ·rename_i q c_pm c_px c_pp
  cases h
  obtain ⟨hp0, hp1, hp2, hp3, hp4, hp⟩ := hp
  refine ⟨rfl, (by intro x hx; simp only [List.mem_cons, List.not_mem_nil, or_false] at hx; rcases hx with rfl | rfl; exact (fun i j _ hj => plain_int _ i j); exact trivial), J_flash_smallest_a q (muOf (cvLen (c_pm 0)) (cvCells (c_pm 0))) (cvInt (c_px 0)) (cvInt (c_px 1)) (cvInt (c_px 2)) (cvInt (c_pp 0)) (cvInt (c_pp 1)), [.t (.c (.v (.int .i64 q))), .t (.fn 84 [.px 1 0 (boxC [.sl 2 ((muOf (cvLen (c_pm 0)) (cvCells (c_pm 0))).length) (musC (muOf (cvLen (c_pm 0)) (cvCells (c_pm 0))))]), .px 3 0 (boxC [.v (.int .i64 (cvInt (c_px 0))), .v (.int .i64 (cvInt (c_px 1))), .v (.int .i64 (cvInt (c_px 2)))]), .px 2 0 (boxC [.v (.int .i64 (cvInt (c_pp 0))), .v (.int .i64 (cvInt (c_pp 1)))])])], ?_, Nat.le_of_ble_eq_true (by kernel_rfl), ?_, ?_⟩
  ·exact (LeA_cons (LeD.refl _) (LeA_cons (leT_f (LeCs.cons (leC_p (LeCs.cons (leC_s hp1 (leL_Muon hp2)) LeCs.nil)) (LeCs.cons (leC_p (LeCs.cons (leC_i (intsB_get hp3 0 (by decide))) (LeCs.cons (leC_i (intsB_get hp3 1 (by decide))) (LeCs.cons (leC_i (intsB_get hp3 2 (by decide))) LeCs.nil)))) (LeCs.cons (leC_p (LeCs.cons (leC_i (intsB_get hp4 0 (by decide))) (LeCs.cons (leC_i (intsB_get hp4 1 (by decide))) LeCs.nil))) LeCs.nil)))) LeA_nil))
  ·rw [ev_flash_smallest_a]; exact spec_flash_smallest_a q (muOf (cvLen (c_pm 0)) (cvCells (c_pm 0))) (cvInt (c_px 0)) (cvInt (c_px 1)) (cvInt (c_px 2)) (cvInt (c_pp 0)) (cvInt (c_pp 1)) hp
  ·exact all_flash_smallest_a q (muOf (cvLen (c_pm 0)) (cvCells (c_pm 0))) (cvInt (c_px 0)) (cvInt (c_px 1)) (cvInt (c_px 2)) (cvInt (c_pp 0)) (cvInt (c_pp 1)) hp
 ·cases h
def S59 : Sum := addF S58 83 con_flash_smallest_a
theorem VS59 : Valid Tryz.prog S59 := Valid.addF VS58 ok_flash_smallest_a
end Go.Proofs.YtdkpgodakmailaaGreatDoor
set_option linter.unusedVariables false
set_option linter.unusedSimpArgs false
namespace Go.Proofs.YtdkpgodakmailaaGreatDoor
open Go.RowKit Ev
def smE (m : List Muon) (f a b : Int) : Int := firstNZ [musE m, unl (inB f 0 8) 2, unl (decide (b > 0) && (gcd2 a b == 1)) 3, unl (inB a 0 b && decide (b ≤ 1000000000)) 2]
def smL (m : List Muon) (f a b : Int) : List Int := if smE m f a b = 0 then (smallF 8 (keepB m f a b)).getD [] else []
def smR (m : List Muon) (f a b : Int) : Int := if smE m f a b = 0 then unl (smallF 8 (keepB m f a b)).isSome 12 else smE m f a b
theorem sm_ok {m : List Muon} {f a b : Int} (h : smE m f a b = 0) : musE m = 0 ∧ inB f 0 8 = true ∧ (0 ≤ a ∧ a ≤ 1000000000) ∧ 0 ≤ b ∧ b ≤ 1000000000 := by
 unfold smE at h
 rw [firstNZ_zero] at h
 have h1 := h _ (List.mem_cons_self ..)
 have h2 := h _ (List.mem_cons_of_mem _ (List.mem_cons_self ..))
 have h4 := h _ (List.mem_cons_of_mem _ (List.mem_cons_of_mem _ (List.mem_cons_of_mem _ (List.mem_cons_self ..))))
 rw [unl_0 (by decide)] at h2 h4
 simp only [Bool.and_eq_true, inB_true, decide_eq_true_eq] at h4
 exact ⟨h1, h2, by omega, by omega⟩
def hitL : List FHit := [⟨⟨0, 0, 0⟩, ⟨100, 101⟩, ⟨5, 6⟩⟩, ⟨⟨8, 0, 0⟩, ⟨106, 107⟩, ⟨5, 6⟩⟩]
def vc_flash_SmallestVeto (m : List Muon) (f : Int) (y0 y1 : Int) (post : DV → Prop) : Prop := (muP m.length (musC m) ∧ muSm (muOf m.length (musC m))) ∧ (cond (decide (y1 > (0 : Int))) (((-9223372036854775808 ≤ y0 ∧ y0 ≤ 9223372036854775807) ∧ (-9223372036854775807 ≤ y1 ∧ y1 ≤ 9223372036854775807) ∧ (y1 ≠ 0 ∨ -9223372036854775807 ≤ y0)) ∧ (cond (inB y0 (0 : Int) y1) ((numsP 1 4 (genC [[.v (.int .i64 (musE (muOf m.length (musC m))))], [.v (.int .i64 (unl (inB f 0 8) (2 : Int)))], [.v (.int .i64 (unl ((gcd2 y0 y1) == (1 : Int)) (3 : Int)))], [.v (.int .i64 (unl (decide (y1 ≤ (1000000000 : Int))) (2 : Int)))]]) ∧ (([(musE (muOf m.length (musC m))), (unl (inB f 0 8) (2 : Int)), (unl ((gcd2 y0 y1) == (1 : Int)) (3 : Int)), (unl (decide (y1 ≤ (1000000000 : Int))) (2 : Int))] : List Int)).length ≤ 100) ∧ (cond ((firstNZ ([(musE (muOf m.length (musC m))), (unl (inB f 0 8) (2 : Int)), (unl ((gcd2 y0 y1) == (1 : Int)) (3 : Int)), (unl (decide (y1 ≤ (1000000000 : Int))) (2 : Int))] : List Int)) != (0 : Int)) (post (.tu [.c (.v (.slice none 0 0)), .c (.v (.int .i64 (firstNZ ([(musE (muOf m.length (musC m))), (unl (inB f 0 8) (2 : Int)), (unl ((gcd2 y0 y1) == (1 : Int)) (3 : Int)), (unl (decide (y1 ≤ (1000000000 : Int))) (2 : Int))] : List Int))))])) ((intsB [] (boxC [.sl 2 m.length (musC m)]) = true ∧ slP 2 ((boxC [.sl 2 m.length (musC m)]) 0) ∧ muP m.length (musC m) ∧ intsB [0, 1, 2] (boxC [.v (.int .i64 f), .v (.int .i64 y0), .v (.int .i64 y1)]) = true ∧ intsB [0, 1] (boxC [.v (.int .i64 y0), .v (.int .i64 y1)]) = true ∧ (8 : Int) = 8 ∧ musE (muOf m.length (musC m)) = 0 ∧ inB f 0 8 = true ∧ (0 ≤ y0 ∧ y0 ≤ 1000000000) ∧ 0 ≤ y1 ∧ y1 ≤ 1000000000) ∧ (post (.tu [.c (.sl 1 (((smallF 8 (keepB (muOf m.length (musC m)) f y0 y1)).getD []).length) (intsC ((smallF 8 (keepB (muOf m.length (musC m)) f y0 y1)).getD []))), .c (.v (.int .i64 (unl ((smallF 8 (keepB (muOf m.length (musC m)) f y0 y1)).isSome) (12 : Int))))]))))) ((false = false) ∧ ((numsP 1 4 (genC [[.v (.int .i64 (musE (muOf m.length (musC m))))], [.v (.int .i64 (unl (inB f 0 8) (2 : Int)))], [.v (.int .i64 (unl ((gcd2 y0 y1) == (1 : Int)) (3 : Int)))], [.v (.int .i64 (unl false (2 : Int)))]]) ∧ (([(musE (muOf m.length (musC m))), (unl (inB f 0 8) (2 : Int)), (unl ((gcd2 y0 y1) == (1 : Int)) (3 : Int)), (unl false (2 : Int))] : List Int)).length ≤ 100) ∧ (cond ((firstNZ ([(musE (muOf m.length (musC m))), (unl (inB f 0 8) (2 : Int)), (unl ((gcd2 y0 y1) == (1 : Int)) (3 : Int)), (unl false (2 : Int))] : List Int)) != (0 : Int)) (post (.tu [.c (.v (.slice none 0 0)), .c (.v (.int .i64 (firstNZ ([(musE (muOf m.length (musC m))), (unl (inB f 0 8) (2 : Int)), (unl ((gcd2 y0 y1) == (1 : Int)) (3 : Int)), (unl false (2 : Int))] : List Int))))])) ((intsB [] (boxC [.sl 2 m.length (musC m)]) = true ∧ slP 2 ((boxC [.sl 2 m.length (musC m)]) 0) ∧ muP m.length (musC m) ∧ intsB [0, 1, 2] (boxC [.v (.int .i64 f), .v (.int .i64 y0), .v (.int .i64 y1)]) = true ∧ intsB [0, 1] (boxC [.v (.int .i64 y0), .v (.int .i64 y1)]) = true ∧ (8 : Int) = 8 ∧ musE (muOf m.length (musC m)) = 0 ∧ inB f 0 8 = true ∧ (0 ≤ y0 ∧ y0 ≤ 1000000000) ∧ 0 ≤ y1 ∧ y1 ≤ 1000000000) ∧ (post (.tu [.c (.sl 1 (((smallF 8 (keepB (muOf m.length (musC m)) f y0 y1)).getD []).length) (intsC ((smallF 8 (keepB (muOf m.length (musC m)) f y0 y1)).getD []))), .c (.v (.int .i64 (unl ((smallF 8 (keepB (muOf m.length (musC m)) f y0 y1)).isSome) (12 : Int))))])))))))) ((false = false) ∧ (cond (inB y0 (0 : Int) y1) ((numsP 1 4 (genC [[.v (.int .i64 (musE (muOf m.length (musC m))))], [.v (.int .i64 (unl (inB f 0 8) (2 : Int)))], [.v (.int .i64 (unl false (3 : Int)))], [.v (.int .i64 (unl (decide (y1 ≤ (1000000000 : Int))) (2 : Int)))]]) ∧ (([(musE (muOf m.length (musC m))), (unl (inB f 0 8) (2 : Int)), (unl false (3 : Int)), (unl (decide (y1 ≤ (1000000000 : Int))) (2 : Int))] : List Int)).length ≤ 100) ∧ (cond ((firstNZ ([(musE (muOf m.length (musC m))), (unl (inB f 0 8) (2 : Int)), (unl false (3 : Int)), (unl (decide (y1 ≤ (1000000000 : Int))) (2 : Int))] : List Int)) != (0 : Int)) (post (.tu [.c (.v (.slice none 0 0)), .c (.v (.int .i64 (firstNZ ([(musE (muOf m.length (musC m))), (unl (inB f 0 8) (2 : Int)), (unl false (3 : Int)), (unl (decide (y1 ≤ (1000000000 : Int))) (2 : Int))] : List Int))))])) ((intsB [] (boxC [.sl 2 m.length (musC m)]) = true ∧ slP 2 ((boxC [.sl 2 m.length (musC m)]) 0) ∧ muP m.length (musC m) ∧ intsB [0, 1, 2] (boxC [.v (.int .i64 f), .v (.int .i64 y0), .v (.int .i64 y1)]) = true ∧ intsB [0, 1] (boxC [.v (.int .i64 y0), .v (.int .i64 y1)]) = true ∧ (8 : Int) = 8 ∧ musE (muOf m.length (musC m)) = 0 ∧ inB f 0 8 = true ∧ (0 ≤ y0 ∧ y0 ≤ 1000000000) ∧ 0 ≤ y1 ∧ y1 ≤ 1000000000) ∧ (post (.tu [.c (.sl 1 (((smallF 8 (keepB (muOf m.length (musC m)) f y0 y1)).getD []).length) (intsC ((smallF 8 (keepB (muOf m.length (musC m)) f y0 y1)).getD []))), .c (.v (.int .i64 (unl ((smallF 8 (keepB (muOf m.length (musC m)) f y0 y1)).isSome) (12 : Int))))]))))) ((false = false) ∧ ((numsP 1 4 (genC [[.v (.int .i64 (musE (muOf m.length (musC m))))], [.v (.int .i64 (unl (inB f 0 8) (2 : Int)))], [.v (.int .i64 (unl false (3 : Int)))], [.v (.int .i64 (unl false (2 : Int)))]]) ∧ (([(musE (muOf m.length (musC m))), (unl (inB f 0 8) (2 : Int)), (unl false (3 : Int)), (unl false (2 : Int))] : List Int)).length ≤ 100) ∧ (cond ((firstNZ ([(musE (muOf m.length (musC m))), (unl (inB f 0 8) (2 : Int)), (unl false (3 : Int)), (unl false (2 : Int))] : List Int)) != (0 : Int)) (post (.tu [.c (.v (.slice none 0 0)), .c (.v (.int .i64 (firstNZ ([(musE (muOf m.length (musC m))), (unl (inB f 0 8) (2 : Int)), (unl false (3 : Int)), (unl false (2 : Int))] : List Int))))])) ((intsB [] (boxC [.sl 2 m.length (musC m)]) = true ∧ slP 2 ((boxC [.sl 2 m.length (musC m)]) 0) ∧ muP m.length (musC m) ∧ intsB [0, 1, 2] (boxC [.v (.int .i64 f), .v (.int .i64 y0), .v (.int .i64 y1)]) = true ∧ intsB [0, 1] (boxC [.v (.int .i64 y0), .v (.int .i64 y1)]) = true ∧ (8 : Int) = 8 ∧ musE (muOf m.length (musC m)) = 0 ∧ inB f 0 8 = true ∧ (0 ≤ y0 ∧ y0 ≤ 1000000000) ∧ 0 ≤ y1 ∧ y1 ≤ 1000000000) ∧ (post (.tu [.c (.sl 1 (((smallF 8 (keepB (muOf m.length (musC m)) f y0 y1)).getD []).length) (intsC ((smallF 8 (keepB (muOf m.length (musC m)) f y0 y1)).getD []))), .c (.v (.int .i64 (unl ((smallF 8 (keepB (muOf m.length (musC m)) f y0 y1)).isSome) (12 : Int))))])))))))))
def ann_flash_SmallestVeto : Ann := ⟨fun r => lookA r [(2, ([[], [0], [], [2], [0, 1, 2, 3], [0, 1, 2, 3, 4], [], [6], [6, 7], [0, 1, 2, 3, 4, 5, 6, 7, 8], [0, 1, 2, 3, 4, 5, 6, 7, 8, 9], [0, 1, 2, 3, 4, 5, 6, 7, 8, 9, 10], [0, 1, 2, 3, 4, 5, 6, 7, 8, 9], [0, 1, 2, 3, 4, 5, 6, 7, 8, 9, 12], [0, 1, 2, 3, 4, 5, 6, 7, 8, 9, 10, 11, 12, 13], [0, 1, 2, 3, 4, 5, 6, 7, 8, 9, 10, 11, 12, 13, 14], [0, 1, 2, 3, 4, 5, 6, 7, 8, 9, 10, 11, 12, 13, 14, 15], [0, 1, 2, 3, 4, 5, 6, 7, 8, 9, 10, 11, 12, 13, 14, 15, 16], [], [18], [], [20], [0, 1, 2, 3, 4, 5, 6, 7, 8, 9, 10, 11, 12, 13, 14, 15, 16, 17, 18, 19, 20, 21], [0, 1, 2, 3, 4, 5, 6, 7, 8, 9, 10, 11, 12, 13, 14, 15, 16, 17, 18, 19, 20, 21, 22], [0, 1, 2, 3, 4, 5, 6, 7, 8, 9, 10, 11, 12, 13, 14, 15, 16, 17, 18, 19, 20, 21, 22, 23], [0, 1, 2, 3, 4, 5, 6, 7, 8, 9, 10, 11, 12, 13, 14, 15, 16, 17, 18, 19, 20, 21, 22, 23, 24], [0, 1, 2, 3, 4, 5, 6, 7, 8, 9, 10, 11, 12, 13, 14, 15, 16, 17, 18, 19, 20, 21, 22, 23, 24, 25], [0, 1, 2, 3, 4, 5, 6, 7, 8, 9, 10, 11, 12, 13, 14, 15, 16, 17, 18, 19, 20, 21, 22, 23, 24, 25, 26], [0, 1, 2, 3, 4, 5, 6, 7, 8, 9, 10, 11, 12, 13, 14, 15, 16, 17, 18, 19, 20, 21, 22, 23, 24, 25, 26, 27], [0, 1, 2, 3, 4, 5, 6, 7, 8, 9, 10, 11, 12, 13, 14, 15, 16, 17, 18, 19, 20, 21, 22, 23, 24, 25, 26, 27, 28], [0, 1, 2, 3, 4, 5, 6, 7, 8, 9, 10, 11, 12, 13, 14, 15, 16, 17, 18, 19, 20, 21, 22, 23, 24, 25, 26, 27, 28, 29], [0, 1, 2, 3, 4, 5, 6, 7, 8, 9, 10, 11, 12, 13, 14, 15, 16, 17, 18, 19, 20, 21, 22, 23, 24, 25, 26, 27, 28, 29, 30]], [[13, 16, 17, 26, 29, 34, 40, 41, 42], [16, 17, 26, 29, 34, 40, 41, 42], [13, 16, 17, 26, 29, 34, 40, 41, 42], [13, 16, 17, 26, 29, 34, 40, 41, 42], [17, 26, 29, 34, 40, 41, 42], [26, 29, 34, 40, 41, 42], [13, 16, 17, 26, 29, 34, 40, 41, 42], [13, 16, 17, 26, 29, 34, 40, 41, 42], [13, 16, 17, 26, 29, 34, 40, 41, 42], [26, 29, 34, 40, 41, 42], [26, 29, 34, 40, 41, 42], [26, 29, 34, 40, 41, 42], [26, 29, 34, 40, 41, 42], [26, 29, 34, 40, 41, 42], [29, 34, 40, 41, 42], [29, 34, 40, 41, 42], [29, 34, 40, 41, 42], [34, 40, 41, 42], [13, 16, 17, 26, 29, 34, 40, 41, 42], [13, 16, 17, 26, 29, 34, 40, 41, 42], [13, 16, 17, 26, 29, 34, 40, 41, 42], [13, 16, 17, 26, 29, 34, 40, 41, 42], [40, 41, 42], [40, 41, 42], [40, 41, 42], [40, 41, 42], [40, 41, 42], [40, 41, 42], [41, 42], [42], [], []]))], fun _ => none, fun _ => [], noIt, false, fun _ => none, fun _ => none⟩
theorem ev_flash_SmallestVeto (J : Inv) (m : List Muon) (f : Int) (y0 y1 : Int) (post : DV → Prop) : evFn Tryz.prog tab S59 ann_flash_SmallestVeto J Tryz.f28 [.t (.c (.sl 2 m.length (musC m))), .t (.a [.v (.int .i64 f), .v (.int .i64 y0), .v (.int .i64 y1)])] post = vc_flash_SmallestVeto m f y0 y1 post := by kernel_rfl
theorem fit_flash_SmallestVeto : okFn ann_flash_SmallestVeto Tryz.f28 = true := by kernel_rfl
theorem lp_flash_SmallestVeto (J : Inv) (post : DV → Prop) : AllG J (loopsFn Tryz.prog tab S59 ann_flash_SmallestVeto J Tryz.f28 post) = (True) := by kernel_rfl
set_option maxHeartbeats 8000000 in
set_option maxRecDepth 100000 in
theorem spec_flash_SmallestVeto (m : List Muon) (f : Int) (y0 y1 : Int) (hp : muSm m ∧ (-9223372036854775808 ≤ y0 ∧ y0 ≤ 9223372036854775807) ∧ (-9223372036854775808 ≤ y1 ∧ y1 ≤ 9223372036854775807)) : vc_flash_SmallestVeto m f y0 y1 (fun r => LeD r (.tu [.c (.sl 1 ((smL m f y0 y1).length) (intsC (smL m f y0 y1))), .c (.v (.int .i64 (smR m f y0 y1)))])) := by
 obtain ⟨h0, h1, h2⟩ := hp
 unfold vc_flash_SmallestVeto
 rw [mus_of]
 have bad : smE m f y0 y1 ≠ 0 → LeD (.tu [.c (.v (.slice none 0 0)), .c (.v (.int .i64 (smE m f y0 y1)))]) (.tu [.c (.sl 1 (smL m f y0 y1).length (intsC (smL m f y0 y1))), .c (.v (.int .i64 (smR m f y0 y1)))]) := fun h => by
  rw [show smL m f y0 y1 = [] from if_neg h, show smR m f y0 y1 = smE m f y0 y1 from if_neg h]
  exact le_tu le_nil (LeD.refl _)
 have good : smE m f y0 y1 = 0 → (musE m = 0 ∧ inB f 0 8 = true ∧ (0 ≤ y0 ∧ y0 ≤ 1000000000) ∧ 0 ≤ y1 ∧ y1 ≤ 1000000000) ∧ LeD (.tu [.c (.sl 1 (((smallF 8 (keepB m f y0 y1)).getD []).length) (intsC ((smallF 8 (keepB m f y0 y1)).getD []))), .c (.v (.int .i64 (unl ((smallF 8 (keepB m f y0 y1)).isSome) (12 : Int))))]) (.tu [.c (.sl 1 (smL m f y0 y1).length (intsC (smL m f y0 y1))), .c (.v (.int .i64 (smR m f y0 y1)))]) := fun h => by
  refine ⟨sm_ok h, ?_⟩
  rw [show smL m f y0 y1 = (smallF 8 (keepB m f y0 y1)).getD [] from if_pos h, show smR m f y0 y1 = unl (smallF 8 (keepB m f y0 y1)).isSome 12 from if_pos h]
  exact LeD.refl _
 have d1 : y1 > 0 → (-9223372036854775808 ≤ y0 ∧ y0 ≤ 9223372036854775807) ∧ (-9223372036854775807 ≤ y1 ∧ y1 ≤ 9223372036854775807) ∧ (y1 ≠ 0 ∨ -9223372036854775807 ≤ y0) := fun h => by omega
 refine ⟨⟨muP_mus m, h0⟩, cond_i (fun a1 => ⟨d1 (of_decide_eq_true a1), cond_i (fun a2 => ⟨⟨numsP_gen [_, _, _, _], Nat.le_of_ble_eq_true rfl⟩, ?_⟩) (fun a2 => ⟨rfl, ⟨numsP_gen [_, _, _, _], Nat.le_of_ble_eq_true rfl⟩, ?_⟩)⟩) (fun a1 => ⟨rfl, cond_i (fun a2 => ⟨⟨numsP_gen [_, _, _, _], Nat.le_of_ble_eq_true rfl⟩, ?_⟩) (fun a2 => ⟨rfl, ⟨numsP_gen [_, _, _, _], Nat.le_of_ble_eq_true rfl⟩, ?_⟩)⟩)⟩
 all_goals
  have e : smE m f y0 y1 = firstNZ [musE m, unl (inB f 0 8) 2, unl (decide (y1 > 0) && (gcd2 y0 y1 == 1)) 3, unl (inB y0 0 y1 && decide (y1 ≤ 1000000000)) 2] := rfl
  rw [a1, a2] at e
  simp only [Bool.true_and, Bool.false_and] at e
  rw [← e]
  refine cond_i (fun q => bad (by simpa using q)) (fun q => ?_)
  obtain ⟨⟨g1, g2, g3, g4⟩, g5⟩ := good (by simpa using q)
  exact ⟨⟨rfl, rfl, muP_mus m, rfl, rfl, rfl, g1, g2, g3, g4⟩, g5⟩
def con_flash_SmallestVeto : Con := fun args => match args with
 | [.t (.c (.sl 2 n_m c_m)), .t (.a [.v (.int .i64 f), .v (.int .i64 y0), .v (.int .i64 y1)])] => some (.tu [.c (.sl 1 ((smL (muOf n_m c_m) f y0 y1).length) (intsC (smL (muOf n_m c_m) f y0 y1))), .c (.v (.int .i64 (smR (muOf n_m c_m) f y0 y1)))], some (muP n_m c_m ∧ muSm (muOf n_m c_m) ∧ (-9223372036854775808 ≤ y0 ∧ y0 ≤ 9223372036854775807) ∧ (-9223372036854775808 ≤ y1 ∧ y1 ≤ 9223372036854775807)), false)
 | _ => none
theorem ok_flash_SmallestVeto : Ok Tryz.prog 28 con_flash_SmallestVeto := by
 refine Ok.fn (ann := ann_flash_SmallestVeto) mixed tabOK VS59 ValidIt.no (fn := Tryz.f28) (by kernel_rfl) (by kernel_rfl) fit_flash_SmallestVeto fun args r pre fresh h hp => ?_
 unfold con_flash_SmallestVeto at h
 split at h
 ·rename_i n_m c_m f y0 y1
  cases h
  obtain ⟨hp0, hp⟩ := hp
  refine ⟨rfl, fun _ _ _ => False, [.t (.c (.sl 2 ((muOf n_m c_m).length) (musC (muOf n_m c_m)))), .t (.a [.v (.int .i64 f), .v (.int .i64 y0), .v (.int .i64 y1)])], ?_, Nat.le_of_ble_eq_true (by kernel_rfl), ?_, ?_⟩
  ·exact (LeA_cons (leT_c ((leL_Muon hp0))) (LeA_cons (leT_a (LeCs.cons (LeC1.refl _) (LeCs.cons (LeC1.refl _) (LeCs.cons (LeC1.refl _) LeCs.nil)))) LeA_nil))
  ·rw [ev_flash_SmallestVeto]; exact spec_flash_SmallestVeto (muOf n_m c_m) f y0 y1 hp
  ·rw [lp_flash_SmallestVeto]; trivial
 ·cases h
def S60 : Sum := addS S59 28 con_flash_SmallestVeto
theorem VS60 : Valid Tryz.prog S60 := Valid.add VS59 ok_flash_SmallestVeto
def mk_base_Ints_0 (l : List Int) (l2 : List Int) (v0_0 : Int) : DS := ⟨[some (.t (.c (.sl 1 l.length (intsC l)))), some (.t (.c (.sl 1 l2.length (intsC l2)))), none, none, none, some (.t (.c (.v (.int .i64 v0_0)))), none, none, none, none, none, none, none, none, none, none, none, none, none, none, none, none, none, none, none, none], [none, none, none, none, none, none, none, none, none, none, none, none, none, none, none, none, none, none, none, none, none, none, none, none, none, none]⟩
def vc_base_Ints (J : Inv) (l : List Int) (l2 : List Int) (post : DV → Prop) : Prop := cond (((l.length : Nat) : Int) != ((l2.length : Nat) : Int)) (post (.t (.c (.v (.bool false))))) (∃ n, J 0 (n :: []) (mk_base_Ints_0 l l2 0))
def ann_base_Ints : Ann := ⟨fun r => lookA r [(6, ([[], [], [0, 1], [0, 1, 2], [], [], [4, 5], [4, 5, 6], [0, 1, 2, 3, 4, 5, 6, 7]], [[], [], [], [], [], [], [], [], []]))], fun b => lookA b [(0, (none, some ⟨[0, 1, 5], [], []⟩))], fun _ => [], noIt, false, fun _ => none, fun _ => none⟩
theorem ev_base_Ints (J : Inv) (l : List Int) (l2 : List Int) (post : DV → Prop) : evFn Tryz.prog tab S60 ann_base_Ints J Tryz.f17 [.t (.c (.sl 1 l.length (intsC l))), .t (.c (.sl 1 l2.length (intsC l2)))] post = vc_base_Ints J l l2 post := by kernel_rfl
theorem fit_base_Ints : okFn ann_base_Ints Tryz.f17 = true := by kernel_rfl
def rd_base_Ints_0 (J : Inv) (l : List Int) (l2 : List Int) (v0_0 : Int) (nn0 : Nat) (post : DV → Prop) : Prop := cond (decide (v0_0 < ((l.length : Nat) : Int))) ((0 ≤ v0_0 ∧ v0_0 < ((l.length : Nat) : Int)) ∧ ((0 ≤ v0_0 ∧ v0_0 < ((l2.length : Nat) : Int)) ∧ (cond ((l.getD v0_0.toNat 0) != (l2.getD v0_0.toNat 0)) (post (.t (.c (.v (.bool false))))) (lt (IntKind.i64.wrap (v0_0 + (1 : Int))) fun x1 => J 0 (nn0 :: []) (mk_base_Ints_0 l l2 x1))))) (post (.t (.c (.v (.bool true)))))
theorem er_base_Ints_0 (J : Inv) (l : List Int) (l2 : List Int) (v0_0 : Int) (nn0 : Nat) (post : DV → Prop) : round Tryz.prog tab S60 ann_base_Ints J Tryz.f17 post 0 (nn0 :: []) (mk_base_Ints_0 l l2 v0_0) = rd_base_Ints_0 J l l2 v0_0 nn0 post := by kernel_rfl
theorem lp_base_Ints (J : Inv) (post : DV → Prop) : AllG J (loopsFn Tryz.prog tab S60 ann_base_Ints J Tryz.f17 post) = (((∀ F s, ¬ J 0 (0 :: F) s) ∧ ∀ n F s, J 0 ((n + 1) :: F) s → round Tryz.prog tab S60 ann_base_Ints J Tryz.f17 post 0 (n :: F) s) ∧ True) := by kernel_rfl
def J_base_Ints (l : List Int) (l2 : List Int) : Inv := fun b F s => match b, F with
 | 0, [nn0] => ∃ (v0_0 : Int), s = mk_base_Ints_0 l l2 v0_0 ∧ (l.length ≤ 1000000 ∧ 0 ≤ v0_0 ∧ v0_0 ≤ l.length ∧ (nn0 : Int) + v0_0 = l.length + 1 ∧ l.length = l2.length ∧ ∀ j : Nat, (j : Int) < v0_0 → l.getD j 0 = l2.getD j 0)
 | _, _ => False
theorem rnd_base_Ints_0 (l : List Int) (l2 : List Int) (v0_0 : Int) (nn0 : Nat) (hp : (l).length ≤ 1000000) (hi : l.length ≤ 1000000 ∧ 0 ≤ v0_0 ∧ v0_0 ≤ l.length ∧ ((nn0 + 1) : Int) + v0_0 = l.length + 1 ∧ l.length = l2.length ∧ ∀ j : Nat, (j : Int) < v0_0 → l.getD j 0 = l2.getD j 0) : rd_base_Ints_0 (J_base_Ints l l2) l l2 v0_0 nn0 (fun r => LeD r (.t (.c (.v (.bool (decide (l = l2))))))) := by
 obtain ⟨i0, i1, i2, i3, i4, i5⟩ := hi
 obtain ⟨k, rfl⟩ : ∃ k : Nat, v0_0 = k := ⟨v0_0.toNat, by omega⟩
 have hk : (k : Int).toNat = k := rfl
 unfold rd_base_Ints_0
 rw [hk]
 refine cond_i (fun h => ?_) (fun h => leB ?_)
 ·have hlt : k < l.length := by have := of_decide_eq_true h; omega
  refine ⟨by omega, by omega, cond_i (fun e => leB ?_) (fun e => lt_i fun x hx => ?_)⟩
  ·refine (decide_eq_false fun q => ?_).symm
   rw [q] at e
   simp at e
  ·have e : l.getD k 0 = l2.getD k 0 := by simpa using e
   rw [wi (by omega)] at hx
   subst hx
   exact ⟨_, rfl, i0, by omega, by omega, by omega, i4, fun j hj => by
    by_cases q : j = k
    ·rw [q]; exact e
    ·exact i5 j (by omega)⟩
 ·have hge : k = l.length := by have := of_decide_eq_false h; omega
  refine (decide_eq_true (List.ext_getElem? fun i => ?_)).symm
  by_cases hi : i < l.length
  ·have := i5 i (by omega)
   simp only [List.getD, List.getElem?_eq_getElem hi, List.getElem?_eq_getElem (i4 ▸ hi), Option.getD_some] at this
   rw [List.getElem?_eq_getElem hi, List.getElem?_eq_getElem (i4 ▸ hi), this]
  ·rw [List.getElem?_eq_none (by omega), List.getElem?_eq_none (by omega)]
theorem zero_base_Ints_0 (l : List Int) (l2 : List Int) (v0_0 : Int)  (hi : l.length ≤ 1000000 ∧ 0 ≤ v0_0 ∧ v0_0 ≤ l.length ∧ (0 : Int) + v0_0 = l.length + 1 ∧ l.length = l2.length ∧ ∀ j : Nat, (j : Int) < v0_0 → l.getD j 0 = l2.getD j 0) : False := by
 omega
theorem spec_base_Ints (l : List Int) (l2 : List Int) (hp : (l).length ≤ 1000000) : vc_base_Ints (J_base_Ints l l2) l l2 (fun r => LeD r (.t (.c (.v (.bool (decide (l = l2))))))) := by
  unfold vc_base_Ints
  refine cond_i (fun h => leB ?_) (fun h => ?_)
  · have h : l.length ≠ l2.length := by intro e; rw [e] at h; simp at h
    exact (decide_eq_false fun e => h (by rw [e])).symm
  · have h : l.length = l2.length := by have h : (l.length : Int) = l2.length := by simpa using h
                                        omega
    exact ⟨l.length + 1, 0, rfl, hp, by omega, by omega, by omega, h, fun j hj => by omega⟩
theorem all_base_Ints (l : List Int) (l2 : List Int) (hp : (l).length ≤ 1000000) : AllG (J_base_Ints l l2) (loopsFn Tryz.prog tab S60 ann_base_Ints (J_base_Ints l l2) Tryz.f17 (fun r => LeD r (.t (.c (.v (.bool (decide (l = l2)))))))) := by
 rw [lp_base_Ints]
 refine ⟨⟨?_, ?_⟩, trivial⟩
 ·intro F s h
  obtain _ | ⟨g, F⟩ := F
  case cons => exact h.elim
  obtain ⟨w0, rfl, hi⟩ := h
  exact zero_base_Ints_0 l l2 w0 hi
 ·intro n F s h
  obtain _ | ⟨g, F⟩ := F
  case cons => exact h.elim
  obtain ⟨w0, rfl, hi⟩ := h
  rw [er_base_Ints_0]
  exact rnd_base_Ints_0 l l2 _ _ hp hi
def con_base_Ints : Con := fun args => match args with
 | [.t (.c (.sl 1 n_l c_l)), .t (.c (.sl 1 n_l2 c_l2))] => some (.t (.c (.v (.bool (decide ((listC n_l mkInt c_l) = (listC n_l2 mkInt c_l2)))))), some (numsP 1 n_l c_l ∧ numsP 1 n_l2 c_l2 ∧ ((listC n_l mkInt c_l)).length ≤ 1000000), false)
 | _ => none
theorem ok_base_Ints : Ok Tryz.prog 17 con_base_Ints := by
 refine Ok.fn (ann := ann_base_Ints) mixed tabOK VS60 ValidIt.no (fn := Tryz.f17) (by kernel_rfl) (by kernel_rfl) fit_base_Ints fun args r pre fresh h hp => ?_
 unfold con_base_Ints at h
 split at h
 ·rename_i n_l c_l n_l2 c_l2
  cases h
  obtain ⟨hp0, hp1, hp⟩ := hp
  refine ⟨rfl, J_base_Ints (listC n_l mkInt c_l) (listC n_l2 mkInt c_l2), [.t (.c (.sl 1 ((listC n_l mkInt c_l).length) (intsC (listC n_l mkInt c_l)))), .t (.c (.sl 1 ((listC n_l2 mkInt c_l2).length) (intsC (listC n_l2 mkInt c_l2))))], ?_, Nat.le_of_ble_eq_true (by kernel_rfl), ?_, ?_⟩
  ·exact (LeA_cons (leT_c ((leL_int hp0))) (LeA_cons (leT_c ((leL_int hp1))) LeA_nil))
  ·rw [ev_base_Ints]; exact spec_base_Ints (listC n_l mkInt c_l) (listC n_l2 mkInt c_l2) hp
  ·exact all_base_Ints (listC n_l mkInt c_l) (listC n_l2 mkInt c_l2) hp
 ·cases h
def S61 : Sum := addS S60 17 con_base_Ints
theorem VS61 : Valid Tryz.prog S61 := Valid.add VS60 ok_base_Ints
def vc_base_Whole (a : Int) (post : DV → Prop) : Prop := post (.t (.a [.v (.int .i64 a), .v (.int .i64 1)]))
def ann_base_Whole : Ann := ⟨fun _ => none, fun _ => none, fun _ => [], noIt, false, fun _ => none, fun _ => none⟩
theorem ev_base_Whole (J : Inv) (a : Int) (post : DV → Prop) : evFn Tryz.prog tab S61 ann_base_Whole J Tryz.f85 [.t (.c (.v (.int .i64 a)))] post = vc_base_Whole a post := by kernel_rfl
theorem fit_base_Whole : okFn ann_base_Whole Tryz.f85 = true := by kernel_rfl
theorem lp_base_Whole (J : Inv) (post : DV → Prop) : AllG J (loopsFn Tryz.prog tab S61 ann_base_Whole J Tryz.f85 post) = (True) := by kernel_rfl
theorem spec_base_Whole (a : Int) : vc_base_Whole a (fun r => LeD r (.t (.a [.v (.int .i64 a), .v (.int .i64 1)]))) := by
 exact LeD.refl _
def con_base_Whole : Con := fun args => match args with
 | [.t (.c (.v (.int .i64 a)))] => some (.t (.a [.v (.int .i64 a), .v (.int .i64 1)]), none, false)
 | _ => none
theorem ok_base_Whole : Ok Tryz.prog 85 con_base_Whole := by
 refine Ok.fn (ann := ann_base_Whole) mixed tabOK VS61 ValidIt.no (fn := Tryz.f85) (by kernel_rfl) (by kernel_rfl) fit_base_Whole fun args r pre fresh h hp => ?_
 unfold con_base_Whole at h
 split at h
 ·rename_i a
  cases h
  refine ⟨rfl, fun _ _ _ => False, _, LeA.refl _, Nat.le_of_ble_eq_true (by kernel_rfl), ?_, ?_⟩
  ·rw [ev_base_Whole]; exact spec_base_Whole a
  ·rw [lp_base_Whole]; trivial
 ·cases h
def S62 : Sum := addS S61 85 con_base_Whole
theorem VS62 : Valid Tryz.prog S62 := Valid.add VS61 ok_base_Whole
def vc_base_Size (a : Int) (post : DV → Prop) : Prop := lt (IntKind.i64.wrap ((0 : Int) - a)) fun x1 => lt ((if x1 > a then x1 else a)) fun x2 => post (.t (.c (.v (.int .i64 x2))))
def ann_base_Size : Ann := ⟨fun _ => none, fun _ => none, fun _ => [], noIt, false, fun _ => none, fun _ => none⟩
theorem ev_base_Size (J : Inv) (a : Int) (post : DV → Prop) : evFn Tryz.prog tab S62 ann_base_Size J Tryz.f43 [.t (.c (.v (.int .i64 a)))] post = vc_base_Size a post := by kernel_rfl
theorem fit_base_Size : okFn ann_base_Size Tryz.f43 = true := by kernel_rfl
theorem lp_base_Size (J : Inv) (post : DV → Prop) : AllG J (loopsFn Tryz.prog tab S62 ann_base_Size J Tryz.f43 post) = (True) := by kernel_rfl
theorem spec_base_Size (a : Int) (hp : -9223372036854775807 ≤ a ∧ a ≤ 9223372036854775807) : vc_base_Size a (fun r => LeD r (.t (.c (.v (.int .i64 (max a (-a))))))) := by
 unfold vc_base_Size
 refine lt_i fun x1 h1 => lt_i fun x2 h2 => leI ?_
 rw [IntWalk.i64_in _ (by omega)] at h1
 rw [mx_if] at h2
 rw [← h2, ← h1, Int.zero_sub]
def con_base_Size : Con := fun args => match args with
 | [.t (.c (.v (.int .i64 a)))] => some (.t (.c (.v (.int .i64 (max a (-a))))), some (-9223372036854775807 ≤ a ∧ a ≤ 9223372036854775807), false)
 | _ => none
theorem ok_base_Size : Ok Tryz.prog 43 con_base_Size := by
 refine Ok.fn (ann := ann_base_Size) mixed tabOK VS62 ValidIt.no (fn := Tryz.f43) (by kernel_rfl) (by kernel_rfl) fit_base_Size fun args r pre fresh h hp => ?_
 unfold con_base_Size at h
 split at h
 ·rename_i a
  cases h
  refine ⟨rfl, fun _ _ _ => False, _, LeA.refl _, Nat.le_of_ble_eq_true (by kernel_rfl), ?_, ?_⟩
  ·rw [ev_base_Size]; exact spec_base_Size a hp
  ·rw [lp_base_Size]; trivial
 ·cases h
def S63 : Sum := addS S62 43 con_base_Size
theorem VS63 : Valid Tryz.prog S63 := Valid.add VS62 ok_base_Size
def mk_base_Gcd_0 (a : Int) (c : Int) (v0_0 : Int) (v0_1 : Int) : DS := ⟨[some (.t (.c (.v (.int .i64 v0_0)))), some (.t (.c (.v (.int .i64 v0_1)))), none, none, none, none, none, none, none, none, none, none, none], [none, none, none, none, none, none, none, none, none, none, none, none, none]⟩
def vc_base_Gcd (J : Inv) (a : Int) (c : Int) (post : DV → Prop) : Prop := ∃ n, J 0 (n :: []) (mk_base_Gcd_0 a c a c)
def ann_base_Gcd : Ann := ⟨fun r => lookA r [(2, ([[], [], [], [1, 2], [0, 1], [0, 1, 2, 3, 4]], [[], [], [], [], [], []]))], fun b => lookA b [(0, (none, some ⟨[0, 1], [], []⟩))], fun _ => [], noIt, false, fun _ => none, fun _ => none⟩
theorem ev_base_Gcd (J : Inv) (a : Int) (c : Int) (post : DV → Prop) : evFn Tryz.prog tab S63 ann_base_Gcd J Tryz.f72 [.t (.c (.v (.int .i64 a))), .t (.c (.v (.int .i64 c)))] post = vc_base_Gcd J a c post := by kernel_rfl
theorem fit_base_Gcd : okFn ann_base_Gcd Tryz.f72 = true := by kernel_rfl
def rd_base_Gcd_0 (J : Inv) (a : Int) (c : Int) (v0_0 : Int) (v0_1 : Int) (nn0 : Nat) (post : DV → Prop) : Prop := cond (v0_1 != (0 : Int)) (lt (Int.tmod v0_0 v0_1) fun x1 => (IntKind.i64 = IntKind.i64 ∧ v0_1 ≠ 0) ∧ (J 0 (nn0 :: []) (mk_base_Gcd_0 a c v0_1 x1))) ((-9223372036854775807 ≤ v0_0 ∧ v0_0 ≤ 9223372036854775807) ∧ (post (.t (.c (.v (.int .i64 (max v0_0 (-v0_0))))))))
theorem er_base_Gcd_0 (J : Inv) (a : Int) (c : Int) (v0_0 : Int) (v0_1 : Int) (nn0 : Nat) (post : DV → Prop) : round Tryz.prog tab S63 ann_base_Gcd J Tryz.f72 post 0 (nn0 :: []) (mk_base_Gcd_0 a c v0_0 v0_1) = rd_base_Gcd_0 J a c v0_0 v0_1 nn0 post := by kernel_rfl
theorem lp_base_Gcd (J : Inv) (post : DV → Prop) : AllG J (loopsFn Tryz.prog tab S63 ann_base_Gcd J Tryz.f72 post) = (((∀ F s, ¬ J 0 (0 :: F) s) ∧ ∀ n F s, J 0 ((n + 1) :: F) s → round Tryz.prog tab S63 ann_base_Gcd J Tryz.f72 post 0 (n :: F) s) ∧ True) := by kernel_rfl
def J_base_Gcd (a : Int) (c : Int) : Inv := fun b F s => match b, F with
 | 0, [nn0] => ∃ (v0_0 : Int) (v0_1 : Int), s = mk_base_Gcd_0 a c v0_0 v0_1 ∧ (gcd2 v0_0 v0_1 = gcd2 a c ∧ v0_1.natAbs < nn0 ∧ (-9223372036854775808 ≤ v0_0 ∧ v0_0 ≤ 9223372036854775807) ∧ (-9223372036854775807 ≤ v0_1 ∧ v0_1 ≤ 9223372036854775807) ∧ (v0_1 ≠ 0 ∨ -9223372036854775807 ≤ v0_0))
 | _, _ => False
theorem rnd_base_Gcd_0 (a : Int) (c : Int) (v0_0 : Int) (v0_1 : Int) (nn0 : Nat) (hp : (-9223372036854775808 ≤ a ∧ a ≤ 9223372036854775807) ∧ (-9223372036854775807 ≤ c ∧ c ≤ 9223372036854775807) ∧ (c ≠ 0 ∨ -9223372036854775807 ≤ a)) (hi : gcd2 v0_0 v0_1 = gcd2 a c ∧ v0_1.natAbs < (nn0 + 1) ∧ (-9223372036854775808 ≤ v0_0 ∧ v0_0 ≤ 9223372036854775807) ∧ (-9223372036854775807 ≤ v0_1 ∧ v0_1 ≤ 9223372036854775807) ∧ (v0_1 ≠ 0 ∨ -9223372036854775807 ≤ v0_0)) : rd_base_Gcd_0 (J_base_Gcd a c) a c v0_0 v0_1 nn0 (fun r => LeD r (.t (.c (.v (.int .i64 (gcd2 a c)))))) := by
 obtain ⟨i1, i2, i3, i4, i5⟩ := hi
 unfold rd_base_Gcd_0
 refine cond_i (fun h => lt_i fun x1 h1 => ?_) (fun h => ⟨?_, leI ?_⟩)
 ·have h : v0_1 ≠ 0 := by simpa using h
  have e := Int.natAbs_tmod v0_0 v0_1
  rw [h1] at e
  have e2 := Nat.mod_lt v0_0.natAbs (show 0 < v0_1.natAbs by omega)
  refine ⟨⟨rfl, h⟩, v0_1, x1, rfl, ?_, by omega, by omega, by omega, by omega⟩
  rw [← h1, gcd2_step, i1]
 all_goals
  have h : v0_1 = 0 := by simpa using h
  subst h
 ·omega
 ·have : gcd2 v0_0 0 = (v0_0.natAbs : Int) := by unfold gcd2; rw [Int.gcd_zero_right]
  rw [this] at i1
  omega
theorem zero_base_Gcd_0 (a : Int) (c : Int) (v0_0 : Int) (v0_1 : Int)  (hi : gcd2 v0_0 v0_1 = gcd2 a c ∧ v0_1.natAbs < 0 ∧ (-9223372036854775808 ≤ v0_0 ∧ v0_0 ≤ 9223372036854775807) ∧ (-9223372036854775807 ≤ v0_1 ∧ v0_1 ≤ 9223372036854775807) ∧ (v0_1 ≠ 0 ∨ -9223372036854775807 ≤ v0_0)) : False := by
 omega
theorem spec_base_Gcd (a : Int) (c : Int) (hp : (-9223372036854775808 ≤ a ∧ a ≤ 9223372036854775807) ∧ (-9223372036854775807 ≤ c ∧ c ≤ 9223372036854775807) ∧ (c ≠ 0 ∨ -9223372036854775807 ≤ a)) : vc_base_Gcd (J_base_Gcd a c) a c (fun r => LeD r (.t (.c (.v (.int .i64 (gcd2 a c)))))) := by
 unfold vc_base_Gcd
 exact ⟨c.natAbs + 1, a, c, rfl, rfl, by omega, hp⟩
theorem all_base_Gcd (a : Int) (c : Int) (hp : (-9223372036854775808 ≤ a ∧ a ≤ 9223372036854775807) ∧ (-9223372036854775807 ≤ c ∧ c ≤ 9223372036854775807) ∧ (c ≠ 0 ∨ -9223372036854775807 ≤ a)) : AllG (J_base_Gcd a c) (loopsFn Tryz.prog tab S63 ann_base_Gcd (J_base_Gcd a c) Tryz.f72 (fun r => LeD r (.t (.c (.v (.int .i64 (gcd2 a c))))))) := by
 rw [lp_base_Gcd]
 refine ⟨⟨?_, ?_⟩, trivial⟩
 ·intro F s h
  obtain _ | ⟨g, F⟩ := F
  case cons => exact h.elim
  obtain ⟨w0, w1, rfl, hi⟩ := h
  exact zero_base_Gcd_0 a c w0 w1 hi
 ·intro n F s h
  obtain _ | ⟨g, F⟩ := F
  case cons => exact h.elim
  obtain ⟨w0, w1, rfl, hi⟩ := h
  rw [er_base_Gcd_0]
  exact rnd_base_Gcd_0 a c _ _ _ hp hi
def con_base_Gcd : Con := fun args => match args with
 | [.t (.c (.v (.int .i64 a))), .t (.c (.v (.int .i64 c)))] => some (.t (.c (.v (.int .i64 (gcd2 a c)))), some ((-9223372036854775808 ≤ a ∧ a ≤ 9223372036854775807) ∧ (-9223372036854775807 ≤ c ∧ c ≤ 9223372036854775807) ∧ (c ≠ 0 ∨ -9223372036854775807 ≤ a)), false)
 | _ => none
theorem ok_base_Gcd : Ok Tryz.prog 72 con_base_Gcd := by
 refine Ok.fn (ann := ann_base_Gcd) mixed tabOK VS63 ValidIt.no (fn := Tryz.f72) (by kernel_rfl) (by kernel_rfl) fit_base_Gcd fun args r pre fresh h hp => ?_
 unfold con_base_Gcd at h
 split at h
 ·rename_i a c
  cases h
  refine ⟨rfl, J_base_Gcd a c, _, LeA.refl _, Nat.le_of_ble_eq_true (by kernel_rfl), ?_, ?_⟩
  ·rw [ev_base_Gcd]; exact spec_base_Gcd a c hp
  ·exact all_base_Gcd a c hp
 ·cases h
def S64 : Sum := addS S63 72 con_base_Gcd
theorem VS64 : Valid Tryz.prog S64 := Valid.add VS63 ok_base_Gcd
def vc_base_Lowest (a : Int) (c : Int) (post : DV → Prop) : Prop := ((-9223372036854775808 ≤ a ∧ a ≤ 9223372036854775807) ∧ (-9223372036854775807 ≤ c ∧ c ≤ 9223372036854775807) ∧ (c ≠ 0 ∨ -9223372036854775807 ≤ a)) ∧ (cond (decide (c < (0 : Int))) (lt (IntKind.i64.wrap ((0 : Int) - (gcd2 a c))) fun x1 => lt (IntKind.i64.wrap (Int.tdiv a x1)) fun x2 => (IntKind.i64 = IntKind.i64 ∧ x1 ≠ 0) ∧ (lt (IntKind.i64.wrap (Int.tdiv c x1)) fun x3 => (IntKind.i64 = IntKind.i64 ∧ x1 ≠ 0) ∧ (post (.t (.a [.v (.int .i64 x2), .v (.int .i64 x3)]))))) (lt (IntKind.i64.wrap (Int.tdiv a (gcd2 a c))) fun x4 => (IntKind.i64 = IntKind.i64 ∧ (gcd2 a c) ≠ 0) ∧ (lt (IntKind.i64.wrap (Int.tdiv c (gcd2 a c))) fun x5 => (IntKind.i64 = IntKind.i64 ∧ (gcd2 a c) ≠ 0) ∧ (post (.t (.a [.v (.int .i64 x4), .v (.int .i64 x5)]))))))
def ann_base_Lowest : Ann := ⟨fun r => lookA r [(4, ([[], [], [0, 1], [], [], [3, 4], [0, 1, 2, 3, 4, 5], [0, 1, 2, 3, 4, 5, 6]], [[], [], [], [], [], [], [], []]))], fun _ => none, fun _ => [], noIt, false, fun _ => none, fun _ => none⟩
theorem ev_base_Lowest (J : Inv) (a : Int) (c : Int) (post : DV → Prop) : evFn Tryz.prog tab S64 ann_base_Lowest J Tryz.f61 [.t (.c (.v (.int .i64 a))), .t (.c (.v (.int .i64 c)))] post = vc_base_Lowest a c post := by kernel_rfl
theorem fit_base_Lowest : okFn ann_base_Lowest Tryz.f61 = true := by kernel_rfl
theorem lp_base_Lowest (J : Inv) (post : DV → Prop) : AllG J (loopsFn Tryz.prog tab S64 ann_base_Lowest J Tryz.f61 post) = (True) := by kernel_rfl
theorem spec_base_Lowest (a : Int) (c : Int) (hp : 0 ≤ a ∧ a ≤ 1000000000000 ∧ 0 < c ∧ c ≤ 1000000000000) : vc_base_Lowest a c (fun r => LeD r (.t (.a [.v (.int .i64 (lowN a c)), .v (.int .i64 (lowD a c))]))) := by
 unfold vc_base_Lowest
 obtain ⟨q1, q2, q3, q4⟩ := hp
 have g := gcd2_pos (a := a) (b := c) (by omega)
 have e1 : Int.tdiv a (gcd2 a c) = a / gcd2 a c := Int.tdiv_eq_ediv_of_nonneg q1
 have e2 : Int.tdiv c (gcd2 a c) = c / gcd2 a c := Int.tdiv_eq_ediv_of_nonneg (by omega)
 have l1 := Int.ediv_le_self (gcd2 a c) q1
 have l2 := Int.ediv_le_self (a := c) (gcd2 a c) (by omega)
 have n1 := Int.ediv_nonneg (b := gcd2 a c) q1 (by omega)
 have n2 := Int.ediv_nonneg (a := c) (b := gcd2 a c) (by omega) (by omega)
 rw [e1, e2]
 refine ⟨⟨by omega, by omega, by omega⟩, cond_i (fun h => absurd (of_decide_eq_true h) (by omega)) (fun h => lt_i fun x1 h1 => ⟨⟨rfl, by omega⟩, lt_i fun x2 h2 => ⟨⟨rfl, by omega⟩, ?_⟩⟩)⟩
 rw [wi (by omega)] at h1 h2
 subst h1 h2
 exact LeD.refl _
def con_base_Lowest : Con := fun args => match args with
 | [.t (.c (.v (.int .i64 a))), .t (.c (.v (.int .i64 c)))] => some (.t (.a [.v (.int .i64 (lowN a c)), .v (.int .i64 (lowD a c))]), some (0 ≤ a ∧ a ≤ 1000000000000 ∧ 0 < c ∧ c ≤ 1000000000000), false)
 | _ => none
theorem ok_base_Lowest : Ok Tryz.prog 61 con_base_Lowest := by
 refine Ok.fn (ann := ann_base_Lowest) mixed tabOK VS64 ValidIt.no (fn := Tryz.f61) (by kernel_rfl) (by kernel_rfl) fit_base_Lowest fun args r pre fresh h hp => ?_
 unfold con_base_Lowest at h
 split at h
 ·rename_i a c
  cases h
  refine ⟨rfl, fun _ _ _ => False, _, LeA.refl _, Nat.le_of_ble_eq_true (by kernel_rfl), ?_, ?_⟩
  ·rw [ev_base_Lowest]; exact spec_base_Lowest a c hp
  ·rw [lp_base_Lowest]; trivial
 ·cases h
def S65 : Sum := addS S64 61 con_base_Lowest
theorem VS65 : Valid Tryz.prog S65 := Valid.add VS64 ok_base_Lowest
def vc_law06_Hits  (post : DV → Prop) : Prop := post (.t (.c (.sl 7 2 (genC [[.v (.int .i64 0), .v (.int .i64 0), .v (.int .i64 0), .v (.int .i64 100), .v (.int .i64 101), .v (.int .i64 5), .v (.int .i64 6)], [.v (.int .i64 8), .v (.int .i64 0), .v (.int .i64 0), .v (.int .i64 106), .v (.int .i64 107), .v (.int .i64 5), .v (.int .i64 6)]]))))
def ann_law06_Hits : Ann := ⟨fun _ => none, fun _ => none, fun _ => [], noIt, true, fun _ => none, fun _ => none⟩
theorem ev_law06_Hits (J : Inv)  (post : DV → Prop) : evFn Tryz.prog tab S65 ann_law06_Hits J Tryz.f60 [] post = vc_law06_Hits  post := by kernel_rfl
theorem fit_law06_Hits : okFn ann_law06_Hits Tryz.f60 = true := by kernel_rfl
theorem lp_law06_Hits (J : Inv) (post : DV → Prop) : AllG J (loopsFn Tryz.prog tab S65 ann_law06_Hits J Tryz.f60 post) = (True) := by kernel_rfl
theorem spec_law06_Hits  : vc_law06_Hits  (fun r => LeD r (.t (.c (.sl 7 hitL.length (hitsC hitL))))) := by
 exact le_hits hitL
def con_law06_Hits : Con := fun args => match args with
 | [] => some (.t (.c (.sl 7 hitL.length (hitsC hitL))), none, true)
 | _ => none
theorem ok_law06_Hits : Ok Tryz.prog 60 con_law06_Hits := by
 refine Ok.fnFr (ann := ann_law06_Hits) mixed tabOK VS65 ValidIt.no rfl (fn := Tryz.f60) (by kernel_rfl) (by kernel_rfl) fit_law06_Hits fun args r pre fresh h hp => ?_
 unfold con_law06_Hits at h
 split at h
 ·cases h
  refine ⟨rfl, (fun i j _ hj => plain_FHit _ i j), fun _ _ _ => False, _, LeA.refl _, Nat.le_of_ble_eq_true (by kernel_rfl), ?_, ?_⟩
  ·rw [ev_law06_Hits]; exact spec_law06_Hits 
  ·rw [lp_law06_Hits]; trivial
 ·cases h
def S66 : Sum := addS S65 60 con_law06_Hits
theorem VS66 : Valid Tryz.prog S66 := Valid.add VS65 ok_law06_Hits
def vc_law06_Lattice  (post : DV → Prop) : Prop := post (.t (.a [.v (.int .i64 0), .v (.int .i64 0), .v (.int .i64 0), .v (.int .i64 2), .v (.int .i64 5)]))
def ann_law06_Lattice : Ann := ⟨fun _ => none, fun _ => none, fun _ => [], noIt, false, fun _ => none, fun _ => none⟩
theorem ev_law06_Lattice (J : Inv)  (post : DV → Prop) : evFn Tryz.prog tab S66 ann_law06_Lattice J Tryz.f86 [] post = vc_law06_Lattice  post := by kernel_rfl
theorem fit_law06_Lattice : okFn ann_law06_Lattice Tryz.f86 = true := by kernel_rfl
theorem lp_law06_Lattice (J : Inv) (post : DV → Prop) : AllG J (loopsFn Tryz.prog tab S66 ann_law06_Lattice J Tryz.f86 post) = (True) := by kernel_rfl
theorem spec_law06_Lattice  : vc_law06_Lattice  (fun r => LeD r (.t (.a [.v (.int .i64 0), .v (.int .i64 0), .v (.int .i64 0), .v (.int .i64 2), .v (.int .i64 5)]))) := by
 exact LeD.refl _
def con_law06_Lattice : Con := fun args => match args with
 | [] => some (.t (.a [.v (.int .i64 0), .v (.int .i64 0), .v (.int .i64 0), .v (.int .i64 2), .v (.int .i64 5)]), none, false)
 | _ => none
theorem ok_law06_Lattice : Ok Tryz.prog 86 con_law06_Lattice := by
 refine Ok.fn (ann := ann_law06_Lattice) mixed tabOK VS66 ValidIt.no (fn := Tryz.f86) (by kernel_rfl) (by kernel_rfl) fit_law06_Lattice fun args r pre fresh h hp => ?_
 unfold con_law06_Lattice at h
 split at h
 ·cases h
  refine ⟨rfl, fun _ _ _ => False, _, LeA.refl _, Nat.le_of_ble_eq_true (by kernel_rfl), ?_, ?_⟩
  ·rw [ev_law06_Lattice]; exact spec_law06_Lattice 
  ·rw [lp_law06_Lattice]; trivial
 ·cases h
def S67 : Sum := addS S66 86 con_law06_Lattice
theorem VS67 : Valid Tryz.prog S67 := Valid.add VS66 ok_law06_Lattice
def con_law06_Muons : Con := fun args => match args with
 | [] => some (.t (.c (.sl 2 muL.length (musC muL))), none, false)
 | _ => none
theorem ok_law06_Muons : Ok Tryz.prog 59 con_law06_Muons := by
 intro args r pre fresh h hp
 unfold con_law06_Muons at h
 split at h
 ·cases h
  refine ⟨Enters.of (fn := Tryz.f59) (by kernel_rfl) (by kernel_rfl) (by kernel_rfl), fun W N vs _ hv => ?_⟩
  have hv : All2 (RelD (RelF W N)) [] vs := hv
  have ev := hv.nil_inv
  subst ev
  exact law_Muons W N
 ·cases h
def S68 : Sum := addS S67 59 con_law06_Muons
theorem VS68 : Valid Tryz.prog S68 := Valid.add VS67 ok_law06_Muons
def vc_law06_few (l : List FHit) (post : DV → Prop) : Prop := post (.t (.c (.v (.bool (decide (((l.length : Nat) : Int) ≤ (10 : Int)))))))
def ann_law06_few : Ann := ⟨fun _ => none, fun _ => none, fun _ => [], noIt, false, fun _ => none, fun _ => none⟩
theorem ev_law06_few (J : Inv) (l : List FHit) (post : DV → Prop) : evFn Tryz.prog tab S68 ann_law06_few J Tryz.f30 [.t (.c (.sl 7 l.length (hitsC l)))] post = vc_law06_few l post := by kernel_rfl
theorem fit_law06_few : okFn ann_law06_few Tryz.f30 = true := by kernel_rfl
theorem lp_law06_few (J : Inv) (post : DV → Prop) : AllG J (loopsFn Tryz.prog tab S68 ann_law06_few J Tryz.f30 post) = (True) := by kernel_rfl
theorem spec_law06_few (l : List FHit) : vc_law06_few l (fun r => LeD r (.t (.c (.v (.bool (decide ((l).length ≤ 10))))))) := by
 unfold vc_law06_few
 exact leB (decide_eq_decide.2 (by omega))
def con_law06_few : Con := fun args => match args with
 | [.t (.c (.sl 7 n_l c_l))] => some (.t (.c (.v (.bool (decide (((listC n_l mkHit c_l)).length ≤ 10))))), some (numsP 7 n_l c_l), false)
 | _ => none
theorem ok_law06_few : Ok Tryz.prog 30 con_law06_few := by
 refine Ok.fn (ann := ann_law06_few) mixed tabOK VS68 ValidIt.no (fn := Tryz.f30) (by kernel_rfl) (by kernel_rfl) fit_law06_few fun args r pre fresh h hp => ?_
 unfold con_law06_few at h
 split at h
 ·rename_i n_l c_l
  cases h
  have hp0 := hp
  refine ⟨rfl, fun _ _ _ => False, [.t (.c (.sl 7 ((listC n_l mkHit c_l).length) (hitsC (listC n_l mkHit c_l))))], ?_, Nat.le_of_ble_eq_true (by kernel_rfl), ?_, ?_⟩
  ·exact (LeA_cons (leT_c ((leL_FHit hp0))) LeA_nil)
  ·rw [ev_law06_few]; exact spec_law06_few (listC n_l mkHit c_l)
  ·rw [lp_law06_few]; trivial
 ·cases h
def S69 : Sum := addS S68 30 con_law06_few
theorem VS69 : Valid Tryz.prog S69 := Valid.add VS68 ok_law06_few
end Go.Proofs.YtdkpgodakmailaaGreatDoor
set_option linter.unusedVariables false
set_option linter.unusedSimpArgs false
namespace Go.Proofs.YtdkpgodakmailaaGreatDoor
open Go.RowKit Ev
theorem cond_t {b : Bool} {A B : Prop} (hb : b = true) (h : A) : cond b A B := by rw [hb]; exact h
def vc_law06_awake  (post : DV → Prop) : Prop := (numsP 7 hitL.length (hitsC hitL)) ∧ ((muP muL.length (musC muL) ∧ numsP 1 1 (genC [[.v (.int .i64 0)]]) ∧ muSm (muOf muL.length (musC muL)) ∧ (([(0 : Int)] : List Int)).length ≤ 1000000) ∧ ((muP muL.length (musC muL) ∧ muSm (muOf muL.length (musC muL)) ∧ (-9223372036854775808 ≤ (0 : Int) ∧ (0 : Int) ≤ 9223372036854775807) ∧ (-9223372036854775808 ≤ (1 : Int) ∧ (1 : Int) ≤ 9223372036854775807)) ∧ ((numsP 7 hitL.length (hitsC hitL)) ∧ (cond ((delE (⟨(0 : Int), (0 : Int), (0 : Int)⟩ : P3) (⟨(3 : Int), (4 : Int), (0 : Int)⟩ : P3)) == (0 : Int)) (cond ((delV (⟨(0 : Int), (0 : Int), (0 : Int)⟩ : P3) (⟨(3 : Int), (4 : Int), (0 : Int)⟩ : P3)) == (7 : Int)) (cond ((tmsE (listC hitL.length mkHit (hitsC hitL)) (⟨(2 : Int), (0 : Int), (0 : Int)⟩ : P3)) == (0 : Int)) (cond (bif (((tmsV (listC hitL.length mkHit (hitsC hitL)) (⟨(2 : Int), (0 : Int), (0 : Int)⟩ : P3)).lo) == (97 : Int)) then (bif (((tmsV (listC hitL.length mkHit (hitsC hitL)) (⟨(2 : Int), (0 : Int), (0 : Int)⟩ : P3)).hi) == (98 : Int)) then true else false) else false) (cond ((vvE (muOf muL.length (musC muL)) (1 : Int) ([(0 : Int)] : List Int)) == (0 : Int)) ((0 ≤ (5 : Int) ∧ (5 : Int) ≤ 1000000000000 ∧ 0 < (8 : Int) ∧ (8 : Int) ≤ 1000000000000) ∧ (cond (bif ((prtN (muOf muL.length (musC muL)) (1 : Int) ([(0 : Int)] : List Int)) == (lowN (5 : Int) (8 : Int))) then (bif ((prtD (muOf muL.length (musC muL)) (1 : Int) ([(0 : Int)] : List Int)) == (lowD (5 : Int) (8 : Int))) then true else false) else false) (cond ((smR (muOf muL.length (musC muL)) (2 : Int) (0 : Int) (1 : Int)) == (0 : Int)) ((numsP 1 ((smL (muOf muL.length (musC muL)) (2 : Int) (0 : Int) (1 : Int)).length) (intsC (smL (muOf muL.length (musC muL)) (2 : Int) (0 : Int) (1 : Int))) ∧ numsP 1 2 (genC [[.v (.int .i64 0)], [.v (.int .i64 5)]]) ∧ ((listC ((smL (muOf muL.length (musC muL)) (2 : Int) (0 : Int) (1 : Int)).length) mkInt (intsC (smL (muOf muL.length (musC muL)) (2 : Int) (0 : Int) (1 : Int))))).length ≤ 1000000) ∧ (cond (decide ((listC ((smL (muOf muL.length (musC muL)) (2 : Int) (0 : Int) (1 : Int)).length) mkInt (intsC (smL (muOf muL.length (musC muL)) (2 : Int) (0 : Int) (1 : Int)))) = ([(0 : Int), (5 : Int)] : List Int))) (cond ((cpE (listC hitL.length mkHit (hitsC hitL)) (⟨⟨(0 : Int), (0 : Int), (0 : Int)⟩, (2 : Int), (5 : Int)⟩ : Lat) (25 : Int) (25 : Int) (97 : Int) (97 : Int)) == (0 : Int)) (post (.t (.c (.v (.bool ((cpV (listC hitL.length mkHit (hitsC hitL)) (⟨⟨(0 : Int), (0 : Int), (0 : Int)⟩, (2 : Int), (5 : Int)⟩ : Lat) (25 : Int) (25 : Int) (97 : Int) (97 : Int)) == (2 : Int))))))) ((false = false) ∧ (post (.t (.c (.v (.bool false))))))) ((false = false) ∧ ((false = false) ∧ (post (.t (.c (.v (.bool false))))))))) ((false = false) ∧ ((false = false) ∧ ((false = false) ∧ (post (.t (.c (.v (.bool false))))))))) ((false = false) ∧ ((false = false) ∧ ((false = false) ∧ ((false = false) ∧ (post (.t (.c (.v (.bool false))))))))))) ((false = false) ∧ ((false = false) ∧ ((false = false) ∧ ((false = false) ∧ ((false = false) ∧ (post (.t (.c (.v (.bool false))))))))))) ((false = false) ∧ ((false = false) ∧ ((false = false) ∧ ((false = false) ∧ ((false = false) ∧ ((false = false) ∧ (post (.t (.c (.v (.bool false)))))))))))) ((false = false) ∧ ((false = false) ∧ ((false = false) ∧ ((false = false) ∧ ((false = false) ∧ ((false = false) ∧ ((false = false) ∧ (post (.t (.c (.v (.bool false))))))))))))) ((false = false) ∧ ((false = false) ∧ ((false = false) ∧ ((false = false) ∧ ((false = false) ∧ ((false = false) ∧ ((false = false) ∧ ((false = false) ∧ (post (.t (.c (.v (.bool false)))))))))))))) ((false = false) ∧ ((false = false) ∧ ((false = false) ∧ ((false = false) ∧ ((false = false) ∧ ((false = false) ∧ ((false = false) ∧ ((false = false) ∧ ((false = false) ∧ (post (.t (.c (.v (.bool false))))))))))))))))))
def ann_law06_awake : Ann := ⟨fun r => lookA r [(6, ([[], [0], [0, 1], [0, 1, 2], [0, 1, 2, 3], [0, 1, 2, 3, 4], [0, 1, 2, 3, 4, 5], [0, 1, 2, 3, 4, 5, 6], [0, 1, 2, 3, 4, 5, 6, 7], [0, 1, 2, 3, 4, 5, 6, 7, 8], [0, 1, 2, 3, 4, 5, 6, 7, 8, 9], [0, 1, 2, 3, 4, 5, 6, 7, 8, 9, 10], [0, 1, 2, 3, 4, 5, 6, 7, 8, 9, 10], [0, 1, 2, 3, 4, 5, 6, 7, 8, 9, 10, 11, 12], [0, 1, 2, 3, 4, 5, 6, 7, 8, 9, 10, 11, 12, 13], [0, 1, 2, 3, 4, 5, 6, 7, 8, 9, 10, 11, 12, 13, 14], [0, 1, 2, 3, 4, 5, 6, 7, 8, 9, 10, 11, 12, 13, 14, 15], [0, 1, 2, 3, 4, 5, 6, 7, 8, 9, 10, 11, 12, 13, 14, 15, 16], [0, 1, 2, 3, 4, 5, 6, 7, 8, 9, 10, 11, 12, 13, 14, 15, 16, 17], [0, 1, 2, 3, 4, 5, 6, 7, 8, 9, 10, 11, 12, 13, 14, 15, 16, 17, 18], [0, 1, 2, 3, 4, 5, 6, 7, 8, 9, 10, 11, 12, 13, 14, 15, 16, 17, 18, 19], [0, 1, 2, 3, 4, 5, 6, 7, 8, 9, 10, 11, 12, 13, 14, 15, 16, 17, 18, 19], [0, 1, 2, 3, 4, 5, 6, 7, 8, 9, 10, 11, 12, 13, 14, 15, 16, 17, 18, 19, 20, 21], [0, 1, 2, 3, 4, 5, 6, 7, 8, 9, 10, 11, 12, 13, 14, 15, 16, 17, 18, 19, 20, 21, 22], [0, 1, 2, 3, 4, 5, 6, 7, 8, 9, 10, 11, 12, 13, 14, 15, 16, 17, 18, 19, 20, 21, 22, 23], [0, 1, 2, 3, 4, 5, 6, 7, 8, 9, 10, 11, 12, 13, 14, 15, 16, 17, 18, 19, 20, 21, 22, 23, 24], [0, 1, 2, 3, 4, 5, 6, 7, 8, 9, 10, 11, 12, 13, 14, 15, 16, 17, 18, 19, 20, 21, 22, 23, 24, 25], [0, 1, 2, 3, 4, 5, 6, 7, 8, 9, 10, 11, 12, 13, 14, 15, 16, 17, 18, 19, 20, 21, 22, 23, 24, 25, 26], [0, 1, 2, 3, 4, 5, 6, 7, 8, 9, 10, 11, 12, 13, 14, 15, 16, 17, 18, 19, 20, 21, 22, 23, 24, 25, 26, 27], [0, 1, 2, 3, 4, 5, 6, 7, 8, 9, 10, 11, 12, 13, 14, 15, 16, 17, 18, 19, 20, 21, 22, 23, 24, 25, 26, 27, 28], [0, 1, 2, 3, 4, 5, 6, 7, 8, 9, 10, 11, 12, 13, 14, 15, 16, 17, 18, 19, 20, 21, 22, 23, 24, 25, 26, 27, 28], [0, 1, 2, 3, 4, 5, 6, 7, 8, 9, 10, 11, 12, 13, 14, 15, 16, 17, 18, 19, 20, 21, 22, 23, 24, 25, 26, 27, 28, 29, 30], [0, 1, 2, 3, 4, 5, 6, 7, 8, 9, 10, 11, 12, 13, 14, 15, 16, 17, 18, 19, 20, 21, 22, 23, 24, 25, 26, 27, 28, 29, 30, 31], [0, 1, 2, 3, 4, 5, 6, 7, 8, 9, 10, 11, 12, 13, 14, 15, 16, 17, 18, 19, 20, 21, 22, 23, 24, 25, 26, 27, 28, 29, 30, 31, 32], [0, 1, 2, 3, 4, 5, 6, 7, 8, 9, 10, 11, 12, 13, 14, 15, 16, 17, 18, 19, 20, 21, 22, 23, 24, 25, 26, 27, 28, 29, 30, 31, 32, 33], [0, 1, 2, 3, 4, 5, 6, 7, 8, 9, 10, 11, 12, 13, 14, 15, 16, 17, 18, 19, 20, 21, 22, 23, 24, 25, 26, 27, 28, 29, 30, 31, 32, 33, 34], [0, 1, 2, 3, 4, 5, 6, 7, 8, 9, 10, 11, 12, 13, 14, 15, 16, 17, 18, 19, 20, 21, 22, 23, 24, 25, 26, 27, 28, 29, 30, 31, 32, 33, 34, 35], [0, 1, 2, 3, 4, 5, 6, 7, 8, 9, 10, 11, 12, 13, 14, 15, 16, 17, 18, 19, 20, 21, 22, 23, 24, 25, 26, 27, 28, 29, 30, 31, 32, 33, 34, 35, 36], [0, 1, 2, 3, 4, 5, 6, 7, 8, 9, 10, 11, 12, 13, 14, 15, 16, 17, 18, 19, 20, 21, 22, 23, 24, 25, 26, 27, 28, 29, 30, 31, 32, 33, 34, 35, 36, 37], [0, 1, 2, 3, 4, 5, 6, 7, 8, 9, 10, 11, 12, 13, 14, 15, 16, 17, 18, 19, 20, 21, 22, 23, 24, 25, 26, 27, 28, 29, 30, 31, 32, 33, 34, 35, 36, 37, 38], [0, 1, 2, 3, 4, 5, 6, 7, 8, 9, 10, 11, 12, 13, 14, 15, 16, 17, 18, 19, 20, 21, 22, 23, 24, 25, 26, 27, 28, 29, 30, 31, 32, 33, 34, 35, 36, 37, 38, 39], [0, 1, 2, 3, 4, 5, 6, 7, 8, 9, 10, 11, 12, 13, 14, 15, 16, 17, 18, 19, 20, 21, 22, 23, 24, 25, 26, 27, 28, 29, 30, 31, 32, 33, 34, 35, 36, 37, 38, 39, 40]], [[65, 74, 75], [65, 74, 75], [65, 74, 75], [65, 74, 75], [65, 74, 75], [65, 74, 75], [65, 74, 75], [65, 74, 75], [65, 74, 75], [65, 74, 75], [65, 74, 75], [65, 74, 75], [65, 74, 75], [65, 74, 75], [65, 74, 75], [65, 74, 75], [65, 74, 75], [65, 74, 75], [65, 74, 75], [65, 74, 75], [65, 74, 75], [74, 75], [74, 75], [74, 75], [74, 75], [74, 75], [74, 75], [74, 75], [74, 75], [74, 75], [75], [], [], [], [], [], [], [], [], [], [], []]))], fun _ => none, fun _ => [], noIt, false, fun _ => none, fun _ => none⟩
theorem ev_law06_awake (J : Inv)  (post : DV → Prop) : evFn Tryz.prog tab S69 ann_law06_awake J Tryz.f29 [] post = vc_law06_awake  post := by kernel_rfl
theorem fit_law06_awake : okFn ann_law06_awake Tryz.f29 = true := by kernel_rfl
theorem lp_law06_awake (J : Inv) (post : DV → Prop) : AllG J (loopsFn Tryz.prog tab S69 ann_law06_awake J Tryz.f29 post) = (True) := by kernel_rfl
set_option maxHeartbeats 8000000 in
set_option maxRecDepth 100000 in
theorem spec_law06_awake  : vc_law06_awake  (fun r => LeD r (.t (.c (.v (.bool true))))) := by
 unfold vc_law06_awake
 rw [hits_listC, mus_of, ints_listC]
 have mm : muSm muL := by
  intro k hk
  have hk : k < 3 := hk
  rcases (by omega : k = 0 ∨ k = 1 ∨ k = 2) with rfl | rfl | rfl <;> decide
 refine ⟨numsP_hits _, ⟨muP_mus _, numsP_gen [_], mm, by decide⟩, ⟨muP_mus _, mm, by decide, by decide⟩, numsP_hits _, ?_⟩
 refine cond_t (by kernel_rfl) (cond_t (by kernel_rfl) (cond_t (by kernel_rfl) (cond_t (by kernel_rfl) (cond_t (by kernel_rfl) ⟨by decide, cond_t (by kernel_rfl) (cond_t (by kernel_rfl) ⟨⟨numsP_ints _, numsP_gen [_, _], ?_⟩, cond_t (by kernel_rfl) (cond_t (by kernel_rfl) (leB ?_))⟩)⟩))))
 ·rw [show smL muL 2 0 1 = [0, 5] from by kernel_rfl]; decide
 ·kernel_rfl
def con_law06_awake : Con := fun args => match args with
 | [] => some (.t (.c (.v (.bool true))), none, false)
 | _ => none
theorem ok_law06_awake : Ok Tryz.prog 29 con_law06_awake := by
 refine Ok.fn (ann := ann_law06_awake) mixed tabOK VS69 ValidIt.no (fn := Tryz.f29) (by kernel_rfl) (by kernel_rfl) fit_law06_awake fun args r pre fresh h hp => ?_
 unfold con_law06_awake at h
 split at h
 ·cases h
  refine ⟨rfl, fun _ _ _ => False, _, LeA.refl _, Nat.le_of_ble_eq_true (by kernel_rfl), ?_, ?_⟩
  ·rw [ev_law06_awake]; exact spec_law06_awake 
  ·rw [lp_law06_awake]; trivial
 ·cases h
def S70 : Sum := addS S69 29 con_law06_awake
theorem VS70 : Valid Tryz.prog S70 := Valid.add VS69 ok_law06_awake
end Go.Proofs.YtdkpgodakmailaaGreatDoor
set_option linter.unusedVariables false
set_option linter.unusedSimpArgs false
namespace Go.Proofs.YtdkpgodakmailaaGreatDoor
open Go.RowKit Ev
theorem FHit.err_eq (h : FHit) : h.err = if posE h.p ≠ 0 then posE h.p else if inB h.t.lo 0 1000000000 = true ∧ inB h.t.hi 0 1000000000 = true ∧ inB h.c.lo 0 1000000 = true ∧ inB h.c.hi 0 1000000 = true then (if h.t.hi < h.t.lo ∨ h.c.hi < h.c.lo then 9 else 0) else 2 := by
 unfold FHit.err rgIn rgE
 by_cases q : posE h.p = 0
 ·rw [if_neg (by rw [q]; simp), q]
  cases inB h.t.lo 0 1000000000 <;> cases inB h.t.hi 0 1000000000 <;> cases inB h.c.lo 0 1000000 <;> cases inB h.c.hi 0 1000000 <;> simp [firstNZ, unl]
  by_cases a : h.t.lo ≤ h.t.hi <;> by_cases b : h.c.lo ≤ h.c.hi <;> simp [a, b] <;> omega
 ·rw [if_pos q]
  simp [firstNZ, q]
def vc_ref06_PositionErr (p0 p1 p2 : Int) (post : DV → Prop) : Prop := cond (!(inB p0 (-10000 : Int) (10000 : Int))) ((true = true) ∧ ((true = true) ∧ (post (.t (.c (.v (.int .i64 2))))))) (cond (!(inB p1 (-10000 : Int) (10000 : Int))) ((true = true) ∧ (post (.t (.c (.v (.int .i64 2)))))) (cond (!(inB p2 (-10000 : Int) (10000 : Int))) (post (.t (.c (.v (.int .i64 2))))) (post (.t (.c (.v (.int .i64 0)))))))
def ann_ref06_PositionErr : Ann := ⟨fun _ => none, fun _ => none, fun _ => [], noIt, false, fun _ => none, fun _ => none⟩
theorem ev_ref06_PositionErr (J : Inv) (p0 p1 p2 : Int) (post : DV → Prop) : evFn Tryz.prog tab S70 ann_ref06_PositionErr J Tryz.f46 [.t (.a [.v (.int .i64 p0), .v (.int .i64 p1), .v (.int .i64 p2)])] post = vc_ref06_PositionErr p0 p1 p2 post := by kernel_rfl
theorem fit_ref06_PositionErr : okFn ann_ref06_PositionErr Tryz.f46 = true := by kernel_rfl
theorem lp_ref06_PositionErr (J : Inv) (post : DV → Prop) : AllG J (loopsFn Tryz.prog tab S70 ann_ref06_PositionErr J Tryz.f46 post) = (True) := by kernel_rfl
theorem spec_ref06_PositionErr (p0 p1 p2 : Int) : vc_ref06_PositionErr p0 p1 p2 (fun r => LeD r (.t (.c (.v (.int .i64 (posE (⟨p0, p1, p2⟩ : P3))))))) := by
 unfold vc_ref06_PositionErr
 unfold posE
 refine cond_i (fun h => ⟨rfl, rfl, leI ?_⟩) (fun h => cond_i (fun h2 => ⟨rfl, leI ?_⟩) (fun h2 => cond_i (fun h3 => leI ?_) (fun h3 => leI ?_)))
 all_goals simp_all [unl]
def con_ref06_PositionErr : Con := fun args => match args with
 | [.t (.a [.v (.int .i64 p0), .v (.int .i64 p1), .v (.int .i64 p2)])] => some (.t (.c (.v (.int .i64 (posE (⟨p0, p1, p2⟩ : P3))))), none, false)
 | _ => none
theorem ok_ref06_PositionErr : Ok Tryz.prog 46 con_ref06_PositionErr := by
 refine Ok.fn (ann := ann_ref06_PositionErr) mixed tabOK VS70 ValidIt.no (fn := Tryz.f46) (by kernel_rfl) (by kernel_rfl) fit_ref06_PositionErr fun args r pre fresh h hp => ?_
 unfold con_ref06_PositionErr at h
 split at h
 ·rename_i p0 p1 p2
  cases h
  refine ⟨rfl, fun _ _ _ => False, _, LeA.refl _, Nat.le_of_ble_eq_true (by kernel_rfl), ?_, ?_⟩
  ·rw [ev_ref06_PositionErr]; exact spec_ref06_PositionErr p0 p1 p2
  ·rw [lp_ref06_PositionErr]; trivial
 ·cases h
def S71 : Sum := addS S70 46 con_ref06_PositionErr
theorem VS71 : Valid Tryz.prog S71 := Valid.add VS70 ok_ref06_PositionErr
def S72 : Sum := S71
theorem VS72 : Valid Tryz.prog S72 := VS71
def mk_ref06_CheckHits_0 (l : List FHit) (v0_0 : Int) : DS := ⟨[some (.t (.c (.sl 7 l.length (hitsC l)))), none, none, none, some (.t (.c (.v (.int .i64 v0_0)))), none, none, none, none, none, none, none, none, none, none, none, none, none, none, none, none, none, none, none, none, none, none, none, none, none, none, none, none, none, none, none, none, none, none, none, none, none, none, none, none, none, none, none, none, none, none, none, none, none, none, none, none, none, none, none, none, none, none, none, none, none, none, none, none, none, none, none, none, none, none, none], [none, none, none, none, none, none, none, none, none, none, none, none, none, none, none, none, none, none, none, none, none, none, none, none, none, none, none, none, none, none, none, none, none, none, none, none, none, none, none, none, none, none, none, none, none, none, none, none, none, none, none, none, none, none, none, none, none, none, none, none, none, none, none, none, none, none, none, none, none, none, none, none, none, none, none, none]⟩
def vc_ref06_CheckHits (J : Inv) (l : List FHit) (post : DV → Prop) : Prop := cond (((l.length : Nat) : Int) == (0 : Int)) (post (.tu [.c (.v (.int .i64 0)), .c (.v (.int .i64 10))])) (cond (decide (((l.length : Nat) : Int) > (8 : Int))) (post (.tu [.c (.v (.int .i64 0)), .c (.v (.int .i64 8))])) (∃ n, J 0 (n :: []) (mk_ref06_CheckHits_0 l 0)))
def ann_ref06_CheckHits : Ann := ⟨fun r => lookA r [(11, ([[], [], [0, 1], [0, 1, 2], [0, 1, 2, 3], [], [], [5, 6], [5, 6, 7], [5, 6, 7, 8], [], [], [0, 1, 2, 3, 4, 10, 11], [0, 1, 2, 3, 4, 5, 6, 7, 8, 9, 10, 11, 12]], [[6, 7], [6, 7], [6, 7], [6, 7], [6, 7], [6, 7], [6, 7], [6, 7], [6, 7], [6, 7], [7], [6], [9999, 6], []]))], fun b => lookA b [(0, (none, some ⟨[0, 4], [], []⟩))], fun _ => [], noIt, false, fun _ => none, fun _ => none⟩
theorem ev_ref06_CheckHits (J : Inv) (l : List FHit) (post : DV → Prop) : evFn Tryz.prog tab S72 ann_ref06_CheckHits J Tryz.f93 [.t (.c (.sl 7 l.length (hitsC l)))] post = vc_ref06_CheckHits J l post := by kernel_rfl
theorem fit_ref06_CheckHits : okFn ann_ref06_CheckHits Tryz.f93 = true := by kernel_rfl
def rd_ref06_CheckHits_0 (J : Inv) (l : List FHit) (v0_0 : Int) (nn0 : Nat) (post : DV → Prop) : Prop := cond (decide (v0_0 < ((l.length : Nat) : Int))) ((0 ≤ v0_0 ∧ v0_0 < ((l.length : Nat) : Int)) ∧ (cond ((posE (hitAt l v0_0.toNat).p) != (0 : Int)) (post (.tu [.c (.v (.int .i64 v0_0)), .c (.v (.int .i64 (posE (hitAt l v0_0.toNat).p)))])) ((0 ≤ v0_0 ∧ v0_0 < ((l.length : Nat) : Int)) ∧ ((0 ≤ v0_0 ∧ v0_0 < ((l.length : Nat) : Int)) ∧ (cond (!(inB ((hitAt l v0_0.toNat).t.lo) (0 : Int) (1000000000 : Int))) ((true = true) ∧ ((true = true) ∧ ((true = true) ∧ (post (.tu [.c (.v (.int .i64 v0_0)), .c (.v (.int .i64 2))]))))) (cond (!(inB ((hitAt l v0_0.toNat).t.hi) (0 : Int) (1000000000 : Int))) ((true = true) ∧ ((true = true) ∧ (post (.tu [.c (.v (.int .i64 v0_0)), .c (.v (.int .i64 2))])))) (cond (!(inB ((hitAt l v0_0.toNat).c.lo) (0 : Int) (1000000 : Int))) ((true = true) ∧ (post (.tu [.c (.v (.int .i64 v0_0)), .c (.v (.int .i64 2))]))) (cond (!(inB ((hitAt l v0_0.toNat).c.hi) (0 : Int) (1000000 : Int))) (post (.tu [.c (.v (.int .i64 v0_0)), .c (.v (.int .i64 2))])) (cond (decide (((hitAt l v0_0.toNat).t.lo) > ((hitAt l v0_0.toNat).t.hi))) ((true = true) ∧ (post (.tu [.c (.v (.int .i64 v0_0)), .c (.v (.int .i64 9))]))) (cond (decide (((hitAt l v0_0.toNat).c.lo) > ((hitAt l v0_0.toNat).c.hi))) (post (.tu [.c (.v (.int .i64 v0_0)), .c (.v (.int .i64 9))])) (lt (IntKind.i64.wrap (v0_0 + (1 : Int))) fun x1 => J 0 (nn0 :: []) (mk_ref06_CheckHits_0 l x1)))))))))))) (post (.tu [.c (.v (.int .i64 0)), .c (.v (.int .i64 0))]))
theorem er_ref06_CheckHits_0 (J : Inv) (l : List FHit) (v0_0 : Int) (nn0 : Nat) (post : DV → Prop) : round Tryz.prog tab S72 ann_ref06_CheckHits J Tryz.f93 post 0 (nn0 :: []) (mk_ref06_CheckHits_0 l v0_0) = rd_ref06_CheckHits_0 J l v0_0 nn0 post := by kernel_rfl
theorem lp_ref06_CheckHits (J : Inv) (post : DV → Prop) : AllG J (loopsFn Tryz.prog tab S72 ann_ref06_CheckHits J Tryz.f93 post) = (((∀ F s, ¬ J 0 (0 :: F) s) ∧ ∀ n F s, J 0 ((n + 1) :: F) s → round Tryz.prog tab S72 ann_ref06_CheckHits J Tryz.f93 post 0 (n :: F) s) ∧ True) := by kernel_rfl
def J_ref06_CheckHits (l : List FHit) : Inv := fun b F s => match b, F with
 | 0, [nn0] => ∃ (v0_0 : Int), s = mk_ref06_CheckHits_0 l v0_0 ∧ (0 ≤ v0_0 ∧ v0_0 ≤ l.length ∧ (nn0 : Int) + v0_0 = l.length + 1 ∧ (∀ j : Nat, (j : Int) < v0_0 → (hitAt l j).err = 0) ∧ cntE l.length 8 = 0)
 | _, _ => False
set_option maxHeartbeats 8000000 in
set_option maxRecDepth 100000 in
theorem rnd_ref06_CheckHits_0 (l : List FHit) (v0_0 : Int) (nn0 : Nat) (hi : 0 ≤ v0_0 ∧ v0_0 ≤ l.length ∧ ((nn0 + 1) : Int) + v0_0 = l.length + 1 ∧ (∀ j : Nat, (j : Int) < v0_0 → (hitAt l j).err = 0) ∧ cntE l.length 8 = 0) : rd_ref06_CheckHits_0 (J_ref06_CheckHits l) l v0_0 nn0 (fun r => LeD r (.tu [.c (.v (.int .i64 (hitsI l))), .c (.v (.int .i64 (hitsE l)))])) := by
 obtain ⟨i1, i2, i3, i4, i5⟩ := hi
 obtain ⟨k, rfl⟩ : ∃ k : Nat, v0_0 = k := ⟨v0_0.toNat, by omega⟩
 have hk : (k : Int).toNat = k := rfl
 have hz : ∀ j, j < k → (hitAt l j).err = 0 := fun j hj => i4 j (by omega)
 have hlen : l.length ≤ 8 := by
  have h2 := (fn2 i5).2
  rw [unl_0 (by decide)] at h2
  have := of_decide_eq_true h2
  omega
 have eI : hitsI l = scanI (fun i => (hitAt l i).err) l.length := if_pos i5
 have eE : hitsE l = scan (fun i => (hitAt l i).err) l.length := if_pos i5
 unfold rd_ref06_CheckHits_0
 rw [hk]
 refine cond_i (fun h => ?_) (fun h => ?_)
 ·have hlt : k < l.length := by have := of_decide_eq_true h; omega
  have bad : ∀ e, e ≠ 0 → (hitAt l k).err = e → LeD (.tu [.c (.v (.int .i64 (k : Int))), .c (.v (.int .i64 e))]) (.tu [.c (.v (.int .i64 (hitsI l))), .c (.v (.int .i64 (hitsE l)))]) := fun e he q => by
   subst q
   rw [eI, eE]
   exact le2 (scanI_at (f := fun i => (hitAt l i).err) hz hlt he).symm (scan_at (f := fun i => (hitAt l i).err) hz hlt he).symm
  have hq := FHit.err_eq (hitAt l k)
  refine ⟨by omega, cond_i (fun e => ?_) (fun e => ⟨by omega, by omega, cond_i (fun a1 => ⟨rfl, rfl, rfl, ?_⟩) (fun a1 => cond_i (fun a2 => ⟨rfl, rfl, ?_⟩) (fun a2 => cond_i (fun a3 => ⟨rfl, ?_⟩) (fun a3 => cond_i (fun a4 => ?_) (fun a4 => cond_i (fun a5 => ⟨rfl, ?_⟩) (fun a5 => cond_i (fun a6 => ?_) (fun a6 => lt_i fun x hx => ?_))))))⟩)⟩
  ·have e : posE (hitAt l k).p ≠ 0 := by simpa using e
   exact bad _ e (by rw [hq, if_pos e])
  all_goals
   have e : posE (hitAt l k).p = 0 := by simpa using e
   rw [if_neg (by rw [e]; simp)] at hq
  ·exact bad 2 (by decide) (by rw [hq]; simp_all)
  ·exact bad 2 (by decide) (by rw [hq]; simp_all)
  ·exact bad 2 (by decide) (by rw [hq]; simp_all)
  ·exact bad 2 (by decide) (by rw [hq]; simp_all)
  ·exact bad 9 (by decide) (by rw [hq]; simp_all)
  ·exact bad 9 (by decide) (by rw [hq]; simp_all)
  ·have q : (hitAt l k).err = 0 := by rw [hq]; simp_all
   rw [wi (by omega)] at hx
   subst hx
   refine ⟨_, rfl, by omega, by omega, by omega, fun j hj => ?_, i5⟩
   by_cases q2 : j = k
   ·rw [q2]; exact q
   ·exact i4 j (by omega)
 ·have hge : k = l.length := by have := of_decide_eq_false h; omega
  subst hge
  rw [eI, eE]
  exact le2 (scanI_end (f := fun i => (hitAt l i).err) hz).symm (scan_end (f := fun i => (hitAt l i).err) hz).symm
theorem zero_ref06_CheckHits_0 (l : List FHit) (v0_0 : Int)  (hi : 0 ≤ v0_0 ∧ v0_0 ≤ l.length ∧ (0 : Int) + v0_0 = l.length + 1 ∧ (∀ j : Nat, (j : Int) < v0_0 → (hitAt l j).err = 0) ∧ cntE l.length 8 = 0) : False := by
 omega
set_option maxHeartbeats 8000000 in
set_option maxRecDepth 100000 in
theorem spec_ref06_CheckHits (l : List FHit) : vc_ref06_CheckHits (J_ref06_CheckHits l) l (fun r => LeD r (.tu [.c (.v (.int .i64 (hitsI l))), .c (.v (.int .i64 (hitsE l)))])) := by
 unfold vc_ref06_CheckHits
 have bad : ∀ e, e ≠ 0 → cntE l.length 8 = e → LeD (.tu [.c (.v (.int .i64 0)), .c (.v (.int .i64 e))]) (.tu [.c (.v (.int .i64 (hitsI l))), .c (.v (.int .i64 (hitsE l)))]) := fun e he q => by
  subst q
  exact le2 (if_neg he).symm (if_neg he).symm
 refine cond_i (fun h => bad 10 (by decide) ?_) (fun h => cond_i (fun h2 => bad 8 (by decide) ?_) (fun h2 => ?_))
 ·have h : (l.length : Int) = 0 := by simpa using h
  unfold cntE; rw [h]; rfl
 ·have h : (l.length : Int) ≠ 0 := by simpa using h
  have h2 := of_decide_eq_true h2
  unfold cntE; rw [decide_eq_true (show (l.length : Int) > 0 by omega), decide_eq_false (show ¬ (l.length : Int) ≤ 8 by omega)]; rfl
 ·have h : (l.length : Int) ≠ 0 := by simpa using h
  have h2 := of_decide_eq_false h2
  refine ⟨l.length + 1, 0, rfl, by omega, by omega, by omega, fun j hj => by omega, ?_⟩
  unfold cntE; rw [decide_eq_true (show (l.length : Int) > 0 by omega), decide_eq_true (show (l.length : Int) ≤ 8 by omega)]; rfl
theorem all_ref06_CheckHits (l : List FHit) : AllG (J_ref06_CheckHits l) (loopsFn Tryz.prog tab S72 ann_ref06_CheckHits (J_ref06_CheckHits l) Tryz.f93 (fun r => LeD r (.tu [.c (.v (.int .i64 (hitsI l))), .c (.v (.int .i64 (hitsE l)))]))) := by
 rw [lp_ref06_CheckHits]
 refine ⟨⟨?_, ?_⟩, trivial⟩
 ·intro F s h
  obtain _ | ⟨g, F⟩ := F
  case cons => exact h.elim
  obtain ⟨w0, rfl, hi⟩ := h
  exact zero_ref06_CheckHits_0 l w0 hi
 ·intro n F s h
  obtain _ | ⟨g, F⟩ := F
  case cons => exact h.elim
  obtain ⟨w0, rfl, hi⟩ := h
  rw [er_ref06_CheckHits_0]
  exact rnd_ref06_CheckHits_0 l _ _ hi
def con_ref06_CheckHits : Con := fun args => match args with
 | [.t (.c (.sl 7 n_l c_l))] => some (.tu [.c (.v (.int .i64 (hitsI (listC n_l mkHit c_l)))), .c (.v (.int .i64 (hitsE (listC n_l mkHit c_l))))], some (numsP 7 n_l c_l), false)
 | _ => none
theorem ok_ref06_CheckHits : Ok Tryz.prog 93 con_ref06_CheckHits := by
 refine Ok.fn (ann := ann_ref06_CheckHits) mixed tabOK VS72 ValidIt.no (fn := Tryz.f93) (by kernel_rfl) (by kernel_rfl) fit_ref06_CheckHits fun args r pre fresh h hp => ?_
 unfold con_ref06_CheckHits at h
 split at h
 ·rename_i n_l c_l
  cases h
  have hp0 := hp
  refine ⟨rfl, J_ref06_CheckHits (listC n_l mkHit c_l), [.t (.c (.sl 7 ((listC n_l mkHit c_l).length) (hitsC (listC n_l mkHit c_l))))], ?_, Nat.le_of_ble_eq_true (by kernel_rfl), ?_, ?_⟩
  ·exact (LeA_cons (leT_c ((leL_FHit hp0))) LeA_nil)
  ·rw [ev_ref06_CheckHits]; exact spec_ref06_CheckHits (listC n_l mkHit c_l)
  ·exact all_ref06_CheckHits (listC n_l mkHit c_l)
 ·cases h
def S73 : Sum := addS S72 93 con_ref06_CheckHits
theorem VS73 : Valid Tryz.prog S73 := Valid.add VS72 ok_ref06_CheckHits
def vc_ref06_HitsErr (l : List FHit) (post : DV → Prop) : Prop := (numsP 7 l.length (hitsC l)) ∧ (post (.t (.c (.v (.int .i64 (hitsE (listC l.length mkHit (hitsC l))))))))
def ann_ref06_HitsErr : Ann := ⟨fun _ => none, fun _ => none, fun _ => [], noIt, false, fun _ => none, fun _ => none⟩
theorem ev_ref06_HitsErr (J : Inv) (l : List FHit) (post : DV → Prop) : evFn Tryz.prog tab S73 ann_ref06_HitsErr J Tryz.f39 [.t (.c (.sl 7 l.length (hitsC l)))] post = vc_ref06_HitsErr l post := by kernel_rfl
theorem fit_ref06_HitsErr : okFn ann_ref06_HitsErr Tryz.f39 = true := by kernel_rfl
theorem lp_ref06_HitsErr (J : Inv) (post : DV → Prop) : AllG J (loopsFn Tryz.prog tab S73 ann_ref06_HitsErr J Tryz.f39 post) = (True) := by kernel_rfl
theorem spec_ref06_HitsErr (l : List FHit) : vc_ref06_HitsErr l (fun r => LeD r (.t (.c (.v (.int .i64 (hitsE l)))))) := by
 unfold vc_ref06_HitsErr
 rw [hits_listC]
 exact ⟨numsP_hits l, LeD.refl _⟩
def con_ref06_HitsErr : Con := fun args => match args with
 | [.t (.c (.sl 7 n_l c_l))] => some (.t (.c (.v (.int .i64 (hitsE (listC n_l mkHit c_l))))), some (numsP 7 n_l c_l), false)
 | _ => none
theorem ok_ref06_HitsErr : Ok Tryz.prog 39 con_ref06_HitsErr := by
 refine Ok.fn (ann := ann_ref06_HitsErr) mixed tabOK VS73 ValidIt.no (fn := Tryz.f39) (by kernel_rfl) (by kernel_rfl) fit_ref06_HitsErr fun args r pre fresh h hp => ?_
 unfold con_ref06_HitsErr at h
 split at h
 ·rename_i n_l c_l
  cases h
  have hp0 := hp
  refine ⟨rfl, fun _ _ _ => False, [.t (.c (.sl 7 ((listC n_l mkHit c_l).length) (hitsC (listC n_l mkHit c_l))))], ?_, Nat.le_of_ble_eq_true (by kernel_rfl), ?_, ?_⟩
  ·exact (LeA_cons (leT_c ((leL_FHit hp0))) LeA_nil)
  ·rw [ev_ref06_HitsErr]; exact spec_ref06_HitsErr (listC n_l mkHit c_l)
  ·rw [lp_ref06_HitsErr]; trivial
 ·cases h
def S74 : Sum := addS S73 39 con_ref06_HitsErr
theorem VS74 : Valid Tryz.prog S74 := Valid.add VS73 ok_ref06_HitsErr
def S75 : Sum := S74
theorem VS75 : Valid Tryz.prog S75 := VS74
def S76 : Sum := S75
theorem VS76 : Valid Tryz.prog S76 := VS75
def vc_ref06_CopyHits (l : List FHit) (post : DV → Prop) : Prop := (roomP 56 (([] : List (List CV)).length + ((List.range l.length).map fun i => fwd ((hitsC l) i) 0 7).length)) ∧ (post (.t (.c (.sl 7 ((([] : List (List CV)) ++ ((List.range l.length).map fun i => fwd ((hitsC l) i) 0 7)).length) (genC (([] : List (List CV)) ++ ((List.range l.length).map fun i => fwd ((hitsC l) i) 0 7)))))))
def ann_ref06_CopyHits : Ann := ⟨fun _ => none, fun _ => none, fun _ => [], noIt, true, fun _ => none, fun _ => none⟩
theorem ev_ref06_CopyHits (J : Inv) (l : List FHit) (post : DV → Prop) : evFn Tryz.prog tab S76 ann_ref06_CopyHits J Tryz.f32 [.t (.c (.sl 7 l.length (hitsC l)))] post = vc_ref06_CopyHits l post := by kernel_rfl
theorem fit_ref06_CopyHits : okFn ann_ref06_CopyHits Tryz.f32 = true := by kernel_rfl
theorem lp_ref06_CopyHits (J : Inv) (post : DV → Prop) : AllG J (loopsFn Tryz.prog tab S76 ann_ref06_CopyHits J Tryz.f32 post) = (True) := by kernel_rfl
theorem spec_ref06_CopyHits (l : List FHit) (hp : (l).length ≤ 1000) : vc_ref06_CopyHits l (fun r => LeD r (.t (.c (.sl 7 l.length (hitsC l))))) := by
 unfold vc_ref06_CopyHits
 rw [hits_fwd, List.nil_append]
 refine ⟨?_, le_hits l⟩
 unfold roomP maxLen
 simp
 omega
def con_ref06_CopyHits : Con := fun args => match args with
 | [.t (.c (.sl 7 n_l c_l))] => some (.t (.c (.sl 7 ((listC n_l mkHit c_l).length) (hitsC (listC n_l mkHit c_l)))), some (numsP 7 n_l c_l ∧ ((listC n_l mkHit c_l)).length ≤ 1000), true)
 | _ => none
theorem ok_ref06_CopyHits : Ok Tryz.prog 32 con_ref06_CopyHits := by
 refine Ok.fnFr (ann := ann_ref06_CopyHits) mixed tabOK VS76 ValidIt.no rfl (fn := Tryz.f32) (by kernel_rfl) (by kernel_rfl) fit_ref06_CopyHits fun args r pre fresh h hp => ?_
 unfold con_ref06_CopyHits at h
 split at h
 ·rename_i n_l c_l
  cases h
  obtain ⟨hp0, hp⟩ := hp
  refine ⟨rfl, (fun i j _ hj => plain_FHit _ i j), fun _ _ _ => False, [.t (.c (.sl 7 ((listC n_l mkHit c_l).length) (hitsC (listC n_l mkHit c_l))))], ?_, Nat.le_of_ble_eq_true (by kernel_rfl), ?_, ?_⟩
  ·exact (LeA_cons (leT_c ((leL_FHit hp0))) LeA_nil)
  ·rw [ev_ref06_CopyHits]; exact spec_ref06_CopyHits (listC n_l mkHit c_l) hp
  ·rw [lp_ref06_CopyHits]; trivial
 ·cases h
def S77 : Sum := addS S76 32 con_ref06_CopyHits
theorem VS77 : Valid Tryz.prog S77 := Valid.add VS76 ok_ref06_CopyHits
end Go.Proofs.YtdkpgodakmailaaGreatDoor