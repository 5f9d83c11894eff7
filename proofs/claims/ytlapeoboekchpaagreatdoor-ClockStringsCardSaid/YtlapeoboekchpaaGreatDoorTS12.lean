/- Texts of this claim, together. -/
import Derived.Laws.BytesArg
import Derived.Test.YtlapeoboekchpaaGreatDoorTS11

set_option linter.unusedVariables false
set_option linter.unusedSimpArgs false
namespace Go.Proofs.YtlapeoboekchpaaGreatDoor
open Go.RowKit Ev
def decT (u : Nat) (t : List UInt8) : List UInt8 := if u = 0 then t else Lib.decDigits u ++ t
theorem decT_step {u : Nat} (h : u ≠ 0) (t : List UInt8) : decT u t = decT (u / 10) (UInt8.ofNat (48 + u % 10) :: t) := by
 unfold decT
 rw [if_neg h]
 by_cases g : u < 10
 ·rw [if_pos (by omega), dec_small g, show u % 10 = u by omega]; rfl
 ·rw [if_neg (by omega), dec_big g, List.append_assoc]; rfl
theorem decT_len {u : Nat} {t : List UInt8} {u0 : Nat} (h : decT u t = Lib.decDigits u0) (hu : u0 ≤ 9223372036854775808) : (ofL t).size ≤ 30 := by
 have a := dec_len 18 u0 (by omega)
 rw [← h] at a
 unfold decT at a
 rw [ofL_size]
 split at a
 ·omega
 ·rw [List.length_append] at a; omega
theorem app_ofL (l m : List UInt8) : ofL l ++ ofL m = ofL (l ++ m) := by
 rw [← ofL_back (ofL l ++ ofL m), ByteArray.data_append, Array.toList_append]
 rfl
theorem str_one {d : Nat} (h : d < 256) : strOfNums [(d : Int)] = ofL [UInt8.ofNat d] := by
 unfold strOfNums ofL
 simp
theorem size_w (n : Int) (w : World) (h : -9223372036854775807 ≤ n) (h' : n ≤ 9223372036854775807) :
  Calls Tryz.prog 30 #[.int .i64 n] w fun e w' => e = .returned (.int .i64 (n.natAbs : Int)) ∧ w = w' := by
 go_enter Tryz.func30, Tryz.ntmps30
 go_wp2_with fail
 all_goals
  go_ret
  exact ⟨ret_int (by omega), rfl⟩
set_option maxRecDepth 100000 in
set_option maxHeartbeats 2000000 in
theorem walk_Decimal (w : World) (n : Int) (hn : -9223372036854775808 ≤ n ∧ n ≤ 9223372036854775807) :
  Calls Tryz.prog 97 #[.int .i64 n] w fun e w' => e = .returned (.string (itoaB n)) ∧ Below w.heap.size w w' := by
 rcases (by omega : n = 0 ∨ n < 0 ∨ 0 < n) with rfl | hl | hl
 ·go_enter Tryz.func97, Tryz.ntmps97
  go_wp2_with fail
  go_ret
  exact ⟨by rw [show itoaB 0 = ofL [48] by unfold itoaB; rw [itoa_pos (by omega), dec_small (by decide)]; rfl]; rfl, Below.refl _ _⟩
 ·obtain ⟨u0, hu0⟩ : ∃ u : Nat, u = n.natAbs := ⟨_, rfl⟩
  have hn0 : ¬ n = 0 := by omega
  have HI : Hid (itoaB n = ofL (45 :: Lib.decDigits u0)) := hid (by unfold itoaB; rw [itoa_neg hl, hu0])
  go_enter Tryz.func97, Tryz.ntmps97
  go_wp2_with fail
  have hq : (n == 0) = false := by simpa using hn0
  rw [hq]; clear hq
  go_loopw [0, 3] (fun a s wr => ∃ (u : Nat) (t : List UInt8), a = .int .i64 (-(u : Int)) ∧ u ≤ u0 ∧ s = .string (ofL t) ∧ Hid (decT u t = Lib.decDigits u0) ∧ Below w.heap.size w wr) (fun a _ _ => (intOf a).natAbs)
  case atStart => exact ⟨u0, [], by rw [hu0]; congr 1; omega, Nat.le_refl _, rfl, hid (by unfold decT; rw [if_neg (by omega)]; simp), Below.refl _ _⟩
  case round =>
   obtain ⟨u, t, rfl, hu, rfl, HD, HB⟩ := hrel
   have hs := decT_len HD.out (by omega)
   by_cases z : u = 0
   ·subst z
    have e : ¬ (-((0 : Nat) : Int)) ≠ 0 := by simp
    go_wp2_with fail
    go_ret
    have hd : Lib.decDigits u0 = t := by rw [← HD.out]; rfl
    refine ⟨?_, HB⟩
    rw [HI.out, hd]
    rfl
   ·have e : (-(u : Int)) ≠ 0 := by omega
    obtain ⟨x, hx0⟩ : ∃ x, UInt8.ofNat (48 + u % 10) = x := ⟨_, rfl⟩
    have HX := hid hx0
    clear hx0
    have hx : (ofL [x]).size = 1 := rfl
    go_wp2_with fail
    refine (size_w _ _ (by omega) (by omega)).mono ?_
    rintro e w' ⟨rfl, rfl⟩
    go_wp2_with fail
    rw [run_convert_bytes_arg _ _ 5 (by kernel_rfl) (by kernel_rfl) wr.heap.size 0 1 1 [48 + ((u : Int) % 10).natAbs] rfl (by
     intro i hi
     obtain rfl : i = 0 := by omega
     simp) _ (by kernel_rfl), show strOfNums [48 + (((u : Int) % 10).natAbs : Int)] = ofL [x] from by rw [show (48 + (((u : Int) % 10).natAbs : Int)) = ((48 + u % 10 : Nat) : Int) by omega, str_one (by omega), HX.out]]
    go_wp2_with fail
    go_roundw
    case rel => exact ⟨u / 10, x :: t, by trivial, by omega, by rw [app_ofL]; rfl, hid (by rw [← HD.out, decT_step z, HX.out]), Below_alloc HB _⟩
    case measure => simp [intOf]; omega
 ·obtain ⟨u0, hu0⟩ : ∃ u : Nat, u = n.natAbs := ⟨_, rfl⟩
  have hn0 : ¬ n = 0 := by omega
  have HI : Hid (itoaB n = ofL (Lib.decDigits u0)) := hid (by unfold itoaB; rw [itoa_pos (by omega), hu0, show n.toNat = n.natAbs by omega])
  go_enter Tryz.func97, Tryz.ntmps97
  go_wp2_with fail
  have hq : (n == 0) = false := by simpa using hn0
  rw [hq]; clear hq
  go_loopw [0, 3] (fun a s wr => ∃ (u : Nat) (t : List UInt8), a = .int .i64 ((u : Int)) ∧ u ≤ u0 ∧ s = .string (ofL t) ∧ Hid (decT u t = Lib.decDigits u0) ∧ Below w.heap.size w wr) (fun a _ _ => (intOf a).natAbs)
  case atStart => exact ⟨u0, [], by rw [hu0]; congr 1; omega, Nat.le_refl _, rfl, hid (by unfold decT; rw [if_neg (by omega)]; simp), Below.refl _ _⟩
  case round =>
   obtain ⟨u, t, rfl, hu, rfl, HD, HB⟩ := hrel
   have hs := decT_len HD.out (by omega)
   by_cases z : u = 0
   ·subst z
    have e : ¬ (((0 : Nat) : Int)) ≠ 0 := by simp
    go_wp2_with fail
    go_ret
    have hd : Lib.decDigits u0 = t := by rw [← HD.out]; rfl
    refine ⟨?_, HB⟩
    rw [HI.out, hd]
    rfl
   ·have e : ((u : Int)) ≠ 0 := by omega
    obtain ⟨x, hx0⟩ : ∃ x, UInt8.ofNat (48 + u % 10) = x := ⟨_, rfl⟩
    have HX := hid hx0
    clear hx0
    have hx : (ofL [x]).size = 1 := rfl
    go_wp2_with fail
    refine (size_w _ _ (by omega) (by omega)).mono ?_
    rintro e w' ⟨rfl, rfl⟩
    go_wp2_with fail
    rw [run_convert_bytes_arg _ _ 5 (by kernel_rfl) (by kernel_rfl) wr.heap.size 0 1 1 [48 + ((u : Int) % 10).natAbs] rfl (by
     intro i hi
     obtain rfl : i = 0 := by omega
     simp) _ (by kernel_rfl), show strOfNums [48 + (((u : Int) % 10).natAbs : Int)] = ofL [x] from by rw [show (48 + (((u : Int) % 10).natAbs : Int)) = ((48 + u % 10 : Nat) : Int) by omega, str_one (by omega), HX.out]]
    go_wp2_with fail
    go_roundw
    case rel => exact ⟨u / 10, x :: t, by trivial, by omega, by rw [app_ofL]; rfl, hid (by rw [← HD.out, decT_step z, HX.out]), Below_alloc HB _⟩
    case measure => simp [intOf]; omega
end Go.Proofs.YtlapeoboekchpaaGreatDoor
set_option linter.unusedVariables false
set_option linter.unusedSimpArgs false
namespace Go.Proofs.YtlapeoboekchpaaGreatDoor
open Go.RowKit Ev
theorem jn_snoc (c : UInt8) (p : List UInt8) : ∀ ps : List (List UInt8), ps ≠ [] → jnC c (ps ++ [p]) = jnC c ps ++ c :: p
 | [], h => (h rfl).elim
 | [q], _ => by simp [jnC]
 | q :: r :: s, _ => by
  have ih := jn_snoc c p (r :: s) (by simp)
  have e1 : jnC c (q :: r :: s ++ [p]) = q ++ c :: jnC c (r :: s ++ [p]) := rfl
  have e2 : jnC c (q :: r :: s) = q ++ c :: jnC c (r :: s) := rfl
  rw [e1, e2, ih]; simp
theorem joinB_snoc (c : UInt8) (t : ByteArray) {l : List ByteArray} (h : l ≠ []) : joinB (l ++ [t]) ⟨#[c]⟩ = (joinB l ⟨#[c]⟩ ++ ⟨#[c]⟩) ++ t := by
 rw [joinB_one, joinB_one, List.map_append, List.map_singleton, jn_snoc c _ _ (by simpa using h)]
 rw [show (⟨#[c]⟩ : ByteArray) = ofL [c] from rfl, app_ofL]
 conv => rhs; rw [← ofL_back t]
 rw [app_ofL]; simp
theorem joinB_single (c : UInt8) (t : ByteArray) : joinB [t] ⟨#[c]⟩ = t := by
 rw [joinB_one]; exact ofL_back t
theorem empty_app (t : ByteArray) : (⟨#[]⟩ : ByteArray) ++ t = t := by
 rw [← ofL_back t, show (⟨#[]⟩ : ByteArray) = ofL [] from rfl, app_ofL]; rfl
theorem words_snoc {l : List Int} {k : Nat} (h : k < l.length) (h0 : 0 < k) : (wordsB (l.take k) ++ ⟨#[32]⟩) ++ itoaB (l.getD k 0) = wordsB (l.take (k + 1)) := by
 unfold wordsB
 rw [take_snoc l 0 h, List.map_append, List.map_singleton, joinB_snoc _ _ (by intro e; have := congrArg List.length e; rw [List.length_map, List.length_take, List.length_nil] at this; omega)]
theorem words_one {l : List Int} (h : 0 < l.length) : (⟨#[]⟩ : ByteArray) ++ itoaB (l.getD 0 0) = wordsB (l.take 1) := by
 rw [empty_app]
 unfold wordsB
 rw [take_snoc l 0 h, List.take_zero, List.nil_append, List.map_singleton, joinB_single]
theorem words_take {l : List Int} {k : Nat} (hl : l.length ≤ 100) (h : ∀ i, i < l.length → -9223372036854775808 ≤ l.getD i 0 ∧ l.getD i 0 ≤ 9223372036854775807) : (wordsB (l.take k)).size ≤ 2100 := by
 have := wordsB_len (l := l.take k) (fun i hi => by
  rw [List.length_take] at hi
  have := h i (by omega)
  rwa [show (l.take k).getD i 0 = l.getD i 0 by simp [List.getD, List.getElem?_take, show i < k by omega]])
 rw [List.length_take] at this
 omega
def rW (s : ByteArray) (ct dg sg : Nat) : List Int := if okW s ct dg sg = true then valsW s dg ct else []
theorem names_snoc {l : List ByteArray} {k : Nat} (h : k < l.length) (h0 : 0 < k) : (joinB (l.take k) ⟨#[44]⟩ ++ ⟨#[44]⟩) ++ txAt l k = joinB (l.take (k + 1)) ⟨#[44]⟩ := by
 rw [take_snoc l (txAt l k) h, show l.getD k (txAt l k) = txAt l k by simp [txAt, List.getD, h], joinB_snoc _ _ (by intro e; have := congrArg List.length e; rw [List.length_take, List.length_nil] at this; omega)]
theorem names_one {l : List ByteArray} (h : 0 < l.length) : (⟨#[]⟩ : ByteArray) ++ txAt l 0 = joinB (l.take 1) ⟨#[44]⟩ := by
 rw [empty_app, take_snoc l (txAt l 0) h, List.take_zero, List.nil_append, joinB_single]
 simp [txAt, List.getD, h]
theorem links_snoc (t : ByteArray) {l : List Lnk} {k : Nat} (h : k < l.length) : (joinB (t :: (l.take k).map lnkW) ⟨#[59]⟩ ++ ⟨#[59]⟩) ++ lnkW (lnkAt l k) = joinB (t :: (l.take (k + 1)).map lnkW) ⟨#[59]⟩ := by
 rw [take_snoc l (lnkAt l k) h, show l.getD k (lnkAt l k) = lnkAt l k by simp [lnkAt, List.getD, h], List.map_append, List.map_singleton, ← List.cons_append, joinB_snoc _ _ (by simp)]
theorem names_take {cs : List ByteArray} {k : Nat} (h1 : cs.length ≤ 8) (h3 : ∀ k, k < cs.length → (txAt cs k).size ≤ 20) : (joinB (cs.take k) ⟨#[44]⟩).size ≤ 200 := by
 have := joinB_len (cs.take k) 44 (m := 20) (fun t ht => by
  obtain ⟨i, hi, e⟩ := List.mem_iff_getElem.1 (List.mem_of_mem_take ht)
  have := h3 i hi
  rwa [show txAt cs i = t by simp [txAt, List.getD, hi, e]] at this)
 rw [List.length_take] at this
 omega
theorem links_take {cs : List ByteArray} {ls : List Lnk} {k : Nat} (h1 : cs.length ≤ 8) (h2 : ls.length ≤ 14) (h3 : ∀ k, k < cs.length → (txAt cs k).size ≤ 20) (h4 : ∀ k, k < ls.length → rgI (lnkAt ls k)) : (joinB (joinB cs ⟨#[44]⟩ :: (ls.take k).map lnkW) ⟨#[59]⟩).size ≤ 6000 :=
 (netT_len (cs := cs) (ls := ls.take k) h1 (by rw [List.length_take]; omega) h3 fun i hi => by
  rw [List.length_take] at hi
  have := h4 i (by omega)
  rwa [show lnkAt (ls.take k) i = lnkAt ls i by simp [lnkAt, List.getD, List.getElem?_take, show i < k by omega]]).2
theorem lnk_eqB (x y : Lnk) : (bif (x.frm == y.frm) then (bif (x.to == y.to) then (bif (bif (x.lo == y.lo) then (bif (x.hi == y.hi) then true else false) else false) then true else false) else false) else false) = decide (x = y) := by
 obtain ⟨a, b, c, d⟩ := x
 obtain ⟨a', b', c', d'⟩ := y
 by_cases h1 : a = a'
 ·by_cases h2 : b = b'
  ·by_cases h3 : c = c'
   ·by_cases h4 : d = d'
    ·subst h1 h2 h3 h4; simp
    ·simp [h1, h2, h3, h4]
   ·simp [h1, h2, h3]
  ·simp [h1, h2]
 ·simp [h1]
end Go.Proofs.YtlapeoboekchpaaGreatDoor
set_option linter.unusedVariables false
set_option linter.unusedSimpArgs false
namespace Go.Proofs.YtlapeoboekchpaaGreatDoor
open Go.RowKit Ev
def con_base_Decimal : Con := fun args => match args with
 | [.t (.c (.v (.int .i64 n)))] => some (.t (.c (.v (.string (itoaB n)))), some (-9223372036854775808 ≤ n ∧ n ≤ 9223372036854775807), false)
 | _ => none
theorem ok_base_Decimal : Ok Tryz.prog 97 con_base_Decimal := by
 refine Ok.oldG (Enters.of (fn := Tryz.f97) (by kernel_rfl) (by kernel_rfl) (by kernel_rfl)) fun args r pre fresh h hp => ?_
 unfold con_base_Decimal at h
 split at h
 ·rename_i n
  cases h
  refine ⟨rfl, _, rfl, fun W N vs hv => ?_⟩
  have hp := hp
  obtain ⟨u0, ws0, k0, g0, hv0⟩ := hv.cons_inv
  subst k0
  have e0 := plain_arg rfl g0
  subst e0
  have ev := hv0.nil_inv
  subst ev
  exact walk_Decimal W n hp
 ·cases h
def Sw483 : Sum := addS Sv82 97 con_base_Decimal
theorem VSw483 : Valid Tryz.prog Sw483 := Valid.add VSv82 ok_base_Decimal
def mk_ref01_words_0 (l : List Int) (v0_0 : ByteArray) (v0_1 : Int) : DS := ⟨[some (.t (.c (.sl 1 l.length (intsC l)))), none, none, some (.t (.c (.v (.string v0_0)))), some (.t (.c (.v (.int .i64 v0_1)))), none, none, none, none, none, none, none, none, none, none, none, none, none, none, none, none, none, none], [none, none, none, none, none, none, none, none, none, none, none, none, none, none, none, none, none, none, none, none, none, none, none]⟩
def vc_ref01_words (J : Inv) (l : List Int) (post : DV → Prop) : Prop := ∃ n, J 0 (n :: []) (mk_ref01_words_0 l (⟨#[]⟩) 0)
def ann_ref01_words : Ann := ⟨fun _ => none, fun b => lookA b [(0, (none, some ⟨[0, 3, 4], [], []⟩))], fun _ => [], Ilib, false, fun _ => none, fun _ => none⟩
theorem ev_ref01_words (J : Inv) (l : List Int) (post : DV → Prop) : evFn Tryz.prog tab Sw483 ann_ref01_words J Tryz.f56 [.t (.c (.sl 1 l.length (intsC l)))] post = vc_ref01_words J l post := by kernel_rfl
theorem fit_ref01_words : okFn ann_ref01_words Tryz.f56 = true := by kernel_rfl
def rd_ref01_words_0 (J : Inv) (l : List Int) (v0_0 : ByteArray) (v0_1 : Int) (nn0 : Nat) (post : DV → Prop) : Prop := cond (decide (v0_1 < ((l.length : Nat) : Int))) (cond (decide (v0_1 > (0 : Int))) (((((v0_0 : ByteArray).size + ((⟨#[32]⟩) : ByteArray).size : Nat) : Int) ≤ 9223372036854775807) ∧ ((0 ≤ v0_1 ∧ v0_1 < ((l.length : Nat) : Int)) ∧ ((-9223372036854775808 ≤ (l.getD v0_1.toNat 0) ∧ (l.getD v0_1.toNat 0) ≤ 9223372036854775807) ∧ ((((((v0_0 ++ (⟨#[32]⟩)) : ByteArray).size + ((itoaB (l.getD v0_1.toNat 0)) : ByteArray).size : Nat) : Int) ≤ 9223372036854775807) ∧ (lt (IntKind.i64.wrap (v0_1 + (1 : Int))) fun x1 => J 0 (nn0 :: []) (mk_ref01_words_0 l ((v0_0 ++ (⟨#[32]⟩)) ++ (itoaB (l.getD v0_1.toNat 0))) x1)))))) ((0 ≤ v0_1 ∧ v0_1 < ((l.length : Nat) : Int)) ∧ ((-9223372036854775808 ≤ (l.getD v0_1.toNat 0) ∧ (l.getD v0_1.toNat 0) ≤ 9223372036854775807) ∧ (((((v0_0 : ByteArray).size + ((itoaB (l.getD v0_1.toNat 0)) : ByteArray).size : Nat) : Int) ≤ 9223372036854775807) ∧ (lt (IntKind.i64.wrap (v0_1 + (1 : Int))) fun x2 => J 0 (nn0 :: []) (mk_ref01_words_0 l (v0_0 ++ (itoaB (l.getD v0_1.toNat 0))) x2)))))) (post (.t (.c (.v (.string v0_0)))))
theorem er_ref01_words_0 (J : Inv) (l : List Int) (v0_0 : ByteArray) (v0_1 : Int) (nn0 : Nat) (post : DV → Prop) : round Tryz.prog tab Sw483 ann_ref01_words J Tryz.f56 post 0 (nn0 :: []) (mk_ref01_words_0 l v0_0 v0_1) = rd_ref01_words_0 J l v0_0 v0_1 nn0 post := by kernel_rfl
theorem lp_ref01_words (J : Inv) (post : DV → Prop) : AllG J (loopsFn Tryz.prog tab Sw483 ann_ref01_words J Tryz.f56 post) = (((∀ F s, ¬ J 0 (0 :: F) s) ∧ ∀ n F s, J 0 ((n + 1) :: F) s → round Tryz.prog tab Sw483 ann_ref01_words J Tryz.f56 post 0 (n :: F) s) ∧ True) := by kernel_rfl
def J_ref01_words (l : List Int) : Inv := fun b F s => match b, F with
 | 0, [nn0] => ∃ (v0_0 : ByteArray) (v0_1 : Int), s = mk_ref01_words_0 l v0_0 v0_1 ∧ ((l.length ≤ 100 ∧ (∀ i, i < (l).length → -9223372036854775808 ≤ (l).getD i 0 ∧ (l).getD i 0 ≤ 9223372036854775807)) ∧ 0 ≤ v0_1 ∧ v0_1 ≤ l.length ∧ (nn0 : Int) + v0_1 = l.length + 1 ∧ v0_0 = wordsB (l.take v0_1.toNat))
 | _, _ => False
theorem rnd_ref01_words_0 (l : List Int) (v0_0 : ByteArray) (v0_1 : Int) (nn0 : Nat) (hp : (l).length ≤ 100 ∧ (∀ i, i < (l).length → -9223372036854775808 ≤ (l).getD i 0 ∧ (l).getD i 0 ≤ 9223372036854775807)) (hi : (l.length ≤ 100 ∧ (∀ i, i < (l).length → -9223372036854775808 ≤ (l).getD i 0 ∧ (l).getD i 0 ≤ 9223372036854775807)) ∧ 0 ≤ v0_1 ∧ v0_1 ≤ l.length ∧ ((nn0 + 1) : Int) + v0_1 = l.length + 1 ∧ v0_0 = wordsB (l.take v0_1.toNat)) : rd_ref01_words_0 (J_ref01_words l) l v0_0 v0_1 nn0 (fun r => LeD r (.t (.c (.v (.string (wordsB l)))))) := by
 obtain ⟨q, i1, i2, i3, i4⟩ := hi
 obtain ⟨k, rfl⟩ : ∃ k : Nat, v0_1 = k := ⟨v0_1.toNat, by omega⟩
 have hk : (k : Int).toNat = k := rfl
 rw [hk] at i4
 subst i4
 unfold rd_ref01_words_0
 rw [Int.toNat_natCast]
 have w1 := words_take (k := k) q.1 q.2
 refine cond_i (fun h => ?_) (fun h => ?_)
 ·have hlt : k < l.length := by have := of_decide_eq_true h; omega
  have b := q.2 k hlt
  have w2 := itoaB_len b
  refine cond_i (fun g => ?_) (fun g => ?_)
  ·have g : 0 < k := by have := of_decide_eq_true g; omega
   have w3 : ((wordsB (l.take k) ++ ⟨#[32]⟩ : ByteArray)).size ≤ 2101 := by rw [ByteArray.size_append]; show _ + 1 ≤ _; omega
   refine ⟨by show (((wordsB (l.take k)).size + 1 : Nat) : Int) ≤ _; omega, ⟨by omega, by omega⟩, b, by omega, lt_i fun x1 h1 => ?_⟩
   rw [wi (by omega)] at h1
   subst h1
   exact ⟨_, _, rfl, q, by omega, by omega, by omega, words_snoc hlt g⟩
  ·have g : k = 0 := by have := of_decide_eq_false g; omega
   subst g
   refine ⟨⟨by omega, by omega⟩, b, by omega, lt_i fun x1 h1 => ?_⟩
   rw [wi (by omega)] at h1
   subst h1
   exact ⟨_, _, rfl, q, by omega, by omega, by omega, words_one hlt⟩
 ·have e : k = l.length := by have := of_decide_eq_false h; omega
  subst e
  rw [List.take_length]
  exact LeD.refl _
theorem zero_ref01_words_0 (l : List Int) (v0_0 : ByteArray) (v0_1 : Int)  (hi : (l.length ≤ 100 ∧ (∀ i, i < (l).length → -9223372036854775808 ≤ (l).getD i 0 ∧ (l).getD i 0 ≤ 9223372036854775807)) ∧ 0 ≤ v0_1 ∧ v0_1 ≤ l.length ∧ (0 : Int) + v0_1 = l.length + 1 ∧ v0_0 = wordsB (l.take v0_1.toNat)) : False := by
 omega
theorem spec_ref01_words (l : List Int) (hp : (l).length ≤ 100 ∧ (∀ i, i < (l).length → -9223372036854775808 ≤ (l).getD i 0 ∧ (l).getD i 0 ≤ 9223372036854775807)) : vc_ref01_words (J_ref01_words l) l (fun r => LeD r (.t (.c (.v (.string (wordsB l)))))) := by
 unfold vc_ref01_words
 exact ⟨l.length + 1, _, 0, rfl, hp, by omega, by omega, by omega, rfl⟩
theorem all_ref01_words (l : List Int) (hp : (l).length ≤ 100 ∧ (∀ i, i < (l).length → -9223372036854775808 ≤ (l).getD i 0 ∧ (l).getD i 0 ≤ 9223372036854775807)) : AllG (J_ref01_words l) (loopsFn Tryz.prog tab Sw483 ann_ref01_words (J_ref01_words l) Tryz.f56 (fun r => LeD r (.t (.c (.v (.string (wordsB l))))))) := by
 rw [lp_ref01_words]
 refine ⟨⟨?_, ?_⟩, trivial⟩
 ·intro F s h
  obtain _ | ⟨g, F⟩ := F
  case cons => exact h.elim
  obtain ⟨w0, w1, rfl, hi⟩ := h
  exact zero_ref01_words_0 l w0 w1 hi
 ·intro n F s h
  obtain _ | ⟨g, F⟩ := F
  case cons => exact h.elim
  obtain ⟨w0, w1, rfl, hi⟩ := h
  rw [er_ref01_words_0]
  exact rnd_ref01_words_0 l _ _ _ hp hi
def con_ref01_words : Con := fun args => match args with
 | [.t (.c (.sl 1 n_l c_l))] => some (.t (.c (.v (.string (wordsB (listC n_l mkInt c_l))))), some (numsP 1 n_l c_l ∧ ((listC n_l mkInt c_l)).length ≤ 100 ∧ (∀ i, i < ((listC n_l mkInt c_l)).length → -9223372036854775808 ≤ ((listC n_l mkInt c_l)).getD i 0 ∧ ((listC n_l mkInt c_l)).getD i 0 ≤ 9223372036854775807)), false)
 | _ => none
theorem ok_ref01_words : Ok Tryz.prog 56 con_ref01_words := by
 refine Ok.fn (ann := ann_ref01_words) mixed tabOK VSw483 VIlib (fn := Tryz.f56) (by kernel_rfl) (by kernel_rfl) fit_ref01_words fun args r pre fresh h hp => ?_
 unfold con_ref01_words at h
 split at h
 ·rename_i n_l c_l
  cases h
  obtain ⟨hp0, hp⟩ := hp
  refine ⟨rfl, J_ref01_words (listC n_l mkInt c_l), [.t (.c (.sl 1 ((listC n_l mkInt c_l).length) (intsC (listC n_l mkInt c_l))))], ?_, Nat.le_of_ble_eq_true (by kernel_rfl), ?_, ?_⟩
  ·exact (LeA_cons (leT_c ((leL_int hp0))) LeA_nil)
  ·rw [ev_ref01_words]; exact spec_ref01_words (listC n_l mkInt c_l) hp
  ·exact all_ref01_words (listC n_l mkInt c_l) hp
 ·cases h
def Sw484 : Sum := addS Sw483 56 con_ref01_words
theorem VSw484 : Valid Tryz.prog Sw484 := Valid.add VSw483 ok_ref01_words
def mk_ref01_numbers_0 (tx : ByteArray) (count : Int) (digits : Int) (signed : Int) (v0_0 : List Int) (v0_1 : Int) : DS := ⟨[none, none, some (.t (.c (.v (.int .i64 digits)))), some (.t (.c (.v (.int .i64 signed)))), none, none, none, none, none, none, some (.t (.c (.sl 1 ((cutL tx (UInt8.ofNat ((32 : Int)).toNat)).length) (txsC (cutL tx (UInt8.ofNat ((32 : Int)).toNat)))))), some (.t (.c (.os 11))), some (.t (.c (.v (.int .i64 v0_1)))), none, none, none, none, none, none, none, none, none, none, none, none, none, none, none, none, none, none, none, none, none, none, none, none, none, none, none, none, none, none, none, none, none, none, none, none, none, none, none], [none, none, none, none, none, none, none, none, none, none, none, some (.num 3 .i64 v0_0), none, none, none, none, none, none, none, none, none, none, none, none, none, none, none, none, none, none, none, none, none, none, none, none, none, none, none, none, none, none, none, none, none, none, none, none, none, none, none, none]⟩
def vc_ref01_numbers (J : Inv) (tx : ByteArray) (count : Int) (digits : Int) (signed : Int) (post : DV → Prop) : Prop := (0 ≤ (32 : Int) ∧ (32 : Int) < 256 ∧ (tx).size ≤ 100000000) ∧ (cond ((((cutL tx (UInt8.ofNat ((32 : Int)).toNat)).length : Nat) : Int) != count) (post (.tu [.c (.v (.slice none 0 0)), .c (.v (.bool false))])) (∃ n, J 0 (n :: []) (mk_ref01_numbers_0 tx count digits signed ([]) 0)))
def ann_ref01_numbers : Ann := ⟨fun _ => none, fun b => lookA b [(0, (none, some ⟨[2, 3, 10, 12], [], [(11, .num 3 .i64 ([]))]⟩))], fun _ => [], Ilib, true, fun r => lookA r [(9, (3, [46]))], fun _ => none⟩
theorem ev_ref01_numbers (J : Inv) (tx : ByteArray) (count : Int) (digits : Int) (signed : Int) (post : DV → Prop) : evFn Tryz.prog tab Sw484 ann_ref01_numbers J Tryz.f54 [.t (.c (.v (.string tx))), .t (.c (.v (.int .i64 count))), .t (.c (.v (.int .i64 digits))), .t (.c (.v (.int .i64 signed)))] post = vc_ref01_numbers J tx count digits signed post := by kernel_rfl
theorem fit_ref01_numbers : okFn ann_ref01_numbers Tryz.f54 = true := by kernel_rfl
def rd_ref01_numbers_0 (J : Inv) (tx : ByteArray) (count : Int) (digits : Int) (signed : Int) (v0_0 : List Int) (v0_1 : Int) (nn0 : Nat) (post : DV → Prop) : Prop := cond (decide (v0_1 < (((cutL tx (UInt8.ofNat ((32 : Int)).toNat)).length : Nat) : Int))) ((0 ≤ v0_1 ∧ v0_1 < (((cutL tx (UInt8.ofNat ((32 : Int)).toNat)).length : Nat) : Int)) ∧ ((0 ≤ digits ∧ digits ≤ 17 ∧ ((txAt (cutL tx (UInt8.ofNat ((32 : Int)).toNat)) v0_1.toNat)).size ≤ 100000000) ∧ ((cond (!((numR ((txAt (cutL tx (UInt8.ofNat ((32 : Int)).toNat)) v0_1.toNat)).data.toList (digits).toNat).isSome)) ((true = true) ∧ (True)) (cond (decide (((numR ((txAt (cutL tx (UInt8.ofNat ((32 : Int)).toNat)) v0_1.toNat)).data.toList (digits).toNat).getD 0) < (0 : Int))) (True) ((false = false) ∧ (True)))) ∧ (lt ((bif (!((numR ((txAt (cutL tx (UInt8.ofNat ((32 : Int)).toNat)) v0_1.toNat)).data.toList (digits).toNat).isSome)) then true else (bif decide (((numR ((txAt (cutL tx (UInt8.ofNat ((32 : Int)).toNat)) v0_1.toNat)).data.toList (digits).toNat).getD 0) < (0 : Int)) then decide (v0_1 < signed) else false))) fun x1 => cond x1 (post (.tu [.c (.v (.slice none 0 0)), .c (.v (.bool false))])) (((IntKind.i64 = IntKind.i64 ∧ True) ∧ roomP 8 (v0_0.length + ([(numR ((txAt (cutL tx (UInt8.ofNat ((32 : Int)).toNat)) v0_1.toNat)).data.toList (digits).toNat).getD 0] : List Int).length)) ∧ (lt (IntKind.i64.wrap (v0_1 + (1 : Int))) fun x2 => J 0 (nn0 :: []) (mk_ref01_numbers_0 tx count digits signed (v0_0 ++ ([(numR ((txAt (cutL tx (UInt8.ofNat ((32 : Int)).toNat)) v0_1.toNat)).data.toList (digits).toNat).getD 0])) x2))))))) (post (.tu [.c (.sl 1 v0_0.length (numsC .i64 v0_0)), .c (.v (.bool true))]))
theorem er_ref01_numbers_0 (J : Inv) (tx : ByteArray) (count : Int) (digits : Int) (signed : Int) (v0_0 : List Int) (v0_1 : Int) (nn0 : Nat) (post : DV → Prop) : round Tryz.prog tab Sw484 ann_ref01_numbers J Tryz.f54 post 0 (nn0 :: []) (mk_ref01_numbers_0 tx count digits signed v0_0 v0_1) = rd_ref01_numbers_0 J tx count digits signed v0_0 v0_1 nn0 post := by kernel_rfl
theorem lp_ref01_numbers (J : Inv) (post : DV → Prop) : AllG J (loopsFn Tryz.prog tab Sw484 ann_ref01_numbers J Tryz.f54 post) = (((∀ F s, ¬ J 0 (0 :: F) s) ∧ ∀ n F s, J 0 ((n + 1) :: F) s → round Tryz.prog tab Sw484 ann_ref01_numbers J Tryz.f54 post 0 (n :: F) s) ∧ True) := by kernel_rfl
def J_ref01_numbers (tx : ByteArray) (count : Int) (digits : Int) (signed : Int) : Inv := fun b F s => match b, F with
 | 0, [nn0] => ∃ (v0_0 : List Int) (v0_1 : Int), s = mk_ref01_numbers_0 tx count digits signed v0_0 v0_1 ∧ ((0 ≤ count ∧ 0 ≤ digits ∧ digits ≤ 17 ∧ 0 ≤ signed ∧ (tx).size ≤ 100000000) ∧ ((nPc 32 tx : Nat) : Int) = count ∧ 0 ≤ v0_1 ∧ v0_1 ≤ count ∧ (nn0 : Int) + v0_1 = count + 1 ∧ v0_0 = valsW tx digits.toNat v0_1.toNat ∧ ∀ j, j < v0_1.toNat → goodW tx digits.toNat signed.toNat j = true)
 | _, _ => False
theorem rnd_ref01_numbers_0 (tx : ByteArray) (count : Int) (digits : Int) (signed : Int) (v0_0 : List Int) (v0_1 : Int) (nn0 : Nat) (hp : 0 ≤ count ∧ 0 ≤ digits ∧ digits ≤ 17 ∧ 0 ≤ signed ∧ (tx).size ≤ 100000000) (hi : (0 ≤ count ∧ 0 ≤ digits ∧ digits ≤ 17 ∧ 0 ≤ signed ∧ (tx).size ≤ 100000000) ∧ ((nPc 32 tx : Nat) : Int) = count ∧ 0 ≤ v0_1 ∧ v0_1 ≤ count ∧ ((nn0 + 1) : Int) + v0_1 = count + 1 ∧ v0_0 = valsW tx digits.toNat v0_1.toNat ∧ ∀ j, j < v0_1.toNat → goodW tx digits.toNat signed.toNat j = true) : rd_ref01_numbers_0 (J_ref01_numbers tx count digits signed) tx count digits signed v0_0 v0_1 nn0 (fun r => LeD r (.tu [.c (.sl 1 ((rW tx (count).toNat (digits).toNat (signed).toNat).length) (intsC (rW tx (count).toNat (digits).toNat (signed).toNat))), .c (.v (.bool (okW tx (count).toNat (digits).toNat (signed).toNat)))])) := by
 obtain ⟨⟨q1, q2, q3, q4, q5⟩, i0, i1, i2, i3, i4, i5⟩ := hi
 obtain ⟨dg, rfl⟩ : ∃ d : Nat, digits = d := ⟨digits.toNat, by omega⟩
 obtain ⟨sg, rfl⟩ : ∃ d : Nat, signed = d := ⟨signed.toNat, by omega⟩
 obtain ⟨k, rfl⟩ : ∃ d : Nat, v0_1 = d := ⟨v0_1.toNat, by omega⟩
 subst i0
 simp only [Int.toNat_natCast] at i4 i5
 subst i4
 have np := nPc_le 32 tx
 unfold rd_ref01_numbers_0
 rw [show (UInt8.ofNat ((32 : Int)).toNat) = 32 from rfl, cutL_len]
 simp only [Int.toNat_natCast]
 refine cond_i (fun h => ?_) (fun h => ?_)
 ·have hlt : k < nPc 32 tx := by have := of_decide_eq_true h; omega
  simp only [cutL_at hlt, ofL_data]
  refine ⟨⟨by omega, by omega⟩, ⟨by omega, by omega, by rw [ofL_size]; exact Nat.le_trans wAt_len (by omega)⟩, cond_i (fun _ => ⟨by trivial, trivial⟩) (fun _ => cond_i (fun _ => trivial) (fun _ => ⟨by trivial, trivial⟩)), lt_i fun x1 h1 => ?_⟩
  have e1 : x1 = !goodW tx dg sg k := by
   rw [← h1]
   unfold goodW
   cases e : numR (wAt 32 tx k) dg with
   | none => rfl
   | some v =>
    show (bif decide (v < 0) then decide ((k : Int) < sg) else false) = !(!(decide (v < 0) && decide (k < sg)))
    have : decide ((k : Int) < sg) = decide (k < sg) := by simp
    rw [this]
    cases decide (v < 0) <;> simp
  subst e1
  refine cond_i (fun g => ?_) (fun g => ?_)
  ·have g : goodW tx dg sg k = false := by simpa using g
   have e : okW tx (nPc 32 tx) dg sg = false := by unfold okW; rw [allW_no hlt g]; rfl
   rw [show rW tx (nPc 32 tx) dg sg = [] from if_neg (by rw [e]; simp), e]
   exact le_tu le_nil (LeD.refl _)
  ·have g : goodW tx dg sg k = true := by simpa using g
   refine ⟨⟨⟨by trivial, trivial⟩, by simp [valsW_len]; omega, by simp [valsW_len, maxLen]; omega⟩, lt_i fun x2 h2 => ?_⟩
   rw [wi (by omega)] at h2
   subst h2
   refine ⟨_, _, rfl, ⟨q1, q2, q3, q4, q5⟩, rfl, by omega, by omega, by omega, ?_, fun j hj => ?_⟩
   ·rw [show ((k : Int) + 1).toNat = k + 1 from rfl, Int.toNat_natCast, valsW_succ]; rfl
   ·rw [Int.toNat_natCast, Int.toNat_natCast]
    rcases (by omega : j < k ∨ j = k) with c | rfl
    ·exact i5 j c
    ·exact g
 ·have e : k = nPc 32 tx := by have := of_decide_eq_false h; omega
  have a : allW tx dg sg = true := allW_yes fun j hj => i5 j (by omega)
  have o : okW tx (nPc 32 tx) dg sg = true := by unfold okW; rw [a]; simp
  rw [show rW tx (nPc 32 tx) dg sg = valsW tx dg (nPc 32 tx) from if_pos o, o, e]
  exact LeD.refl _
theorem zero_ref01_numbers_0 (tx : ByteArray) (count : Int) (digits : Int) (signed : Int) (v0_0 : List Int) (v0_1 : Int)  (hi : (0 ≤ count ∧ 0 ≤ digits ∧ digits ≤ 17 ∧ 0 ≤ signed ∧ (tx).size ≤ 100000000) ∧ ((nPc 32 tx : Nat) : Int) = count ∧ 0 ≤ v0_1 ∧ v0_1 ≤ count ∧ (0 : Int) + v0_1 = count + 1 ∧ v0_0 = valsW tx digits.toNat v0_1.toNat ∧ ∀ j, j < v0_1.toNat → goodW tx digits.toNat signed.toNat j = true) : False := by
 omega
theorem spec_ref01_numbers (tx : ByteArray) (count : Int) (digits : Int) (signed : Int) (hp : 0 ≤ count ∧ 0 ≤ digits ∧ digits ≤ 17 ∧ 0 ≤ signed ∧ (tx).size ≤ 100000000) : vc_ref01_numbers (J_ref01_numbers tx count digits signed) tx count digits signed (fun r => LeD r (.tu [.c (.sl 1 ((rW tx (count).toNat (digits).toNat (signed).toNat).length) (intsC (rW tx (count).toNat (digits).toNat (signed).toNat))), .c (.v (.bool (okW tx (count).toNat (digits).toNat (signed).toNat)))])) := by
 unfold vc_ref01_numbers
 refine ⟨⟨by decide, by decide, hp.2.2.2.2⟩, ?_⟩
 rw [show (UInt8.ofNat ((32 : Int)).toNat) = 32 from rfl, cutL_len]
 refine cond_i (fun h => ?_) (fun h => ?_)
 ·have e : okW tx count.toNat digits.toNat signed.toNat = false := by
   unfold okW
   rw [show Nat.beq (nPc 32 tx) count.toNat = false from by
    cases hb : Nat.beq (nPc 32 tx) count.toNat
    ·rfl
    ·have := Nat.eq_of_beq_eq_true hb
     have h : ((nPc 32 tx : Nat) : Int) ≠ count := by simpa using h
     omega]
   simp
  rw [show rW tx count.toNat digits.toNat signed.toNat = [] from if_neg (by rw [e]; simp), e]
  exact le_tu le_nil (LeD.refl _)
 ·have h : ((nPc 32 tx : Nat) : Int) = count := by simpa using h
  exact ⟨nPc 32 tx + 1, [], 0, rfl, hp, h, by omega, by omega, by omega, rfl, fun j hj => absurd hj (Nat.not_lt_zero _)⟩
theorem all_ref01_numbers (tx : ByteArray) (count : Int) (digits : Int) (signed : Int) (hp : 0 ≤ count ∧ 0 ≤ digits ∧ digits ≤ 17 ∧ 0 ≤ signed ∧ (tx).size ≤ 100000000) : AllG (J_ref01_numbers tx count digits signed) (loopsFn Tryz.prog tab Sw484 ann_ref01_numbers (J_ref01_numbers tx count digits signed) Tryz.f54 (fun r => LeD r (.tu [.c (.sl 1 ((rW tx (count).toNat (digits).toNat (signed).toNat).length) (intsC (rW tx (count).toNat (digits).toNat (signed).toNat))), .c (.v (.bool (okW tx (count).toNat (digits).toNat (signed).toNat)))]))) := by
 rw [lp_ref01_numbers]
 refine ⟨⟨?_, ?_⟩, trivial⟩
 ·intro F s h
  obtain _ | ⟨g, F⟩ := F
  case cons => exact h.elim
  obtain ⟨w0, w1, rfl, hi⟩ := h
  exact zero_ref01_numbers_0 tx count digits signed w0 w1 hi
 ·intro n F s h
  obtain _ | ⟨g, F⟩ := F
  case cons => exact h.elim
  obtain ⟨w0, w1, rfl, hi⟩ := h
  rw [er_ref01_numbers_0]
  exact rnd_ref01_numbers_0 tx count digits signed _ _ _ hp hi
def con_ref01_numbers : Con := fun args => match args with
 | [.t (.c (.v (.string tx))), .t (.c (.v (.int .i64 count))), .t (.c (.v (.int .i64 digits))), .t (.c (.v (.int .i64 signed)))] => some (.tu [.c (.sl 1 ((rW tx (count).toNat (digits).toNat (signed).toNat).length) (intsC (rW tx (count).toNat (digits).toNat (signed).toNat))), .c (.v (.bool (okW tx (count).toNat (digits).toNat (signed).toNat)))], some (0 ≤ count ∧ 0 ≤ digits ∧ digits ≤ 17 ∧ 0 ≤ signed ∧ (tx).size ≤ 100000000), true)
 | _ => none
theorem ok_ref01_numbers : Ok Tryz.prog 54 con_ref01_numbers := by
 refine Ok.fnFr (ann := ann_ref01_numbers) mixed tabOK VSw484 VIlib rfl (fn := Tryz.f54) (by kernel_rfl) (by kernel_rfl) fit_ref01_numbers fun args r pre fresh h hp => ?_
 unfold con_ref01_numbers at h
 split at h
 ·rename_i tx count digits signed
  cases h
  refine ⟨rfl, (by intro x hx; simp only [List.mem_cons, List.not_mem_nil, or_false] at hx; rcases hx with rfl | rfl; exact (fun i j _ hj => plain_int _ i j); exact trivial), J_ref01_numbers tx count digits signed, _, LeA.refl _, Nat.le_of_ble_eq_true (by kernel_rfl), ?_, ?_⟩
  ·rw [ev_ref01_numbers]; exact spec_ref01_numbers tx count digits signed hp
  ·exact all_ref01_numbers tx count digits signed hp
 ·cases h
def Sw485 : Sum := addS Sw484 54 con_ref01_numbers
theorem VSw485 : Valid Tryz.prog Sw485 := Valid.add VSw484 ok_ref01_numbers
def mk_ref01_SameNet_0 (cs : List ByteArray) (ls : List Lnk) (ct : List ByteArray) (lu : List Lnk) (v0_0 : Int) : DS := ⟨[none, none, some (.t (.c (.p 2 0))), some (.t (.c (.p 3 0))), none, some (.t (.c (.v (.int .i64 v0_0)))), none, none, none, none, none, none, none, none, none, none, none, none, none, none, none, none, none, none, none, none, none, none, none, none, none, none, none, none, none, none, none, none, none], [none, none, some (.box 27 [.sl 1 cs.length (txsC cs), .sl 4 ls.length (lnksC ls)]), some (.box 27 [.sl 1 ct.length (txsC ct), .sl 4 lu.length (lnksC lu)]), none, none, none, none, none, none, none, none, none, none, none, none, none, none, none, none, none, none, none, none, none, none, none, none, none, none, none, none, none, none, none, none, none, none, none]⟩
def vc_ref01_SameNet (J : Inv) (cs : List ByteArray) (ls : List Lnk) (ct : List ByteArray) (lu : List Lnk) (post : DV → Prop) : Prop := (txP cs.length (txsC cs) ∧ txP ct.length (txsC ct) ∧ ((txOf cs.length (txsC cs))).length ≤ 100000000) ∧ ((cond (!(decide ((txOf cs.length (txsC cs)) = (txOf ct.length (txsC ct))))) ((true = true) ∧ (True)) (True)) ∧ (lt ((bif (!(decide ((txOf cs.length (txsC cs)) = (txOf ct.length (txsC ct))))) then true else (((ls.length : Nat) : Int) != ((lu.length : Nat) : Int)))) fun x1 => cond x1 (post (.t (.c (.v (.bool false))))) (∃ n, J 0 (n :: []) (mk_ref01_SameNet_0 cs ls ct lu 0))))
def ann_ref01_SameNet : Ann := ⟨fun r => lookA r [(6, ([[], [0], [], [0, 1, 2], [0, 1, 2, 3], [], [5], [], [5, 6, 7], [5, 6, 7, 8], [0, 1, 2, 3, 4, 5, 6, 7, 8, 9]], [[], [], [], [], [], [], [], [], [], [], []]))], fun b => lookA b [(0, (none, some ⟨[2, 3, 5], [2, 3], []⟩))], fun _ => [], Ilib, false, fun r => lookA r [(1, (7, [20]))], fun _ => none⟩
theorem ev_ref01_SameNet (J : Inv) (cs : List ByteArray) (ls : List Lnk) (ct : List ByteArray) (lu : List Lnk) (post : DV → Prop) : evFn Tryz.prog tab Sw485 ann_ref01_SameNet J Tryz.f17 [.t (.a [.sl 1 cs.length (txsC cs), .sl 4 ls.length (lnksC ls)]), .t (.a [.sl 1 ct.length (txsC ct), .sl 4 lu.length (lnksC lu)])] post = vc_ref01_SameNet J cs ls ct lu post := by kernel_rfl
theorem fit_ref01_SameNet : okFn ann_ref01_SameNet Tryz.f17 = true := by kernel_rfl
def rd_ref01_SameNet_0 (J : Inv) (cs : List ByteArray) (ls : List Lnk) (ct : List ByteArray) (lu : List Lnk) (v0_0 : Int) (nn0 : Nat) (post : DV → Prop) : Prop := cond (decide (v0_0 < ((ls.length : Nat) : Int))) ((0 ≤ v0_0 ∧ v0_0 < ((ls.length : Nat) : Int)) ∧ ((0 ≤ v0_0 ∧ v0_0 < ((lu.length : Nat) : Int)) ∧ (cond (!(bif (((lnkAt ls v0_0.toNat).frm) == ((lnkAt lu v0_0.toNat).frm)) then (bif (((lnkAt ls v0_0.toNat).«to») == ((lnkAt lu v0_0.toNat).«to»)) then (bif (bif (((lnkAt ls v0_0.toNat).lo) == ((lnkAt lu v0_0.toNat).lo)) then (bif (((lnkAt ls v0_0.toNat).hi) == ((lnkAt lu v0_0.toNat).hi)) then true else false) else false) then true else false) else false) else false)) (post (.t (.c (.v (.bool false))))) (lt (IntKind.i64.wrap (v0_0 + (1 : Int))) fun x1 => J 0 (nn0 :: []) (mk_ref01_SameNet_0 cs ls ct lu x1))))) (post (.t (.c (.v (.bool true)))))
theorem er_ref01_SameNet_0 (J : Inv) (cs : List ByteArray) (ls : List Lnk) (ct : List ByteArray) (lu : List Lnk) (v0_0 : Int) (nn0 : Nat) (post : DV → Prop) : round Tryz.prog tab Sw485 ann_ref01_SameNet J Tryz.f17 post 0 (nn0 :: []) (mk_ref01_SameNet_0 cs ls ct lu v0_0) = rd_ref01_SameNet_0 J cs ls ct lu v0_0 nn0 post := by kernel_rfl
theorem lp_ref01_SameNet (J : Inv) (post : DV → Prop) : AllG J (loopsFn Tryz.prog tab Sw485 ann_ref01_SameNet J Tryz.f17 post) = (((∀ F s, ¬ J 0 (0 :: F) s) ∧ ∀ n F s, J 0 ((n + 1) :: F) s → round Tryz.prog tab Sw485 ann_ref01_SameNet J Tryz.f17 post 0 (n :: F) s) ∧ True) := by kernel_rfl
def J_ref01_SameNet (cs : List ByteArray) (ls : List Lnk) (ct : List ByteArray) (lu : List Lnk) : Inv := fun b F s => match b, F with
 | 0, [nn0] => ∃ (v0_0 : Int), s = mk_ref01_SameNet_0 cs ls ct lu v0_0 ∧ ((cs = ct ∧ ls.length ≤ 100000000) ∧ 0 ≤ v0_0 ∧ v0_0 ≤ ls.length ∧ (nn0 : Int) + v0_0 = ls.length + 1 ∧ ls.length = lu.length ∧ ∀ j : Nat, (j : Int) < v0_0 → lnkAt ls j = lnkAt lu j)
 | _, _ => False
theorem rnd_ref01_SameNet_0 (cs : List ByteArray) (ls : List Lnk) (ct : List ByteArray) (lu : List Lnk) (v0_0 : Int) (nn0 : Nat) (hp : (cs).length ≤ 100000000 ∧ (ls).length ≤ 100000000) (hi : (cs = ct ∧ ls.length ≤ 100000000) ∧ 0 ≤ v0_0 ∧ v0_0 ≤ ls.length ∧ ((nn0 + 1) : Int) + v0_0 = ls.length + 1 ∧ ls.length = lu.length ∧ ∀ j : Nat, (j : Int) < v0_0 → lnkAt ls j = lnkAt lu j) : rd_ref01_SameNet_0 (J_ref01_SameNet cs ls ct lu) cs ls ct lu v0_0 nn0 (fun r => LeD r (.t (.c (.v (.bool (decide (cs = ct ∧ ls = lu))))))) := by
 obtain ⟨q, i1, i2, i3, i4, i5⟩ := hi
 obtain ⟨k, rfl⟩ : ∃ k : Nat, v0_0 = k := ⟨v0_0.toNat, by omega⟩
 have hk : (k : Int).toNat = k := rfl
 unfold rd_ref01_SameNet_0
 rw [hk]
 refine cond_i (fun h => ?_) (fun h => leB ?_)
 ·have hlt : k < ls.length := by have := of_decide_eq_true h; omega
  refine ⟨⟨by omega, by omega⟩, ⟨by omega, by omega⟩, ?_⟩
  rw [lnk_eqB]
  refine cond_i (fun g => leB ?_) (fun g => lt_i fun x1 h1 => ?_)
  ·have g : lnkAt ls k ≠ lnkAt lu k := by simpa using g
   refine (decide_eq_false ?_).symm
   rintro ⟨_, rfl⟩
   exact g rfl
  ·have g : lnkAt ls k = lnkAt lu k := by simpa using g
   rw [wi (by omega)] at h1
   subst h1
   exact ⟨_, rfl, q, by omega, by omega, by omega, i4, fun j hj => by
    by_cases e : j = k
    ·rw [e]; exact g
    ·exact i5 j (by omega)⟩
 ·have h := of_decide_eq_false h
  refine (decide_eq_true ⟨q.1, List.ext_getElem i4 fun j h1 h2 => ?_⟩).symm
  have := i5 j (by omega)
  simpa [lnkAt, List.getD, h1, h2] using this
theorem zero_ref01_SameNet_0 (cs : List ByteArray) (ls : List Lnk) (ct : List ByteArray) (lu : List Lnk) (v0_0 : Int)  (hi : (cs = ct ∧ ls.length ≤ 100000000) ∧ 0 ≤ v0_0 ∧ v0_0 ≤ ls.length ∧ (0 : Int) + v0_0 = ls.length + 1 ∧ ls.length = lu.length ∧ ∀ j : Nat, (j : Int) < v0_0 → lnkAt ls j = lnkAt lu j) : False := by
 omega
theorem spec_ref01_SameNet (cs : List ByteArray) (ls : List Lnk) (ct : List ByteArray) (lu : List Lnk) (hp : (cs).length ≤ 100000000 ∧ (ls).length ≤ 100000000) : vc_ref01_SameNet (J_ref01_SameNet cs ls ct lu) cs ls ct lu (fun r => LeD r (.t (.c (.v (.bool (decide (cs = ct ∧ ls = lu))))))) := by
 unfold vc_ref01_SameNet
 rw [txs_of, txs_of]
 refine ⟨⟨txP_txs _, txP_txs _, hp.1⟩, cond_i (fun _ => ⟨rfl, trivial⟩) (fun _ => trivial), lt_i fun x1 h1 => cond_i (fun h => leB ?_) (fun h => ?_)⟩
 ·subst h1
  refine (decide_eq_false ?_).symm
  rintro ⟨rfl, rfl⟩
  simp at h
 ·subst h1
  by_cases g : cs = ct
  ·subst g
   have h : ls.length = lu.length := by
    have h : (ls.length : Int) = lu.length := by simpa using h
    omega
   exact ⟨ls.length + 1, 0, rfl, ⟨rfl, hp.2⟩, by omega, by omega, by omega, h, fun j hj => by omega⟩
  ·simp [g] at h
theorem all_ref01_SameNet (cs : List ByteArray) (ls : List Lnk) (ct : List ByteArray) (lu : List Lnk) (hp : (cs).length ≤ 100000000 ∧ (ls).length ≤ 100000000) : AllG (J_ref01_SameNet cs ls ct lu) (loopsFn Tryz.prog tab Sw485 ann_ref01_SameNet (J_ref01_SameNet cs ls ct lu) Tryz.f17 (fun r => LeD r (.t (.c (.v (.bool (decide (cs = ct ∧ ls = lu)))))))) := by
 rw [lp_ref01_SameNet]
 refine ⟨⟨?_, ?_⟩, trivial⟩
 ·intro F s h
  obtain _ | ⟨g, F⟩ := F
  case cons => exact h.elim
  obtain ⟨w0, rfl, hi⟩ := h
  exact zero_ref01_SameNet_0 cs ls ct lu w0 hi
 ·intro n F s h
  obtain _ | ⟨g, F⟩ := F
  case cons => exact h.elim
  obtain ⟨w0, rfl, hi⟩ := h
  rw [er_ref01_SameNet_0]
  exact rnd_ref01_SameNet_0 cs ls ct lu _ _ hp hi
def con_ref01_SameNet : Con := fun args => match args with
 | [.t (.a [.sl 1 n_cs c_cs, .sl 4 n_ls c_ls]), .t (.a [.sl 1 n_ct c_ct, .sl 4 n_lu c_lu])] => some (.t (.c (.v (.bool (decide ((txOf n_cs c_cs) = (txOf n_ct c_ct) ∧ (listC n_ls mkLnk c_ls) = (listC n_lu mkLnk c_lu)))))), some (txP n_cs c_cs ∧ numsP 4 n_ls c_ls ∧ txP n_ct c_ct ∧ numsP 4 n_lu c_lu ∧ ((txOf n_cs c_cs)).length ≤ 100000000 ∧ ((listC n_ls mkLnk c_ls)).length ≤ 100000000), false)
 | _ => none
theorem ok_ref01_SameNet : Ok Tryz.prog 17 con_ref01_SameNet := by
 refine Ok.fn (ann := ann_ref01_SameNet) mixed tabOK VSw485 VIlib (fn := Tryz.f17) (by kernel_rfl) (by kernel_rfl) fit_ref01_SameNet fun args r pre fresh h hp => ?_
 unfold con_ref01_SameNet at h
 split at h
 ·rename_i n_cs c_cs n_ls c_ls n_ct c_ct n_lu c_lu
  cases h
  obtain ⟨hp0, hp1, hp2, hp3, hp⟩ := hp
  refine ⟨rfl, J_ref01_SameNet (txOf n_cs c_cs) (listC n_ls mkLnk c_ls) (txOf n_ct c_ct) (listC n_lu mkLnk c_lu), [.t (.a [.sl 1 ((txOf n_cs c_cs).length) (txsC (txOf n_cs c_cs)), .sl 4 ((listC n_ls mkLnk c_ls).length) (lnksC (listC n_ls mkLnk c_ls))]), .t (.a [.sl 1 ((txOf n_ct c_ct).length) (txsC (txOf n_ct c_ct)), .sl 4 ((listC n_lu mkLnk c_lu).length) (lnksC (listC n_lu mkLnk c_lu))])], ?_, Nat.le_of_ble_eq_true (by kernel_rfl), ?_, ?_⟩
  ·exact (LeA_cons (leT_a (LeCs.cons ((leL_str hp0)) (LeCs.cons ((leL_Lnk hp1)) LeCs.nil))) (LeA_cons (leT_a (LeCs.cons ((leL_str hp2)) (LeCs.cons ((leL_Lnk hp3)) LeCs.nil))) LeA_nil))
  ·rw [ev_ref01_SameNet]; exact spec_ref01_SameNet (txOf n_cs c_cs) (listC n_ls mkLnk c_ls) (txOf n_ct c_ct) (listC n_lu mkLnk c_lu) hp
  ·exact all_ref01_SameNet (txOf n_cs c_cs) (listC n_ls mkLnk c_ls) (txOf n_ct c_ct) (listC n_lu mkLnk c_lu) hp
 ·cases h
def Sw486 : Sum := addS Sw485 17 con_ref01_SameNet
theorem VSw486 : Valid Tryz.prog Sw486 := Valid.add VSw485 ok_ref01_SameNet
end Go.Proofs.YtlapeoboekchpaaGreatDoor
set_option linter.unusedVariables false
set_option linter.unusedSimpArgs false
namespace Go.Proofs.YtlapeoboekchpaaGreatDoor
open Go.RowKit Ev
def vc_ref01_FormatPing (p0 p1 p2 p3 : Int) (post : DV → Prop) : Prop := (numsP 1 4 (genC [[.v (.int .i64 p0)], [.v (.int .i64 p1)], [.v (.int .i64 p2)], [.v (.int .i64 p3)]]) ∧ (([p0, p1, p2, p3] : List Int)).length ≤ 100 ∧ (∀ i, i < (([p0, p1, p2, p3] : List Int)).length → -9223372036854775808 ≤ (([p0, p1, p2, p3] : List Int)).getD i 0 ∧ (([p0, p1, p2, p3] : List Int)).getD i 0 ≤ 9223372036854775807)) ∧ (post (.t (.c (.v (.string (wordsB ([p0, p1, p2, p3] : List Int)))))))
def ann_ref01_FormatPing : Ann := ⟨fun _ => none, fun _ => none, fun _ => [], Ilib, false, fun _ => none, fun _ => none⟩
theorem ev_ref01_FormatPing (J : Inv) (p0 p1 p2 p3 : Int) (post : DV → Prop) : evFn Tryz.prog tab Sw486 ann_ref01_FormatPing J Tryz.f15 [.t (.a [.v (.int .i64 p0), .v (.int .i64 p1), .v (.int .i64 p2), .v (.int .i64 p3)])] post = vc_ref01_FormatPing p0 p1 p2 p3 post := by kernel_rfl
theorem fit_ref01_FormatPing : okFn ann_ref01_FormatPing Tryz.f15 = true := by kernel_rfl
theorem lp_ref01_FormatPing (J : Inv) (post : DV → Prop) : AllG J (loopsFn Tryz.prog tab Sw486 ann_ref01_FormatPing J Tryz.f15 post) = (True) := by kernel_rfl
theorem spec_ref01_FormatPing (p0 p1 p2 p3 : Int) (hp : inI p0 ∧ inI p1 ∧ inI p2 ∧ inI p3) : vc_ref01_FormatPing p0 p1 p2 p3 (fun r => LeD r (.t (.c (.v (.string (wordsB [p0, p1, p2, p3])))))) := by
 unfold vc_ref01_FormatPing
 exact ⟨⟨numsP_gen [_, _, _, _], by simp, in4 hp.1 hp.2.1 hp.2.2.1 hp.2.2.2⟩, LeD.refl _⟩
def con_ref01_FormatPing : Con := fun args => match args with
 | [.t (.a [.v (.int .i64 p0), .v (.int .i64 p1), .v (.int .i64 p2), .v (.int .i64 p3)])] => some (.t (.c (.v (.string (wordsB [p0, p1, p2, p3])))), some (inI p0 ∧ inI p1 ∧ inI p2 ∧ inI p3), false)
 | _ => none
theorem ok_ref01_FormatPing : Ok Tryz.prog 15 con_ref01_FormatPing := by
 refine Ok.fn (ann := ann_ref01_FormatPing) mixed tabOK VSw486 VIlib (fn := Tryz.f15) (by kernel_rfl) (by kernel_rfl) fit_ref01_FormatPing fun args r pre fresh h hp => ?_
 unfold con_ref01_FormatPing at h
 split at h
 ·rename_i p0 p1 p2 p3
  cases h
  refine ⟨rfl, fun _ _ _ => False, _, LeA.refl _, Nat.le_of_ble_eq_true (by kernel_rfl), ?_, ?_⟩
  ·rw [ev_ref01_FormatPing]; exact spec_ref01_FormatPing p0 p1 p2 p3 hp
  ·rw [lp_ref01_FormatPing]; trivial
 ·cases h
def Sw587 : Sum := addS Sw486 15 con_ref01_FormatPing
theorem VSw587 : Valid Tryz.prog Sw587 := Valid.add VSw486 ok_ref01_FormatPing
def mk_ref01_FormatNet_0 (cs : List ByteArray) (ls : List Lnk) (v0_0 : ByteArray) (v0_1 : Int) : DS := ⟨[none, some (.t (.c (.p 1 0))), none, some (.t (.c (.v (.string v0_0)))), some (.t (.c (.v (.int .i64 v0_1)))), none, none, none, none, none, none, none, none, none, none, none, none, none, none, none, none, none, none, none, none, none, none, none, none, none, none, none, none, none, none, none, none, none, none, none, none, none, none, none, none, none, none, none, none, none, none, none, none], [none, some (.box 27 [.sl 1 cs.length (txsC cs), .sl 4 ls.length (lnksC ls)]), none, none, none, none, none, none, none, none, none, none, none, none, none, none, none, none, none, none, none, none, none, none, none, none, none, none, none, none, none, none, none, none, none, none, none, none, none, none, none, none, none, none, none, none, none, none, none, none, none, none, none]⟩
def mk_ref01_FormatNet_2 (cs : List ByteArray) (ls : List Lnk) (v2_0 : ByteArray) (v2_1 : Int) : DS := ⟨[none, some (.t (.c (.p 1 0))), none, some (.t (.c (.v (.string v2_0)))), none, some (.t (.c (.v (.int .i64 v2_1)))), none, none, none, none, none, none, none, none, none, none, none, none, none, none, none, none, none, none, none, none, none, none, none, none, none, none, none, none, none, none, none, none, none, none, none, none, none, none, none, none, none, none, none, none, none, none, none], [none, some (.box 27 [.sl 1 cs.length (txsC cs), .sl 4 ls.length (lnksC ls)]), none, none, none, none, none, none, none, none, none, none, none, none, none, none, none, none, none, none, none, none, none, none, none, none, none, none, none, none, none, none, none, none, none, none, none, none, none, none, none, none, none, none, none, none, none, none, none, none, none, none, none]⟩
def vc_ref01_FormatNet (J : Inv) (cs : List ByteArray) (ls : List Lnk) (post : DV → Prop) : Prop := ∃ n, J 0 (n :: []) (mk_ref01_FormatNet_0 cs ls (⟨#[]⟩) 0)
def ann_ref01_FormatNet : Ann := ⟨fun _ => none, fun b => lookA b [(0, (none, some ⟨[1, 3, 4], [1], []⟩)), (2, (none, some ⟨[1, 3, 5], [1], []⟩))], fun _ => [], Ilib, false, fun _ => none, fun _ => none⟩
theorem ev_ref01_FormatNet (J : Inv) (cs : List ByteArray) (ls : List Lnk) (post : DV → Prop) : evFn Tryz.prog tab Sw587 ann_ref01_FormatNet J Tryz.f16 [.t (.a [.sl 1 cs.length (txsC cs), .sl 4 ls.length (lnksC ls)])] post = vc_ref01_FormatNet J cs ls post := by kernel_rfl
theorem fit_ref01_FormatNet : okFn ann_ref01_FormatNet Tryz.f16 = true := by kernel_rfl
def rd_ref01_FormatNet_0 (J : Inv) (cs : List ByteArray) (ls : List Lnk) (v0_0 : ByteArray) (v0_1 : Int) (nn0 : Nat) (post : DV → Prop) : Prop := cond (decide (v0_1 < ((cs.length : Nat) : Int))) (cond (decide (v0_1 > (0 : Int))) (((((v0_0 : ByteArray).size + ((⟨#[44]⟩) : ByteArray).size : Nat) : Int) ≤ 9223372036854775807) ∧ ((0 ≤ v0_1 ∧ v0_1 < ((cs.length : Nat) : Int)) ∧ ((((((v0_0 ++ (⟨#[44]⟩)) : ByteArray).size + ((txAt cs v0_1.toNat) : ByteArray).size : Nat) : Int) ≤ 9223372036854775807) ∧ (lt (IntKind.i64.wrap (v0_1 + (1 : Int))) fun x1 => J 0 (nn0 :: []) (mk_ref01_FormatNet_0 cs ls ((v0_0 ++ (⟨#[44]⟩)) ++ (txAt cs v0_1.toNat)) x1))))) ((0 ≤ v0_1 ∧ v0_1 < ((cs.length : Nat) : Int)) ∧ (((((v0_0 : ByteArray).size + ((txAt cs v0_1.toNat) : ByteArray).size : Nat) : Int) ≤ 9223372036854775807) ∧ (lt (IntKind.i64.wrap (v0_1 + (1 : Int))) fun x2 => J 0 (nn0 :: []) (mk_ref01_FormatNet_0 cs ls (v0_0 ++ (txAt cs v0_1.toNat)) x2))))) (∃ n, J 2 (n :: []) (mk_ref01_FormatNet_2 cs ls v0_0 0))
theorem er_ref01_FormatNet_0 (J : Inv) (cs : List ByteArray) (ls : List Lnk) (v0_0 : ByteArray) (v0_1 : Int) (nn0 : Nat) (post : DV → Prop) : round Tryz.prog tab Sw587 ann_ref01_FormatNet J Tryz.f16 post 0 (nn0 :: []) (mk_ref01_FormatNet_0 cs ls v0_0 v0_1) = rd_ref01_FormatNet_0 J cs ls v0_0 v0_1 nn0 post := by kernel_rfl
def rd_ref01_FormatNet_2 (J : Inv) (cs : List ByteArray) (ls : List Lnk) (v2_0 : ByteArray) (v2_1 : Int) (nn2 : Nat) (post : DV → Prop) : Prop := cond (decide (v2_1 < ((ls.length : Nat) : Int))) ((0 ≤ v2_1 ∧ v2_1 < ((ls.length : Nat) : Int)) ∧ (((((v2_0 : ByteArray).size + ((⟨#[59]⟩) : ByteArray).size : Nat) : Int) ≤ 9223372036854775807) ∧ ((numsP 1 4 (genC [[.v (.int .i64 ((lnkAt ls v2_1.toNat).frm))], [.v (.int .i64 ((lnkAt ls v2_1.toNat).«to»))], [.v (.int .i64 ((lnkAt ls v2_1.toNat).lo))], [.v (.int .i64 ((lnkAt ls v2_1.toNat).hi))]]) ∧ (([((lnkAt ls v2_1.toNat).frm), ((lnkAt ls v2_1.toNat).«to»), ((lnkAt ls v2_1.toNat).lo), ((lnkAt ls v2_1.toNat).hi)] : List Int)).length ≤ 100 ∧ (∀ i, i < (([((lnkAt ls v2_1.toNat).frm), ((lnkAt ls v2_1.toNat).«to»), ((lnkAt ls v2_1.toNat).lo), ((lnkAt ls v2_1.toNat).hi)] : List Int)).length → -9223372036854775808 ≤ (([((lnkAt ls v2_1.toNat).frm), ((lnkAt ls v2_1.toNat).«to»), ((lnkAt ls v2_1.toNat).lo), ((lnkAt ls v2_1.toNat).hi)] : List Int)).getD i 0 ∧ (([((lnkAt ls v2_1.toNat).frm), ((lnkAt ls v2_1.toNat).«to»), ((lnkAt ls v2_1.toNat).lo), ((lnkAt ls v2_1.toNat).hi)] : List Int)).getD i 0 ≤ 9223372036854775807)) ∧ ((((((v2_0 ++ (⟨#[59]⟩)) : ByteArray).size + ((wordsB ([((lnkAt ls v2_1.toNat).frm), ((lnkAt ls v2_1.toNat).«to»), ((lnkAt ls v2_1.toNat).lo), ((lnkAt ls v2_1.toNat).hi)] : List Int)) : ByteArray).size : Nat) : Int) ≤ 9223372036854775807) ∧ (lt (IntKind.i64.wrap (v2_1 + (1 : Int))) fun x1 => J 2 (nn2 :: []) (mk_ref01_FormatNet_2 cs ls ((v2_0 ++ (⟨#[59]⟩)) ++ (wordsB ([((lnkAt ls v2_1.toNat).frm), ((lnkAt ls v2_1.toNat).«to»), ((lnkAt ls v2_1.toNat).lo), ((lnkAt ls v2_1.toNat).hi)] : List Int))) x1)))))) (post (.t (.c (.v (.string v2_0)))))
theorem er_ref01_FormatNet_2 (J : Inv) (cs : List ByteArray) (ls : List Lnk) (v2_0 : ByteArray) (v2_1 : Int) (nn2 : Nat) (post : DV → Prop) : round Tryz.prog tab Sw587 ann_ref01_FormatNet J Tryz.f16 post 1 (nn2 :: []) (mk_ref01_FormatNet_2 cs ls v2_0 v2_1) = rd_ref01_FormatNet_2 J cs ls v2_0 v2_1 nn2 post := by kernel_rfl
theorem lp_ref01_FormatNet (J : Inv) (post : DV → Prop) : AllG J (loopsFn Tryz.prog tab Sw587 ann_ref01_FormatNet J Tryz.f16 post) = (((∀ F s, ¬ J 0 (0 :: F) s) ∧ ∀ n F s, J 0 ((n + 1) :: F) s → round Tryz.prog tab Sw587 ann_ref01_FormatNet J Tryz.f16 post 0 (n :: F) s) ∧ ((∀ F s, ¬ J 2 (0 :: F) s) ∧ ∀ n F s, J 2 ((n + 1) :: F) s → round Tryz.prog tab Sw587 ann_ref01_FormatNet J Tryz.f16 post 1 (n :: F) s) ∧ True) := by kernel_rfl
def J_ref01_FormatNet (cs : List ByteArray) (ls : List Lnk) : Inv := fun b F s => match b, F with
 | 0, [nn0] => ∃ (v0_0 : ByteArray) (v0_1 : Int), s = mk_ref01_FormatNet_0 cs ls v0_0 v0_1 ∧ (((cs).length ≤ 8 ∧ (ls).length ≤ 14 ∧ (∀ k, k < (cs).length → (txAt cs k).size ≤ 20) ∧ ∀ k, k < (ls).length → rgI (lnkAt ls k)) ∧ 0 ≤ v0_1 ∧ v0_1 ≤ cs.length ∧ (nn0 : Int) + v0_1 = cs.length + 1 ∧ v0_0 = joinB (cs.take v0_1.toNat) ⟨#[44]⟩)
 | 2, [nn2] => ∃ (v2_0 : ByteArray) (v2_1 : Int), s = mk_ref01_FormatNet_2 cs ls v2_0 v2_1 ∧ (((cs).length ≤ 8 ∧ (ls).length ≤ 14 ∧ (∀ k, k < (cs).length → (txAt cs k).size ≤ 20) ∧ ∀ k, k < (ls).length → rgI (lnkAt ls k)) ∧ 0 ≤ v2_1 ∧ v2_1 ≤ ls.length ∧ (nn2 : Int) + v2_1 = ls.length + 1 ∧ v2_0 = joinB (joinB cs ⟨#[44]⟩ :: (ls.take v2_1.toNat).map lnkW) ⟨#[59]⟩)
 | _, _ => False
theorem rnd_ref01_FormatNet_0 (cs : List ByteArray) (ls : List Lnk) (v0_0 : ByteArray) (v0_1 : Int) (nn0 : Nat) (hp : (cs).length ≤ 8 ∧ (ls).length ≤ 14 ∧ (∀ k, k < (cs).length → (txAt cs k).size ≤ 20) ∧ ∀ k, k < (ls).length → rgI (lnkAt ls k)) (hi : ((cs).length ≤ 8 ∧ (ls).length ≤ 14 ∧ (∀ k, k < (cs).length → (txAt cs k).size ≤ 20) ∧ ∀ k, k < (ls).length → rgI (lnkAt ls k)) ∧ 0 ≤ v0_1 ∧ v0_1 ≤ cs.length ∧ ((nn0 + 1) : Int) + v0_1 = cs.length + 1 ∧ v0_0 = joinB (cs.take v0_1.toNat) ⟨#[44]⟩) : rd_ref01_FormatNet_0 (J_ref01_FormatNet cs ls) cs ls v0_0 v0_1 nn0 (fun r => LeD r (.t (.c (.v (.string (netT cs ls)))))) := by
 obtain ⟨q, i1, i2, i3, i4⟩ := hi
 obtain ⟨k, rfl⟩ : ∃ k : Nat, v0_1 = k := ⟨v0_1.toNat, by omega⟩
 have hk : (k : Int).toNat = k := rfl
 rw [hk] at i4
 subst i4
 have w1 := names_take (k := k) q.1 q.2.2.1
 unfold rd_ref01_FormatNet_0
 rw [Int.toNat_natCast]
 refine cond_i (fun h => ?_) (fun h => ?_)
 ·have hlt : k < cs.length := by have := of_decide_eq_true h; omega
  have w2 := q.2.2.1 k hlt
  refine cond_i (fun g => ?_) (fun g => ?_)
  ·have g : 0 < k := by have := of_decide_eq_true g; omega
   have w3 : ((joinB (cs.take k) ⟨#[44]⟩ ++ ⟨#[44]⟩ : ByteArray)).size ≤ 201 := by rw [ByteArray.size_append]; show _ + 1 ≤ _; omega
   refine ⟨by show (((joinB (cs.take k) ⟨#[44]⟩).size + 1 : Nat) : Int) ≤ _; omega, ⟨by omega, by omega⟩, by omega, lt_i fun x1 h1 => ?_⟩
   rw [wi (by omega)] at h1
   subst h1
   exact ⟨_, _, rfl, q, by omega, by omega, by omega, names_snoc hlt g⟩
  ·have g : k = 0 := by have := of_decide_eq_false g; omega
   subst g
   refine ⟨⟨by omega, by omega⟩, by omega, lt_i fun x1 h1 => ?_⟩
   rw [wi (by omega)] at h1
   subst h1
   exact ⟨_, _, rfl, q, by omega, by omega, by omega, names_one hlt⟩
 ·have e : k = cs.length := by have := of_decide_eq_false h; omega
  subst e
  exact ⟨ls.length + 1, _, 0, rfl, q, by omega, by omega, by omega, by rw [List.take_length]; exact (joinB_single _ _).symm⟩
theorem zero_ref01_FormatNet_0 (cs : List ByteArray) (ls : List Lnk) (v0_0 : ByteArray) (v0_1 : Int)  (hi : ((cs).length ≤ 8 ∧ (ls).length ≤ 14 ∧ (∀ k, k < (cs).length → (txAt cs k).size ≤ 20) ∧ ∀ k, k < (ls).length → rgI (lnkAt ls k)) ∧ 0 ≤ v0_1 ∧ v0_1 ≤ cs.length ∧ (0 : Int) + v0_1 = cs.length + 1 ∧ v0_0 = joinB (cs.take v0_1.toNat) ⟨#[44]⟩) : False := by
 omega
theorem rnd_ref01_FormatNet_2 (cs : List ByteArray) (ls : List Lnk) (v2_0 : ByteArray) (v2_1 : Int) (nn2 : Nat) (hp : (cs).length ≤ 8 ∧ (ls).length ≤ 14 ∧ (∀ k, k < (cs).length → (txAt cs k).size ≤ 20) ∧ ∀ k, k < (ls).length → rgI (lnkAt ls k)) (hi : ((cs).length ≤ 8 ∧ (ls).length ≤ 14 ∧ (∀ k, k < (cs).length → (txAt cs k).size ≤ 20) ∧ ∀ k, k < (ls).length → rgI (lnkAt ls k)) ∧ 0 ≤ v2_1 ∧ v2_1 ≤ ls.length ∧ ((nn2 + 1) : Int) + v2_1 = ls.length + 1 ∧ v2_0 = joinB (joinB cs ⟨#[44]⟩ :: (ls.take v2_1.toNat).map lnkW) ⟨#[59]⟩) : rd_ref01_FormatNet_2 (J_ref01_FormatNet cs ls) cs ls v2_0 v2_1 nn2 (fun r => LeD r (.t (.c (.v (.string (netT cs ls)))))) := by
 obtain ⟨q, i1, i2, i3, i4⟩ := hi
 obtain ⟨k, rfl⟩ : ∃ k : Nat, v2_1 = k := ⟨v2_1.toNat, by omega⟩
 have hk : (k : Int).toNat = k := rfl
 rw [hk] at i4
 subst i4
 have w1 := links_take (k := k) q.1 q.2.1 q.2.2.1 q.2.2.2
 unfold rd_ref01_FormatNet_2
 rw [Int.toNat_natCast]
 refine cond_i (fun h => ?_) (fun h => ?_)
 ·have hlt : k < ls.length := by have := of_decide_eq_true h; omega
  have b := q.2.2.2 k hlt
  have w2 := lnkW_len b
  have w3 : ((joinB (joinB cs ⟨#[44]⟩ :: (ls.take k).map lnkW) ⟨#[59]⟩ ++ ⟨#[59]⟩ : ByteArray)).size ≤ 6001 := by rw [ByteArray.size_append]; show _ + 1 ≤ _; omega
  refine ⟨⟨by omega, by omega⟩, by show (((joinB (joinB cs ⟨#[44]⟩ :: (ls.take k).map lnkW) ⟨#[59]⟩).size + 1 : Nat) : Int) ≤ _; omega, ⟨numsP_gen [_, _, _, _], by simp, in4 b.1 b.2.1 b.2.2.1 b.2.2.2⟩, by unfold lnkW at w2; omega, lt_i fun x1 h1 => ?_⟩
  rw [wi (by omega)] at h1
  subst h1
  exact ⟨_, _, rfl, q, by omega, by omega, by omega, links_snoc _ hlt⟩
 ·have e : k = ls.length := by have := of_decide_eq_false h; omega
  subst e
  rw [List.take_length]
  exact LeD.refl _
theorem zero_ref01_FormatNet_2 (cs : List ByteArray) (ls : List Lnk) (v2_0 : ByteArray) (v2_1 : Int)  (hi : ((cs).length ≤ 8 ∧ (ls).length ≤ 14 ∧ (∀ k, k < (cs).length → (txAt cs k).size ≤ 20) ∧ ∀ k, k < (ls).length → rgI (lnkAt ls k)) ∧ 0 ≤ v2_1 ∧ v2_1 ≤ ls.length ∧ (0 : Int) + v2_1 = ls.length + 1 ∧ v2_0 = joinB (joinB cs ⟨#[44]⟩ :: (ls.take v2_1.toNat).map lnkW) ⟨#[59]⟩) : False := by
 omega
theorem spec_ref01_FormatNet (cs : List ByteArray) (ls : List Lnk) (hp : (cs).length ≤ 8 ∧ (ls).length ≤ 14 ∧ (∀ k, k < (cs).length → (txAt cs k).size ≤ 20) ∧ ∀ k, k < (ls).length → rgI (lnkAt ls k)) : vc_ref01_FormatNet (J_ref01_FormatNet cs ls) cs ls (fun r => LeD r (.t (.c (.v (.string (netT cs ls)))))) := by
 unfold vc_ref01_FormatNet
 exact ⟨cs.length + 1, _, 0, rfl, hp, by omega, by omega, by omega, rfl⟩
theorem all_ref01_FormatNet (cs : List ByteArray) (ls : List Lnk) (hp : (cs).length ≤ 8 ∧ (ls).length ≤ 14 ∧ (∀ k, k < (cs).length → (txAt cs k).size ≤ 20) ∧ ∀ k, k < (ls).length → rgI (lnkAt ls k)) : AllG (J_ref01_FormatNet cs ls) (loopsFn Tryz.prog tab Sw587 ann_ref01_FormatNet (J_ref01_FormatNet cs ls) Tryz.f16 (fun r => LeD r (.t (.c (.v (.string (netT cs ls))))))) := by
 rw [lp_ref01_FormatNet]
 refine ⟨⟨?_, ?_⟩, ⟨?_, ?_⟩, trivial⟩
 ·intro F s h
  obtain _ | ⟨g, F⟩ := F
  case cons => exact h.elim
  obtain ⟨w0, w1, rfl, hi⟩ := h
  exact zero_ref01_FormatNet_0 cs ls w0 w1 hi
 ·intro n F s h
  obtain _ | ⟨g, F⟩ := F
  case cons => exact h.elim
  obtain ⟨w0, w1, rfl, hi⟩ := h
  rw [er_ref01_FormatNet_0]
  exact rnd_ref01_FormatNet_0 cs ls _ _ _ hp hi
 ·intro F s h
  obtain _ | ⟨g, F⟩ := F
  case cons => exact h.elim
  obtain ⟨w0, w1, rfl, hi⟩ := h
  exact zero_ref01_FormatNet_2 cs ls w0 w1 hi
 ·intro n F s h
  obtain _ | ⟨g, F⟩ := F
  case cons => exact h.elim
  obtain ⟨w0, w1, rfl, hi⟩ := h
  rw [er_ref01_FormatNet_2]
  exact rnd_ref01_FormatNet_2 cs ls _ _ _ hp hi
def con_ref01_FormatNet : Con := fun args => match args with
 | [.t (.a [.sl 1 n_cs c_cs, .sl 4 n_ls c_ls])] => some (.t (.c (.v (.string (netT (txOf n_cs c_cs) (listC n_ls mkLnk c_ls))))), some (txP n_cs c_cs ∧ numsP 4 n_ls c_ls ∧ ((txOf n_cs c_cs)).length ≤ 8 ∧ ((listC n_ls mkLnk c_ls)).length ≤ 14 ∧ (∀ k, k < ((txOf n_cs c_cs)).length → (txAt (txOf n_cs c_cs) k).size ≤ 20) ∧ ∀ k, k < ((listC n_ls mkLnk c_ls)).length → rgI (lnkAt (listC n_ls mkLnk c_ls) k)), false)
 | _ => none
theorem ok_ref01_FormatNet : Ok Tryz.prog 16 con_ref01_FormatNet := by
 refine Ok.fn (ann := ann_ref01_FormatNet) mixed tabOK VSw587 VIlib (fn := Tryz.f16) (by kernel_rfl) (by kernel_rfl) fit_ref01_FormatNet fun args r pre fresh h hp => ?_
 unfold con_ref01_FormatNet at h
 split at h
 ·rename_i n_cs c_cs n_ls c_ls
  cases h
  obtain ⟨hp0, hp1, hp⟩ := hp
  refine ⟨rfl, J_ref01_FormatNet (txOf n_cs c_cs) (listC n_ls mkLnk c_ls), [.t (.a [.sl 1 ((txOf n_cs c_cs).length) (txsC (txOf n_cs c_cs)), .sl 4 ((listC n_ls mkLnk c_ls).length) (lnksC (listC n_ls mkLnk c_ls))])], ?_, Nat.le_of_ble_eq_true (by kernel_rfl), ?_, ?_⟩
  ·exact (LeA_cons (leT_a (LeCs.cons ((leL_str hp0)) (LeCs.cons ((leL_Lnk hp1)) LeCs.nil))) LeA_nil)
  ·rw [ev_ref01_FormatNet]; exact spec_ref01_FormatNet (txOf n_cs c_cs) (listC n_ls mkLnk c_ls) hp
  ·exact all_ref01_FormatNet (txOf n_cs c_cs) (listC n_ls mkLnk c_ls) hp
 ·cases h
def Sw588 : Sum := addS Sw587 16 con_ref01_FormatNet
theorem VSw588 : Valid Tryz.prog Sw588 := Valid.add VSw587 ok_ref01_FormatNet
def vc_ref01_ParsePing (tx : ByteArray) (post : DV → Prop) : Prop := (0 ≤ (4 : Int) ∧ 0 ≤ (13 : Int) ∧ (13 : Int) ≤ 17 ∧ 0 ≤ (4 : Int) ∧ (tx).size ≤ 100000000) ∧ (cond (!(okW tx ((4 : Int)).toNat ((13 : Int)).toNat ((4 : Int)).toNat)) (post (.tu [.a [.v (.int .i64 0), .v (.int .i64 0), .v (.int .i64 0), .v (.int .i64 0)], .c (.v (.int .i64 7))])) ((0 ≤ (0 : Int) ∧ (0 : Int) < (((rW tx ((4 : Int)).toNat ((13 : Int)).toNat ((4 : Int)).toNat).length : Nat) : Int)) ∧ ((0 ≤ (1 : Int) ∧ (1 : Int) < (((rW tx ((4 : Int)).toNat ((13 : Int)).toNat ((4 : Int)).toNat).length : Nat) : Int)) ∧ ((0 ≤ (2 : Int) ∧ (2 : Int) < (((rW tx ((4 : Int)).toNat ((13 : Int)).toNat ((4 : Int)).toNat).length : Nat) : Int)) ∧ ((0 ≤ (3 : Int) ∧ (3 : Int) < (((rW tx ((4 : Int)).toNat ((13 : Int)).toNat ((4 : Int)).toNat).length : Nat) : Int)) ∧ (cond ((pngE (⟨((rW tx ((4 : Int)).toNat ((13 : Int)).toNat ((4 : Int)).toNat).getD 0 0), ((rW tx ((4 : Int)).toNat ((13 : Int)).toNat ((4 : Int)).toNat).getD 1 0), ((rW tx ((4 : Int)).toNat ((13 : Int)).toNat ((4 : Int)).toNat).getD 2 0), ((rW tx ((4 : Int)).toNat ((13 : Int)).toNat ((4 : Int)).toNat).getD 3 0)⟩ : Png)) != (0 : Int)) (post (.tu [.a [.v (.int .i64 0), .v (.int .i64 0), .v (.int .i64 0), .v (.int .i64 0)], .c (.v (.int .i64 (pngE (⟨((rW tx ((4 : Int)).toNat ((13 : Int)).toNat ((4 : Int)).toNat).getD 0 0), ((rW tx ((4 : Int)).toNat ((13 : Int)).toNat ((4 : Int)).toNat).getD 1 0), ((rW tx ((4 : Int)).toNat ((13 : Int)).toNat ((4 : Int)).toNat).getD 2 0), ((rW tx ((4 : Int)).toNat ((13 : Int)).toNat ((4 : Int)).toNat).getD 3 0)⟩ : Png))))])) (post (.tu [.a [.v (.int .i64 ((rW tx ((4 : Int)).toNat ((13 : Int)).toNat ((4 : Int)).toNat).getD 0 0)), .v (.int .i64 ((rW tx ((4 : Int)).toNat ((13 : Int)).toNat ((4 : Int)).toNat).getD 1 0)), .v (.int .i64 ((rW tx ((4 : Int)).toNat ((13 : Int)).toNat ((4 : Int)).toNat).getD 2 0)), .v (.int .i64 ((rW tx ((4 : Int)).toNat ((13 : Int)).toNat ((4 : Int)).toNat).getD 3 0))], .c (.v (.int .i64 0))]))))))))
def ann_ref01_ParsePing : Ann := ⟨fun r => lookA r [(4, ([[], [0], [0, 1], [], [3], [3, 4], [], [6], [6, 7], [], [9], [9, 10], [0, 1, 2, 3, 4, 5, 6, 7, 8, 9, 10, 11], [], [0, 1, 2, 3, 4, 5, 6, 7, 8, 9, 10, 11, 12, 13]], [[6], [6], [6], [6], [6], [6], [6], [6], [6], [6], [6], [6], [6], [], []]))], fun _ => none, fun _ => [], Ilib, false, fun _ => none, fun _ => none⟩
theorem ev_ref01_ParsePing (J : Inv) (tx : ByteArray) (post : DV → Prop) : evFn Tryz.prog tab Sw588 ann_ref01_ParsePing J Tryz.f13 [.t (.c (.v (.string tx)))] post = vc_ref01_ParsePing tx post := by kernel_rfl
theorem fit_ref01_ParsePing : okFn ann_ref01_ParsePing Tryz.f13 = true := by kernel_rfl
theorem lp_ref01_ParsePing (J : Inv) (post : DV → Prop) : AllG J (loopsFn Tryz.prog tab Sw588 ann_ref01_ParsePing J Tryz.f13 post) = (True) := by kernel_rfl
theorem spec_ref01_ParsePing (tx : ByteArray) (hp : (tx).size ≤ 100000000) : vc_ref01_ParsePing tx (fun r => LeD r (.tu [.a [.v (.int .i64 ((ppV tx).sent)), .v (.int .i64 ((ppV tx).arr)), .v (.int .i64 ((ppV tx).ans)), .v (.int .i64 ((ppV tx).back))], .c (.v (.int .i64 (ppE tx)))])) := by
 unfold vc_ref01_ParsePing
 refine ⟨⟨by decide, by decide, by decide, by decide, hp⟩, cond_i (fun g => ?_) (fun g => ?_)⟩
 ·have g : okW tx 4 13 4 = false := by simpa using g
  have e : ppE tx = 7 := if_pos g
  rw [show ppV tx = ⟨0, 0, 0, 0⟩ from if_neg (by rw [e]; decide), e]
  exact LeD.refl _
 ·have g : okW tx 4 13 4 = true := by simpa using g
  rw [show ((13 : Int)).toNat = 13 from rfl, show ((4 : Int)).toNat = 4 from rfl, show rW tx 4 13 4 = valsW tx 13 4 from if_pos g, valsW_len]
  have e : ppE tx = pngE ⟨(valsW tx 13 4).getD 0 0, (valsW tx 13 4).getD 1 0, (valsW tx 13 4).getD 2 0, (valsW tx 13 4).getD 3 0⟩ := if_neg (by rw [g]; simp)
  refine ⟨⟨by omega, by omega⟩, ⟨by omega, by omega⟩, ⟨by omega, by omega⟩, ⟨by omega, by omega⟩, ?_⟩
  rw [← e]
  refine cond_i (fun h => ?_) (fun h => ?_)
  ·have h : ppE tx ≠ 0 := by simpa using h
   rw [show ppV tx = ⟨0, 0, 0, 0⟩ from if_neg h]
   exact LeD.refl _
  ·have h : ppE tx = 0 := by simpa using h
   rw [show ppV tx = ⟨(valsW tx 13 4).getD 0 0, (valsW tx 13 4).getD 1 0, (valsW tx 13 4).getD 2 0, (valsW tx 13 4).getD 3 0⟩ from if_pos h, h]
   exact LeD.refl _
def con_ref01_ParsePing : Con := fun args => match args with
 | [.t (.c (.v (.string tx)))] => some (.tu [.a [.v (.int .i64 ((ppV tx).sent)), .v (.int .i64 ((ppV tx).arr)), .v (.int .i64 ((ppV tx).ans)), .v (.int .i64 ((ppV tx).back))], .c (.v (.int .i64 (ppE tx)))], some ((tx).size ≤ 100000000), false)
 | _ => none
theorem ok_ref01_ParsePing : Ok Tryz.prog 13 con_ref01_ParsePing := by
 refine Ok.fn (ann := ann_ref01_ParsePing) mixed tabOK VSw588 VIlib (fn := Tryz.f13) (by kernel_rfl) (by kernel_rfl) fit_ref01_ParsePing fun args r pre fresh h hp => ?_
 unfold con_ref01_ParsePing at h
 split at h
 ·rename_i tx
  cases h
  refine ⟨rfl, fun _ _ _ => False, _, LeA.refl _, Nat.le_of_ble_eq_true (by kernel_rfl), ?_, ?_⟩
  ·rw [ev_ref01_ParsePing]; exact spec_ref01_ParsePing tx hp
  ·rw [lp_ref01_ParsePing]; trivial
 ·cases h
def Sw589 : Sum := addS Sw588 13 con_ref01_ParsePing
theorem VSw589 : Valid Tryz.prog Sw589 := Valid.add VSw588 ok_ref01_ParsePing
def mk_ref01_ParseNet_0 (tx : ByteArray) (v0_0 : List (List CV)) (v0_1 : List (List CV)) (v0_2 : List (List CV)) (v0_3 : Int) : DS := ⟨[none, none, some (.t (.c (.p 2 0))), none, some (.t (.c (.p 4 0))), some (.t (.c (.sl 1 ((cutL tx (UInt8.ofNat ((59 : Int)).toNat)).length) (txsC (cutL tx (UInt8.ofNat ((59 : Int)).toNat)))))), some (.t (.c (.p 6 0))), some (.t (.c (.v (.int .i64 v0_3)))), none, none, none, none, none, none, none, none, none, none, none, none, none, none, none, none, none, none, none, none, none, none, none, none, none, none, none, none, none, none, none, none, none, none, none, none, none, none, none, none, none, none, none, none, none, none, none, none, none, none, none, none, none, none, none, none, none, none], [some (.gen 53 4 v0_0), some (.gen 53 4 v0_1), some (.box 27 [.v (.slice none 0 0), .os 0]), some (.gen 53 4 v0_2), some (.box 27 [.v (.slice none 0 0), .os 1]), none, some (.box 27 [.sl 1 ((cutL (txAt (cutL tx (UInt8.ofNat ((59 : Int)).toNat)) 0) (UInt8.ofNat ((44 : Int)).toNat)).length) (txsC (cutL (txAt (cutL tx (UInt8.ofNat ((59 : Int)).toNat)) 0) (UInt8.ofNat ((44 : Int)).toNat))), .os 3]), none, none, none, none, none, none, none, none, none, none, none, none, none, none, none, none, none, none, none, none, none, none, none, none, none, none, none, none, none, none, none, none, none, none, none, none, none, none, none, none, none, none, none, none, none, none, none, none, none, none, none, none, none, none, none, none, none, none, none]⟩
def vc_ref01_ParseNet (J : Inv) (tx : ByteArray) (post : DV → Prop) : Prop := cond (decide ((((tx : ByteArray).size : Nat) : Int) > (60000 : Int))) (post (.tu [.a [.v (.slice none 0 0), .v (.slice none 0 0)], .c (.v (.int .i64 8))])) ((0 ≤ (59 : Int) ∧ (59 : Int) < 256 ∧ (tx).size ≤ 100000000) ∧ ((0 ≤ (0 : Int) ∧ (0 : Int) < (((cutL tx (UInt8.ofNat ((59 : Int)).toNat)).length : Nat) : Int)) ∧ ((0 ≤ (44 : Int) ∧ (44 : Int) < 256 ∧ ((txAt (cutL tx (UInt8.ofNat ((59 : Int)).toNat)) 0)).size ≤ 100000000) ∧ (∃ n, J 0 (n :: []) (mk_ref01_ParseNet_0 tx ([]) ([]) ([]) 1)))))
def ann_ref01_ParseNet : Ann := ⟨fun r => lookA r [(12, ([[], [0], [], [2], [2, 3], [], [5], [5, 6], [], [8], [8, 9], [], [11], [11, 12], [8, 9, 10, 11, 12, 13], [2, 3, 4, 5, 6, 7, 8, 9, 10, 11, 12, 13, 14], [2, 3, 4, 5, 6, 7, 8, 9, 10, 11, 12, 13, 14, 15], [0, 1, 2, 3, 4, 5, 6, 7, 8, 9, 10, 11, 12, 13, 14, 15, 16], [0, 1, 2, 3, 4, 5, 6, 7, 8, 9, 10, 11, 12, 13, 14, 15, 16, 17], [0, 1, 2, 3, 4, 5, 6, 7, 8, 9, 10, 11, 12, 13, 14, 15, 16, 17, 18]], [[56], [56], [56], [56], [56], [56], [56], [56], [56], [56], [56], [56], [56], [56], [56], [56], [], [], [], []]))], fun b => lookA b [(0, (none, some ⟨[2, 4, 5, 6, 7], [2, 4, 6], []⟩))], fun b => (lookA b [(0, [(2, 1, 0, .gen 53 4 []), (4, 1, 1, .gen 53 4 []), (6, 1, 3, .gen 53 4 [])])]).getD [], Ilib, false, fun _ => none, fun _ => none⟩
theorem ev_ref01_ParseNet (J : Inv) (tx : ByteArray) (post : DV → Prop) : evFn Tryz.prog tab Sw589 ann_ref01_ParseNet J Tryz.f14 [.t (.c (.v (.string tx)))] post = vc_ref01_ParseNet J tx post := by kernel_rfl
theorem fit_ref01_ParseNet : okFn ann_ref01_ParseNet Tryz.f14 = true := by kernel_rfl
def rd_ref01_ParseNet_0 (J : Inv) (tx : ByteArray) (v0_0 : List (List CV)) (v0_1 : List (List CV)) (v0_2 : List (List CV)) (v0_3 : Int) (nn0 : Nat) (post : DV → Prop) : Prop := cond (decide (v0_3 < (((cutL tx (UInt8.ofNat ((59 : Int)).toNat)).length : Nat) : Int))) ((0 ≤ v0_3 ∧ v0_3 < (((cutL tx (UInt8.ofNat ((59 : Int)).toNat)).length : Nat) : Int)) ∧ ((0 ≤ (4 : Int) ∧ 0 ≤ (10 : Int) ∧ (10 : Int) ≤ 17 ∧ 0 ≤ (2 : Int) ∧ ((txAt (cutL tx (UInt8.ofNat ((59 : Int)).toNat)) v0_3.toNat)).size ≤ 100000000) ∧ (cond (!(okW (txAt (cutL tx (UInt8.ofNat ((59 : Int)).toNat)) v0_3.toNat) ((4 : Int)).toNat ((10 : Int)).toNat ((2 : Int)).toNat)) (post (.tu [.a [.v (.slice none 0 0), .sl 4 v0_1.length (genC v0_1)], .c (.v (.int .i64 7))])) ((0 ≤ (0 : Int) ∧ (0 : Int) < (((rW (txAt (cutL tx (UInt8.ofNat ((59 : Int)).toNat)) v0_3.toNat) ((4 : Int)).toNat ((10 : Int)).toNat ((2 : Int)).toNat).length : Nat) : Int)) ∧ ((0 ≤ (1 : Int) ∧ (1 : Int) < (((rW (txAt (cutL tx (UInt8.ofNat ((59 : Int)).toNat)) v0_3.toNat) ((4 : Int)).toNat ((10 : Int)).toNat ((2 : Int)).toNat).length : Nat) : Int)) ∧ ((0 ≤ (2 : Int) ∧ (2 : Int) < (((rW (txAt (cutL tx (UInt8.ofNat ((59 : Int)).toNat)) v0_3.toNat) ((4 : Int)).toNat ((10 : Int)).toNat ((2 : Int)).toNat).length : Nat) : Int)) ∧ ((0 ≤ (3 : Int) ∧ (3 : Int) < (((rW (txAt (cutL tx (UInt8.ofNat ((59 : Int)).toNat)) v0_3.toNat) ((4 : Int)).toNat ((10 : Int)).toNat ((2 : Int)).toNat).length : Nat) : Int)) ∧ ((roomP 32 (v0_2.length + ([[.v (.int .i64 ((rW (txAt (cutL tx (UInt8.ofNat ((59 : Int)).toNat)) v0_3.toNat) ((4 : Int)).toNat ((10 : Int)).toNat ((2 : Int)).toNat).getD 0 0)), .v (.int .i64 ((rW (txAt (cutL tx (UInt8.ofNat ((59 : Int)).toNat)) v0_3.toNat) ((4 : Int)).toNat ((10 : Int)).toNat ((2 : Int)).toNat).getD 1 0)), .v (.int .i64 ((rW (txAt (cutL tx (UInt8.ofNat ((59 : Int)).toNat)) v0_3.toNat) ((4 : Int)).toNat ((10 : Int)).toNat ((2 : Int)).toNat).getD 2 0)), .v (.int .i64 ((rW (txAt (cutL tx (UInt8.ofNat ((59 : Int)).toNat)) v0_3.toNat) ((4 : Int)).toNat ((10 : Int)).toNat ((2 : Int)).toNat).getD 3 0))]] : List (List CV)).length)) ∧ (lt (IntKind.i64.wrap (v0_3 + (1 : Int))) fun x1 => J 0 (nn0 :: []) (mk_ref01_ParseNet_0 tx v0_0 v0_1 (v0_2 ++ ([[.v (.int .i64 ((rW (txAt (cutL tx (UInt8.ofNat ((59 : Int)).toNat)) v0_3.toNat) ((4 : Int)).toNat ((10 : Int)).toNat ((2 : Int)).toNat).getD 0 0)), .v (.int .i64 ((rW (txAt (cutL tx (UInt8.ofNat ((59 : Int)).toNat)) v0_3.toNat) ((4 : Int)).toNat ((10 : Int)).toNat ((2 : Int)).toNat).getD 1 0)), .v (.int .i64 ((rW (txAt (cutL tx (UInt8.ofNat ((59 : Int)).toNat)) v0_3.toNat) ((4 : Int)).toNat ((10 : Int)).toNat ((2 : Int)).toNat).getD 2 0)), .v (.int .i64 ((rW (txAt (cutL tx (UInt8.ofNat ((59 : Int)).toNat)) v0_3.toNat) ((4 : Int)).toNat ((10 : Int)).toNat ((2 : Int)).toNat).getD 3 0))]] : List (List CV))) x1)))))))))) ((txP ((cutL (txAt (cutL tx (UInt8.ofNat ((59 : Int)).toNat)) 0) (UInt8.ofNat ((44 : Int)).toNat)).length) (txsC (cutL (txAt (cutL tx (UInt8.ofNat ((59 : Int)).toNat)) 0) (UInt8.ofNat ((44 : Int)).toNat))) ∧ numsP 4 v0_2.length (genC v0_2) ∧ (∀ k, k < ((txOf ((cutL (txAt (cutL tx (UInt8.ofNat ((59 : Int)).toNat)) 0) (UInt8.ofNat ((44 : Int)).toNat)).length) (txsC (cutL (txAt (cutL tx (UInt8.ofNat ((59 : Int)).toNat)) 0) (UInt8.ofNat ((44 : Int)).toNat))))).length → (txAt (txOf ((cutL (txAt (cutL tx (UInt8.ofNat ((59 : Int)).toNat)) 0) (UInt8.ofNat ((44 : Int)).toNat)).length) (txsC (cutL (txAt (cutL tx (UInt8.ofNat ((59 : Int)).toNat)) 0) (UInt8.ofNat ((44 : Int)).toNat)))) k).size ≤ 1000000)) ∧ (cond ((ntE (txOf ((cutL (txAt (cutL tx (UInt8.ofNat ((59 : Int)).toNat)) 0) (UInt8.ofNat ((44 : Int)).toNat)).length) (txsC (cutL (txAt (cutL tx (UInt8.ofNat ((59 : Int)).toNat)) 0) (UInt8.ofNat ((44 : Int)).toNat)))) (listC v0_2.length mkLnk (genC v0_2))) != (0 : Int)) (post (.tu [.a [.v (.slice none 0 0), .sl 4 v0_1.length (genC v0_1)], .c (.v (.int .i64 (ntE (txOf ((cutL (txAt (cutL tx (UInt8.ofNat ((59 : Int)).toNat)) 0) (UInt8.ofNat ((44 : Int)).toNat)).length) (txsC (cutL (txAt (cutL tx (UInt8.ofNat ((59 : Int)).toNat)) 0) (UInt8.ofNat ((44 : Int)).toNat)))) (listC v0_2.length mkLnk (genC v0_2)))))])) (post (.tu [.a [.sl 1 ((cutL (txAt (cutL tx (UInt8.ofNat ((59 : Int)).toNat)) 0) (UInt8.ofNat ((44 : Int)).toNat)).length) (txsC (cutL (txAt (cutL tx (UInt8.ofNat ((59 : Int)).toNat)) 0) (UInt8.ofNat ((44 : Int)).toNat))), .sl 4 v0_2.length (genC v0_2)], .c (.v (.int .i64 0))]))))
theorem er_ref01_ParseNet_0 (J : Inv) (tx : ByteArray) (v0_0 : List (List CV)) (v0_1 : List (List CV)) (v0_2 : List (List CV)) (v0_3 : Int) (nn0 : Nat) (post : DV → Prop) : round Tryz.prog tab Sw589 ann_ref01_ParseNet J Tryz.f14 post 0 (nn0 :: []) (mk_ref01_ParseNet_0 tx v0_0 v0_1 v0_2 v0_3) = rd_ref01_ParseNet_0 J tx v0_0 v0_1 v0_2 v0_3 nn0 post := by kernel_rfl
theorem lp_ref01_ParseNet (J : Inv) (post : DV → Prop) : AllG J (loopsFn Tryz.prog tab Sw589 ann_ref01_ParseNet J Tryz.f14 post) = (((∀ F s, ¬ J 0 (0 :: F) s) ∧ ∀ n F s, J 0 ((n + 1) :: F) s → round Tryz.prog tab Sw589 ann_ref01_ParseNet J Tryz.f14 post 0 (n :: F) s) ∧ True) := by kernel_rfl
def J_ref01_ParseNet (tx : ByteArray) : Inv := fun b F s => match b, F with
 | 0, [nn0] => ∃ (v0_0 : List (List CV)) (v0_1 : List (List CV)) (v0_2 : List (List CV)) (v0_3 : Int), s = mk_ref01_ParseNet_0 tx v0_0 v0_1 v0_2 v0_3 ∧ (tx.size ≤ 60000 ∧ v0_1 = [] ∧ 1 ≤ v0_3 ∧ v0_3 ≤ nPc 59 tx ∧ (nn0 : Int) + v0_3 = nPc 59 tx + 1 ∧ v0_2 = (lksK tx (v0_3.toNat - 1)).map lnkCv ∧ ∀ i, i + 1 < v0_3.toNat → okW (partB tx (i + 1)) 4 10 2 = true)
 | _, _ => False
theorem rnd_ref01_ParseNet_0 (tx : ByteArray) (v0_0 : List (List CV)) (v0_1 : List (List CV)) (v0_2 : List (List CV)) (v0_3 : Int) (nn0 : Nat) (hi : tx.size ≤ 60000 ∧ v0_1 = [] ∧ 1 ≤ v0_3 ∧ v0_3 ≤ nPc 59 tx ∧ ((nn0 + 1) : Int) + v0_3 = nPc 59 tx + 1 ∧ v0_2 = (lksK tx (v0_3.toNat - 1)).map lnkCv ∧ ∀ i, i + 1 < v0_3.toNat → okW (partB tx (i + 1)) 4 10 2 = true) : rd_ref01_ParseNet_0 (J_ref01_ParseNet tx) tx v0_0 v0_1 v0_2 v0_3 nn0 (fun r => LeD r (.tu [.a [.sl 1 ((pnC tx).length) (txsC (pnC tx)), .sl 4 ((pnL tx).length) (lnksC (pnL tx))], .c (.v (.int .i64 (pnE tx)))])) := by
 obtain ⟨q, rfl, i1, i2, i3, i4, i5⟩ := hi
 obtain ⟨k, rfl⟩ : ∃ d : Nat, v0_3 = ((d + 1 : Nat) : Int) := ⟨v0_3.toNat - 1, by omega⟩
 simp only [Int.toNat_natCast, Nat.add_sub_cancel] at i4 i5
 subst i4
 have np := nPc_le 59 tx
 have n0 := nPc_pos 59 tx
 unfold rd_ref01_ParseNet_0
 rw [show (UInt8.ofNat ((59 : Int)).toNat) = 59 from rfl, show (UInt8.ofNat ((44 : Int)).toNat) = 44 from rfl]
 simp only [cutL_len (s := tx) (c := 59), cutL_at n0, Int.toNat_natCast]
 refine cond_i (fun h => ?_) (fun h => ?_)
 ·have h : k + 1 < nPc 59 tx := by have := of_decide_eq_true h; omega
  simp only [cutL_at h, show ofL (wAt 59 tx (k + 1)) = partB tx (k + 1) from rfl]
  refine ⟨⟨by omega, by omega⟩, ⟨by decide, by decide, by decide, by decide, by unfold partB; rw [ofL_size]; exact Nat.le_trans wAt_len (by omega)⟩, cond_i (fun g => ?_) (fun g => ?_)⟩
  ·have g : okW (partB tx (k + 1)) 4 10 2 = false := by simpa using g
   have e : pnE tx = 7 := by unfold pnE; rw [if_neg (by omega), if_pos (synB_no h g)]
   rw [show pnC tx = [] from if_neg (by rw [e]; decide), show pnL tx = [] from if_neg (by rw [e]; decide), e]
   exact le_tu (leT_a (LeCs.cons leC_nil (LeCs.cons (leC_lnks []) LeCs.nil))) (LeD.refl _)
  ·have g : okW (partB tx (k + 1)) 4 10 2 = true := by simpa using g
   simp only [show ((10 : Int)).toNat = 10 from rfl, show ((4 : Int)).toNat = 4 from rfl, show ((2 : Int)).toNat = 2 from rfl, show rW (partB tx (k + 1)) 4 10 2 = valsW (partB tx (k + 1)) 10 4 from if_pos g, valsW_len]
   refine ⟨⟨by omega, by omega⟩, ⟨by omega, by omega⟩, ⟨by omega, by omega⟩, ⟨by omega, by omega⟩, ⟨by simp [lksK_len]; omega, by simp [lksK_len, maxLen]; omega⟩, lt_i fun x1 h1 => ?_⟩
   rw [wi (by omega)] at h1
   subst h1
   refine ⟨_, _, _, _, rfl, q, rfl, by omega, by omega, by omega, ?_, fun i hi => ?_⟩
   ·rw [show ((((k + 1 : Nat) : Int) + 1).toNat - 1) = k + 1 from rfl, lksK_succ, List.map_append]; rfl
   ·rcases (by omega : i < k ∨ i = k) with c | rfl
    ·exact i5 i (by omega)
    ·exact g
 ·have h := of_decide_eq_false h
  have ek : k = nPc 59 tx - 1 := by omega
  have sy : synB tx = true := synB_yes fun i hi => i5 i (by omega)
  have e : pnE tx = ntE (nmsB tx) (lksK tx (nPc 59 tx - 1)) := by unfold pnE; rw [if_neg (by omega), if_neg (by rw [sy]; simp)]
  have en : cutL (ofL (wAt 59 tx 0)) 44 = nmsB tx := by unfold cutL nmsB; rw [ofL_data]
  subst ek
  rw [en, txs_of, lnkg_listC]
  refine ⟨⟨txP_txs _, numsP_lnkg _, fun i hi => Nat.le_trans (nmsB_size i hi) (by omega)⟩, cond_i (fun g => ?_) (fun g => ?_)⟩
  ·have g : pnE tx ≠ 0 := by rw [e]; simpa using g
   rw [show pnC tx = [] from if_neg g, show pnL tx = [] from if_neg g, ← e]
   exact le_tu (leT_a (LeCs.cons leC_nil (LeCs.cons (leC_lnks []) LeCs.nil))) (LeD.refl _)
  ·have g : pnE tx = 0 := by rw [e]; simpa using g
   rw [show pnC tx = nmsB tx from if_pos g, show pnL tx = lksK tx (nPc 59 tx - 1) from if_pos g, g]
   exact le_tu (leT_a (LeCs.cons (LeC1.refl _) (LeCs.cons (leC_lnks _) LeCs.nil))) (LeD.refl _)
theorem zero_ref01_ParseNet_0 (tx : ByteArray) (v0_0 : List (List CV)) (v0_1 : List (List CV)) (v0_2 : List (List CV)) (v0_3 : Int)  (hi : tx.size ≤ 60000 ∧ v0_1 = [] ∧ 1 ≤ v0_3 ∧ v0_3 ≤ nPc 59 tx ∧ (0 : Int) + v0_3 = nPc 59 tx + 1 ∧ v0_2 = (lksK tx (v0_3.toNat - 1)).map lnkCv ∧ ∀ i, i + 1 < v0_3.toNat → okW (partB tx (i + 1)) 4 10 2 = true) : False := by
 omega
theorem spec_ref01_ParseNet (tx : ByteArray) : vc_ref01_ParseNet (J_ref01_ParseNet tx) tx (fun r => LeD r (.tu [.a [.sl 1 ((pnC tx).length) (txsC (pnC tx)), .sl 4 ((pnL tx).length) (lnksC (pnL tx))], .c (.v (.int .i64 (pnE tx)))])) := by
 unfold vc_ref01_ParseNet
 rw [show (UInt8.ofNat ((59 : Int)).toNat) = 59 from rfl]
 refine cond_i (fun h => ?_) (fun h => ?_)
 ·have h := of_decide_eq_true h
  have e : pnE tx = 8 := if_pos (by omega)
  rw [show pnC tx = [] from if_neg (by rw [e]; decide), show pnL tx = [] from if_neg (by rw [e]; decide), e]
  exact le_tu (leT_a (LeCs.cons leC_nil (LeCs.cons leC_nil LeCs.nil))) (LeD.refl _)
 ·have h := of_decide_eq_false h
  have np := nPc_pos 59 tx
  rw [cutL_len, cutL_at np]
  exact ⟨⟨by decide, by decide, by omega⟩, ⟨by omega, by omega⟩, ⟨by decide, by decide, by rw [ofL_size]; exact Nat.le_trans wAt_len (by omega)⟩, nPc 59 tx, _, _, _, 1, rfl, by omega, rfl, by omega, by omega, by omega, rfl, fun i hi => by omega⟩
theorem all_ref01_ParseNet (tx : ByteArray) : AllG (J_ref01_ParseNet tx) (loopsFn Tryz.prog tab Sw589 ann_ref01_ParseNet (J_ref01_ParseNet tx) Tryz.f14 (fun r => LeD r (.tu [.a [.sl 1 ((pnC tx).length) (txsC (pnC tx)), .sl 4 ((pnL tx).length) (lnksC (pnL tx))], .c (.v (.int .i64 (pnE tx)))]))) := by
 rw [lp_ref01_ParseNet]
 refine ⟨⟨?_, ?_⟩, trivial⟩
 ·intro F s h
  obtain _ | ⟨g, F⟩ := F
  case cons => exact h.elim
  obtain ⟨w0, w1, w2, w3, rfl, hi⟩ := h
  exact zero_ref01_ParseNet_0 tx w0 w1 w2 w3 hi
 ·intro n F s h
  obtain _ | ⟨g, F⟩ := F
  case cons => exact h.elim
  obtain ⟨w0, w1, w2, w3, rfl, hi⟩ := h
  rw [er_ref01_ParseNet_0]
  exact rnd_ref01_ParseNet_0 tx _ _ _ _ _ hi
def con_ref01_ParseNet : Con := fun args => match args with
 | [.t (.c (.v (.string tx)))] => some (.tu [.a [.sl 1 ((pnC tx).length) (txsC (pnC tx)), .sl 4 ((pnL tx).length) (lnksC (pnL tx))], .c (.v (.int .i64 (pnE tx)))], none, false)
 | _ => none
theorem ok_ref01_ParseNet : Ok Tryz.prog 14 con_ref01_ParseNet := by
 refine Ok.fn (ann := ann_ref01_ParseNet) mixed tabOK VSw589 VIlib (fn := Tryz.f14) (by kernel_rfl) (by kernel_rfl) fit_ref01_ParseNet fun args r pre fresh h hp => ?_
 unfold con_ref01_ParseNet at h
 split at h
 ·rename_i tx
  cases h
  refine ⟨rfl, J_ref01_ParseNet tx, _, LeA.refl _, Nat.le_of_ble_eq_true (by kernel_rfl), ?_, ?_⟩
  ·rw [ev_ref01_ParseNet]; exact spec_ref01_ParseNet tx
  ·exact all_ref01_ParseNet tx
 ·cases h
def Sw590 : Sum := addS Sw589 14 con_ref01_ParseNet
theorem VSw590 : Valid Tryz.prog Sw590 := Valid.add VSw589 ok_ref01_ParseNet
end Go.Proofs.YtlapeoboekchpaaGreatDoor
set_option linter.unusedVariables false
set_option linter.unusedSimpArgs false
namespace Go.Proofs.YtlapeoboekchpaaGreatDoor
open Go.RowKit Ev
def vc_clock_ParsePing (tx : ByteArray) (post : DV → Prop) : Prop := (0 ≤ (4 : Int) ∧ 0 ≤ (13 : Int) ∧ (13 : Int) ≤ 17 ∧ 0 ≤ (4 : Int) ∧ (tx).size ≤ 100000000) ∧ (cond (!(okW tx ((4 : Int)).toNat ((13 : Int)).toNat ((4 : Int)).toNat)) (post (.tu [.a [.v (.int .i64 0), .v (.int .i64 0), .v (.int .i64 0), .v (.int .i64 0)], .c (.v (.int .i64 7))])) ((4 ≤ (outW tx ((13 : Int)).toNat ((4 : Int)).toNat).length) ∧ ((0 ≤ (0 : Int) ∧ (0 : Int) < ((4 : Nat) : Int)) ∧ ((0 ≤ (1 : Int) ∧ (1 : Int) < ((4 : Nat) : Int)) ∧ ((0 ≤ (2 : Int) ∧ (2 : Int) < ((4 : Nat) : Int)) ∧ ((0 ≤ (3 : Int) ∧ (3 : Int) < ((4 : Nat) : Int)) ∧ (cond ((pngE (⟨((outW tx ((13 : Int)).toNat ((4 : Int)).toNat).getD 0 0), ((outW tx ((13 : Int)).toNat ((4 : Int)).toNat).getD 1 0), ((outW tx ((13 : Int)).toNat ((4 : Int)).toNat).getD 2 0), ((outW tx ((13 : Int)).toNat ((4 : Int)).toNat).getD 3 0)⟩ : Png)) != (0 : Int)) (post (.tu [.a [.v (.int .i64 0), .v (.int .i64 0), .v (.int .i64 0), .v (.int .i64 0)], .c (.v (.int .i64 (pngE (⟨((outW tx ((13 : Int)).toNat ((4 : Int)).toNat).getD 0 0), ((outW tx ((13 : Int)).toNat ((4 : Int)).toNat).getD 1 0), ((outW tx ((13 : Int)).toNat ((4 : Int)).toNat).getD 2 0), ((outW tx ((13 : Int)).toNat ((4 : Int)).toNat).getD 3 0)⟩ : Png))))])) (post (.tu [.a [.v (.int .i64 ((outW tx ((13 : Int)).toNat ((4 : Int)).toNat).getD 0 0)), .v (.int .i64 ((outW tx ((13 : Int)).toNat ((4 : Int)).toNat).getD 1 0)), .v (.int .i64 ((outW tx ((13 : Int)).toNat ((4 : Int)).toNat).getD 2 0)), .v (.int .i64 ((outW tx ((13 : Int)).toNat ((4 : Int)).toNat).getD 3 0))], .c (.v (.int .i64 0))])))))))))
def ann_clock_ParsePing : Ann := ⟨fun _ => none, fun _ => none, fun _ => [], Ilib, false, fun _ => none, fun _ => none⟩
theorem ev_clock_ParsePing (J : Inv) (tx : ByteArray) (post : DV → Prop) : evFn Tryz.prog tab Sw590 ann_clock_ParsePing J Tryz.f11 [.t (.c (.v (.string tx)))] post = vc_clock_ParsePing tx post := by kernel_rfl
theorem fit_clock_ParsePing : okFn ann_clock_ParsePing Tryz.f11 = true := by kernel_rfl
theorem lp_clock_ParsePing (J : Inv) (post : DV → Prop) : AllG J (loopsFn Tryz.prog tab Sw590 ann_clock_ParsePing J Tryz.f11 post) = (True) := by kernel_rfl
theorem spec_clock_ParsePing (tx : ByteArray) (hp : (tx).size ≤ 100000000) : vc_clock_ParsePing tx (fun r => LeD r (.tu [.a [.v (.int .i64 ((ppV tx).sent)), .v (.int .i64 ((ppV tx).arr)), .v (.int .i64 ((ppV tx).ans)), .v (.int .i64 ((ppV tx).back))], .c (.v (.int .i64 (ppE tx)))])) := by
 unfold vc_clock_ParsePing
 refine ⟨⟨by decide, by decide, by decide, by decide, hp⟩, cond_i (fun g => ?_) (fun g => ?_)⟩
 ·have g : okW tx 4 13 4 = false := by simpa using g
  have e : ppE tx = 7 := if_pos g
  rw [show ppV tx = ⟨0, 0, 0, 0⟩ from if_neg (by rw [e]; decide), e]
  exact LeD.refl _
 ·have g : okW tx 4 13 4 = true := by simpa using g
  rw [show ((13 : Int)).toNat = 13 from rfl, show ((4 : Int)).toNat = 4 from rfl, (okW_out g).2, valsW_len]
  have e : ppE tx = pngE ⟨(valsW tx 13 4).getD 0 0, (valsW tx 13 4).getD 1 0, (valsW tx 13 4).getD 2 0, (valsW tx 13 4).getD 3 0⟩ := if_neg (by rw [g]; simp)
  refine ⟨by omega, ⟨by omega, by omega⟩, ⟨by omega, by omega⟩, ⟨by omega, by omega⟩, ⟨by omega, by omega⟩, ?_⟩
  rw [← e]
  refine cond_i (fun h => ?_) (fun h => ?_)
  ·have h : ppE tx ≠ 0 := by simpa using h
   rw [show ppV tx = ⟨0, 0, 0, 0⟩ from if_neg h]
   exact LeD.refl _
  ·have h : ppE tx = 0 := by simpa using h
   rw [show ppV tx = ⟨(valsW tx 13 4).getD 0 0, (valsW tx 13 4).getD 1 0, (valsW tx 13 4).getD 2 0, (valsW tx 13 4).getD 3 0⟩ from if_pos h, h]
   exact LeD.refl _
def con_clock_ParsePing : Con := fun args => match args with
 | [.t (.c (.v (.string tx)))] => some (.tu [.a [.v (.int .i64 ((ppV tx).sent)), .v (.int .i64 ((ppV tx).arr)), .v (.int .i64 ((ppV tx).ans)), .v (.int .i64 ((ppV tx).back))], .c (.v (.int .i64 (ppE tx)))], some ((tx).size ≤ 100000000), false)
 | _ => none
theorem ok_clock_ParsePing : Ok Tryz.prog 11 con_clock_ParsePing := by
 refine Ok.fn (ann := ann_clock_ParsePing) mixed tabOK VSw590 VIlib (fn := Tryz.f11) (by kernel_rfl) (by kernel_rfl) fit_clock_ParsePing fun args r pre fresh h hp => ?_
 unfold con_clock_ParsePing at h
 split at h
 ·rename_i tx
  cases h
  refine ⟨rfl, fun _ _ _ => False, _, LeA.refl _, Nat.le_of_ble_eq_true (by kernel_rfl), ?_, ?_⟩
  ·rw [ev_clock_ParsePing]; exact spec_clock_ParsePing tx hp
  ·rw [lp_clock_ParsePing]; trivial
 ·cases h
def Sw691 : Sum := addS Sw590 11 con_clock_ParsePing
theorem VSw691 : Valid Tryz.prog Sw691 := Valid.add VSw590 ok_clock_ParsePing
end Go.Proofs.YtlapeoboekchpaaGreatDoor
set_option linter.unusedVariables false
set_option linter.unusedSimpArgs false
namespace Go.Proofs.YtlapeoboekchpaaGreatDoor
open Go.RowKit Ev
theorem cond_t {b : Bool} {A B : Prop} (hb : b = true) (h : A) : cond b A B := by rw [hb]; exact h
theorem nums2_gen (l : List (Int × Int)) : numsP 2 l.length (genC (l.map fun x => [.v (.int .i64 x.1), .v (.int .i64 x.2)])) := by
 intro i j hi hj
 rcases (by omega : j = 0 ∨ j = 1) with rfl | rfl <;> simp [genC, List.getD, hi, cvInt]
def tabM (n : Nat) (t : List Int) : Nat → Nat → Int := fun i j => t.getD (i * n + j) far
def AgM (n : Nat) (f : Nat → Nat → Int) (t : List Int) : Prop := t.length = n * n ∧ ∀ x y, x < n → y < n → f x y = tabM n t x y
theorem ix_lt {n i j : Nat} (hi : i < n) (hj : j < n) : i * n + j < n * n := by
 have : (i + 1) * n ≤ n * n := Nat.mul_le_mul_right n hi
 rw [Nat.succ_mul] at this; omega
theorem ix_eq {n i j x y : Nat} (hj : j < n) (hy : y < n) (h : i * n + j = x * n + y) : i = x ∧ j = y := by
 have h1 : (i * n + j) / n = i := by rw [Nat.add_comm, Nat.add_mul_div_right _ _ (by omega), Nat.div_eq_of_lt hj, Nat.zero_add]
 have h2 : (x * n + y) / n = x := by rw [Nat.add_comm, Nat.add_mul_div_right _ _ (by omega), Nat.div_eq_of_lt hy, Nat.zero_add]
 have e : i = x := by rw [← h1, ← h2, h]
 subst e
 exact ⟨rfl, by omega⟩
theorem AgM.upd {n : Nat} {f : Nat → Nat → Int} {t : List Int} (h : AgM n f t) {i j : Nat} (hi : i < n) (hj : j < n) (v : Int) : AgM n (updI f i j v) (t.set (i * n + j) v) := by
 refine ⟨by rw [List.length_set]; exact h.1, fun x y hx hy => ?_⟩
 unfold updI
 by_cases e : x = i ∧ y = j
 ·obtain ⟨rfl, rfl⟩ := e
  rw [if_pos ⟨rfl, rfl⟩]
  simp [tabM, List.getD, h.1, ix_lt hi hj]
 ·rw [if_neg e, h.2 x y hx hy]
  have : i * n + j ≠ x * n + y := fun q => e ⟨(ix_eq hj hy q).1.symm, (ix_eq hj hy q).2.symm⟩
  simp [tabM, List.getD, List.getElem?_set, this]
def stepT (n : Nat) (t : List Int) (k i j : Nat) : List Int := if tabM n t i k < far ∧ tabM n t k j < far then t.set (i * n + j) (min (tabM n t i j) (tabM n t i k + tabM n t k j)) else t
theorem AgM.step {n : Nat} {f : Nat → Nat → Int} {t : List Int} (h : AgM n f t) {k i j : Nat} (hk : k < n) (hi : i < n) (hj : j < n) : AgM n (stepK f k i j) (stepT n t k i j) := by
 unfold stepK stepT
 rw [← h.2 i k hi hk, ← h.2 k j hk hj, ← h.2 i j hi hj]
 split
 ·exact h.upd hi hj _
 ·exact h
def jT (n : Nat) (t : List Int) (k i : Nat) : Nat → List Int
 | 0 => t
 | j + 1 => stepT n (jT n t k i j) k i j
def iT (n : Nat) (t : List Int) (k : Nat) : Nat → List Int
 | 0 => t
 | i + 1 => jT n (iT n t k i) k i n
def kT (n : Nat) (t : List Int) : Nat → List Int
 | 0 => t
 | k + 1 => iT n (kT n t k) k n
theorem AgM.j {n : Nat} {f : Nat → Nat → Int} {t : List Int} (h : AgM n f t) {k i : Nat} (hk : k < n) (hi : i < n) : ∀ j, j ≤ n → AgM n (jK f k i j) (jT n t k i j)
 | 0, _ => h
 | j + 1, hj => (AgM.j h hk hi j (by omega)).step hk hi (by omega)
theorem AgM.i {n : Nat} {f : Nat → Nat → Int} {t : List Int} (h : AgM n f t) {k : Nat} (hk : k < n) : ∀ i, i ≤ n → AgM n (iK f n k i) (iT n t k i)
 | 0, _ => h
 | i + 1, hi => (AgM.i h hk i (by omega)).j hk (by omega) n (Nat.le_refl _)
theorem AgM.k {n : Nat} {f : Nat → Nat → Int} {t : List Int} (h : AgM n f t) : ∀ k, k ≤ n → AgM n (kK f n k) (kT n t k)
 | 0, _ => h
 | k + 1, hk => (AgM.k h k (by omega)).i (by omega) n (Nat.le_refl _)
def lnkT (n : Nat) (t : List Int) (x : Lnk) : List Int := (fun t => t.set (x.to.toNat * n + x.frm.toNat) (min (tabM n t x.to.toNat x.frm.toNat) (-x.lo))) (t.set (x.frm.toNat * n + x.to.toNat) (min (tabM n t x.frm.toNat x.to.toNat) x.hi))
theorem AgM.lnk {n : Nat} {f : Nat → Nat → Int} {t : List Int} (h : AgM n f t) {x : Lnk} (hx : x.ok n) : AgM n (lnkG f x) (lnkT n t x) := by
 obtain ⟨h1, h2, _⟩ := hx
 have g := h.upd (i := x.frm.toNat) (j := x.to.toNat) (by omega) (by omega) (min (tabM n t x.frm.toNat x.to.toNat) x.hi)
 have g2 := g.upd (i := x.to.toNat) (j := x.frm.toNat) (by omega) (by omega) (min (tabM n (t.set (x.frm.toNat * n + x.to.toNat) (min (tabM n t x.frm.toNat x.to.toNat) x.hi)) x.to.toNat x.frm.toNat) (-x.lo))
 rw [← g.2 _ _ (by omega) (by omega), ← h.2 _ _ (by omega) (by omega)] at g2
 unfold lnkG lnkF lnkT
 rw [← h.2 _ _ (by omega) (by omega)]
 rw [← h.2 _ _ (by omega) (by omega)] at g
 dsimp only
 rw [← g.2 _ _ (by omega) (by omega)]
 exact g2
def initT (n : Nat) : List Int := (List.range (n * n)).map fun q => if q / n = q % n then 0 else far
theorem AgM.init {n : Nat} : AgM n initM (initT n) := by
 refine ⟨by simp [initT], fun x y hx hy => ?_⟩
 have h1 : (x * n + y) / n = x := by rw [Nat.add_comm, Nat.add_mul_div_right _ _ (by omega), Nat.div_eq_of_lt hy, Nat.zero_add]
 have h2 : (x * n + y) % n = y := by rw [Nat.add_comm, Nat.add_mul_mod_self_right, Nat.mod_eq_of_lt hy]
 simp [tabM, initT, List.getD, ix_lt hx hy, h1, h2, initM]
def bdT (l : List Lnk) (n : Nat) : List Int := kT n (l.foldl (lnkT n) (initT n)) n
theorem AgM.links {n : Nat} : ∀ {l : List Lnk} {f : Nat → Nat → Int} {t : List Int}, (∀ x ∈ l, x.ok n) → AgM n f t → AgM n (l.foldl lnkG f) (l.foldl (lnkT n) t)
 | [], _, _, _, h => h
 | x :: l, f, t, hx, h => AgM.links (f := lnkG f x) (t := lnkT n t x) (fun y hy => hx y (by simp [hy])) (h.lnk (hx x (by simp)))
theorem lnks_ok {n : Nat} {l : List Lnk} (h : ∀ k, k < l.length → (lnkAt l k).ok n) : ∀ x ∈ l, x.ok n := by
 intro x hx
 obtain ⟨i, hi, e⟩ := List.mem_iff_getElem.1 hx
 have := h i hi
 rwa [show lnkAt l i = x by simp [lnkAt, List.getD, hi, e]] at this
theorem bd_tab {n : Nat} {l : List Lnk} (h : ∀ k, k < l.length → (lnkAt l k).ok n) : AgM n (bdF l n) (bdT l n) := by
 unfold bdF bdT lnkM
 rw [List.take_length]
 exact (AgM.links (lnks_ok h) AgM.init).k n (Nat.le_refl _)
theorem ex_nt : ntE exC exL = 0 := by kernel_rfl
theorem ex_bd (i j : Nat) (hi : i < 3) (hj : j < 3) : bdF exL 3 i j = tabM 3 [0, 7, 9, -5, 0, 2, -7, -1, 0] i j := by
 have h := ntE_bd ex_nt
 have e := (bd_tab (n := 3) h.2.2).2 i j hi hj
 rw [e, show bdT exL 3 = [0, 7, 9, -5, 0, 2, -7, -1, 0] from by kernel_rfl]
theorem ex_bdB : bdB exL exC.length = true := by
 rw [bdB_true]
 intro i hi
 have hi : i < 3 := hi
 rw [show exC.length = 3 from rfl, ex_bd i i hi hi]
 rcases (by omega : i = 0 ∨ i = 1 ∨ i = 2) with rfl | rfl | rfl <;> decide
theorem ex_opn (i : Nat) (hi : i < 3) : opnB exL 3 i = false := by
 unfold opnB
 rw [ex_bd 0 i (by omega) hi, ex_bd i 0 hi (by omega)]
 rcases (by omega : i = 0 ∨ i = 1 ∨ i = 2) with rfl | rfl | rfl <;> decide
theorem ex_ofE : ofE exC exL = 0 := by
 unfold ofE
 rw [if_neg (by rw [ex_nt]; simp), if_pos ex_bdB, if_neg]
 intro h
 unfold ofS at h
 obtain ⟨i, hi, e⟩ := List.any_eq_true.1 h
 rw [show exC.length = 3 from rfl, ex_opn i (List.mem_range.1 hi)] at e
 cases e
theorem ex_ofV : ofV exC exL = [⟨0, 0⟩, ⟨5, 7⟩, ⟨7, 9⟩] := by
 unfold ofV ofK
 rw [if_pos ex_ofE, show exC.length = 3 from rfl]
 simp only [show List.range 3 = [0, 1, 2] from rfl, List.map_cons, List.map_nil]
 rw [ex_bd 0 0 (by omega) (by omega), ex_bd 1 0 (by omega) (by omega), ex_bd 0 1 (by omega) (by omega), ex_bd 2 0 (by omega) (by omega), ex_bd 0 2 (by omega) (by omega)]
 rfl
def vc_law01_awake  (post : DV → Prop) : Prop := (numsP 4 exP.length (pngsC exP)) ∧ ((txP exC.length (txsC exC) ∧ numsP 4 exL.length (lnksC exL) ∧ (∀ k, k < ((txOf exC.length (txsC exC))).length → (txAt (txOf exC.length (txsC exC)) k).size ≤ 1000000)) ∧ ((numsP 1 4 (genC [[.v (.int .i64 7)], [.v (.int .i64 2)], [.v (.int .i64 2)], [.v (.int .i64 9)]]) ∧ (([(7 : Int), (2 : Int), (2 : Int), (9 : Int)] : List Int)).length ≤ 1000000) ∧ ((numsP 2 2 (genC [[.v (.int .i64 100), .v (.int .i64 5)], [.v (.int .i64 200), .v (.int .i64 (-3))]])) ∧ ((numsP 1 6 (genC [[.v (.int .i64 0)], [.v (.int .i64 1)], [.v (.int .i64 2)], [.v (.int .i64 3)], [.v (.int .i64 6)], [.v (.int .i64 0)]]) ∧ numsP 1 4 (genC [[.v (.int .i64 1)], [.v (.int .i64 2)], [.v (.int .i64 3)], [.v (.int .i64 6)]]) ∧ (([(0 : Int), (1 : Int), (2 : Int), (3 : Int), (6 : Int), (0 : Int)] : List Int)).length ≤ 1000000 ∧ (([(1 : Int), (2 : Int), (3 : Int), (6 : Int)] : List Int)).length ≤ 1000000) ∧ (cond ((obE (⟨(100 : Int), (2 : Int)⟩ : Cab) (listC exP.length mkPng (pngsC exP)) (50050 : Int)) == (0 : Int)) (cond (bif (((taV (⟨(100 : Int), (2 : Int)⟩ : Cab) (listC exP.length mkPng (pngsC exP)) (50050 : Int)).lo) == (51045 : Int)) then (bif (((taV (⟨(100 : Int), (2 : Int)⟩ : Cab) (listC exP.length mkPng (pngsC exP)) (50050 : Int)).hi) == (51057 : Int)) then true else false) else false) (cond ((ofE (txOf exC.length (txsC exC)) (listC exL.length mkLnk (lnksC exL))) == (0 : Int)) ((numsP 2 ((ofV (txOf exC.length (txsC exC)) (listC exL.length mkLnk (lnksC exL))).length) (rgsC (ofV (txOf exC.length (txsC exC)) (listC exL.length mkLnk (lnksC exL)))) ∧ numsP 2 3 (genC [[.v (.int .i64 0), .v (.int .i64 0)], [.v (.int .i64 5), .v (.int .i64 7)], [.v (.int .i64 7), .v (.int .i64 9)]]) ∧ ((listC ((ofV (txOf exC.length (txsC exC)) (listC exL.length mkLnk (lnksC exL))).length) mkRg (rgsC (ofV (txOf exC.length (txsC exC)) (listC exL.length mkLnk (lnksC exL)))))).length ≤ 1000000) ∧ (cond (decide ((listC ((ofV (txOf exC.length (txsC exC)) (listC exL.length mkLnk (lnksC exL))).length) mkRg (rgsC (ofV (txOf exC.length (txsC exC)) (listC exL.length mkLnk (lnksC exL))))) = (listC 3 mkRg (genC [[.v (.int .i64 0), .v (.int .i64 0)], [.v (.int .i64 5), .v (.int .i64 7)], [.v (.int .i64 7), .v (.int .i64 9)]])))) (cond ((urE ([(7 : Int), (2 : Int), (2 : Int), (9 : Int)] : List Int) (10 : Int)) == (0 : Int)) ((numsP 1 ((urR ([(7 : Int), (2 : Int), (2 : Int), (9 : Int)] : List Int) (10 : Int)).length) (intsC (urR ([(7 : Int), (2 : Int), (2 : Int), (9 : Int)] : List Int) (10 : Int))) ∧ numsP 1 4 (genC [[.v (.int .i64 7)], [.v (.int .i64 12)], [.v (.int .i64 12)], [.v (.int .i64 19)]]) ∧ ((listC ((urR ([(7 : Int), (2 : Int), (2 : Int), (9 : Int)] : List Int) (10 : Int)).length) mkInt (intsC (urR ([(7 : Int), (2 : Int), (2 : Int), (9 : Int)] : List Int) (10 : Int))))).length ≤ 1000000) ∧ (cond (decide ((listC ((urR ([(7 : Int), (2 : Int), (2 : Int), (9 : Int)] : List Int) (10 : Int)).length) mkInt (intsC (urR ([(7 : Int), (2 : Int), (2 : Int), (9 : Int)] : List Int) (10 : Int)))) = ([(7 : Int), (12 : Int), (12 : Int), (19 : Int)] : List Int))) (cond ((tfE (listC 2 mkLpp (genC [[.v (.int .i64 100), .v (.int .i64 5)], [.v (.int .i64 200), .v (.int .i64 (-3))]])) (203 : Int)) == (0 : Int)) ((numsP 1 ((tfV (listC 2 mkLpp (genC [[.v (.int .i64 100), .v (.int .i64 5)], [.v (.int .i64 200), .v (.int .i64 (-3))]])) (203 : Int)).length) (intsC (tfV (listC 2 mkLpp (genC [[.v (.int .i64 100), .v (.int .i64 5)], [.v (.int .i64 200), .v (.int .i64 (-3))]])) (203 : Int))) ∧ numsP 1 2 (genC [[.v (.int .i64 198)], [.v (.int .i64 201)]]) ∧ ((listC ((tfV (listC 2 mkLpp (genC [[.v (.int .i64 100), .v (.int .i64 5)], [.v (.int .i64 200), .v (.int .i64 (-3))]])) (203 : Int)).length) mkInt (intsC (tfV (listC 2 mkLpp (genC [[.v (.int .i64 100), .v (.int .i64 5)], [.v (.int .i64 200), .v (.int .i64 (-3))]])) (203 : Int))))).length ≤ 1000000) ∧ (cond (decide ((listC ((tfV (listC 2 mkLpp (genC [[.v (.int .i64 100), .v (.int .i64 5)], [.v (.int .i64 200), .v (.int .i64 (-3))]])) (203 : Int)).length) mkInt (intsC (tfV (listC 2 mkLpp (genC [[.v (.int .i64 100), .v (.int .i64 5)], [.v (.int .i64 200), .v (.int .i64 (-3))]])) (203 : Int)))) = ([(198 : Int), (201 : Int)] : List Int))) (cond ((avE ([(0 : Int), (1 : Int), (2 : Int), (3 : Int), (6 : Int), (0 : Int)] : List Int) ([(1 : Int), (2 : Int), (3 : Int), (6 : Int)] : List Int)) == (0 : Int)) (post (.t (.c (.v (.bool ((avV ([(0 : Int), (1 : Int), (2 : Int), (3 : Int), (6 : Int), (0 : Int)] : List Int) ([(1 : Int), (2 : Int), (3 : Int), (6 : Int)] : List Int)) == (1 : Int))))))) ((false = false) ∧ (post (.t (.c (.v (.bool false))))))) ((false = false) ∧ ((false = false) ∧ (post (.t (.c (.v (.bool false))))))))) ((false = false) ∧ ((false = false) ∧ ((false = false) ∧ (post (.t (.c (.v (.bool false))))))))) ((false = false) ∧ ((false = false) ∧ ((false = false) ∧ ((false = false) ∧ (post (.t (.c (.v (.bool false))))))))))) ((false = false) ∧ ((false = false) ∧ ((false = false) ∧ ((false = false) ∧ ((false = false) ∧ (post (.t (.c (.v (.bool false))))))))))) ((false = false) ∧ ((false = false) ∧ ((false = false) ∧ ((false = false) ∧ ((false = false) ∧ ((false = false) ∧ (post (.t (.c (.v (.bool false))))))))))))) ((false = false) ∧ ((false = false) ∧ ((false = false) ∧ ((false = false) ∧ ((false = false) ∧ ((false = false) ∧ ((false = false) ∧ (post (.t (.c (.v (.bool false))))))))))))) ((false = false) ∧ ((false = false) ∧ ((false = false) ∧ ((false = false) ∧ ((false = false) ∧ ((false = false) ∧ ((false = false) ∧ ((false = false) ∧ (post (.t (.c (.v (.bool false)))))))))))))) ((false = false) ∧ ((false = false) ∧ ((false = false) ∧ ((false = false) ∧ ((false = false) ∧ ((false = false) ∧ ((false = false) ∧ ((false = false) ∧ ((false = false) ∧ (post (.t (.c (.v (.bool false)))))))))))))))))))
def ann_law01_awake : Ann := ⟨fun _ => none, fun _ => none, fun _ => [], Ilib, false, fun _ => none, fun _ => none⟩
theorem ev_law01_awake (J : Inv)  (post : DV → Prop) : evFn Tryz.prog tab Sw691 ann_law01_awake J Tryz.f6 [] post = vc_law01_awake  post := by kernel_rfl
theorem fit_law01_awake : okFn ann_law01_awake Tryz.f6 = true := by kernel_rfl
theorem lp_law01_awake (J : Inv) (post : DV → Prop) : AllG J (loopsFn Tryz.prog tab Sw691 ann_law01_awake J Tryz.f6 post) = (True) := by kernel_rfl
set_option maxHeartbeats 8000000 in
set_option maxRecDepth 100000 in
theorem spec_law01_awake  : vc_law01_awake  (fun r => LeD r (.t (.c (.v (.bool true))))) := by
 unfold vc_law01_awake
 rw [pngs_listC, txs_of, lnks_listC, rgs_listC, ints_listC, ints_listC]
 have hs : ∀ k, k < exC.length → (txAt exC k).size ≤ 1000000 := by
  intro k hk
  have hk : k < 3 := hk
  rcases (by omega : k = 0 ∨ k = 1 ∨ k = 2) with rfl | rfl | rfl <;> decide
 refine ⟨numsP_pngs _, ⟨txP_txs _, numsP_lnks _, hs⟩, ⟨numsP_gen [_, _, _, _], by decide⟩, nums2_gen [(100, 5), (200, -3)], ⟨numsP_gen [_, _, _, _, _, _], numsP_gen [_, _, _, _], by decide, by decide⟩, ?_⟩
 refine cond_t (by kernel_rfl) (cond_t (by kernel_rfl) (cond_t (by rw [ex_ofE]; rfl) ⟨⟨numsP_rgs _, nums2_gen [(0, 0), (5, 7), (7, 9)], by rw [ex_ofV]; decide⟩, cond_t (by rw [ex_ofV]; kernel_rfl) (cond_t (by kernel_rfl) ⟨⟨numsP_ints _, numsP_gen [_, _, _, _], by decide⟩, cond_t (by kernel_rfl) (cond_t (by kernel_rfl) ⟨⟨numsP_ints _, numsP_gen [_, _], by decide⟩, cond_t (by kernel_rfl) (cond_t (by kernel_rfl) (leB (by kernel_rfl)))⟩)⟩)⟩))
def con_law01_awake : Con := fun args => match args with
 | [] => some (.t (.c (.v (.bool true))), none, false)
 | _ => none
theorem ok_law01_awake : Ok Tryz.prog 6 con_law01_awake := by
 refine Ok.fn (ann := ann_law01_awake) mixed tabOK VSw691 VIlib (fn := Tryz.f6) (by kernel_rfl) (by kernel_rfl) fit_law01_awake fun args r pre fresh h hp => ?_
 unfold con_law01_awake at h
 split at h
 ·cases h
  refine ⟨rfl, fun _ _ _ => False, _, LeA.refl _, Nat.le_of_ble_eq_true (by kernel_rfl), ?_, ?_⟩
  ·rw [ev_law01_awake]; exact spec_law01_awake 
  ·rw [lp_law01_awake]; trivial
 ·cases h
def Sy92 : Sum := addS Sw691 6 con_law01_awake
theorem VSy92 : Valid Tryz.prog Sy92 := Valid.add VSw691 ok_law01_awake
end Go.Proofs.YtlapeoboekchpaaGreatDoor
set_option linter.unusedVariables false
set_option linter.unusedSimpArgs false
namespace Go.Proofs.YtlapeoboekchpaaGreatDoor
open Go.RowKit Ev
theorem hasC_no {c : UInt8} {l : List UInt8} (h : ∀ x ∈ l, x ≠ c) : hasC c l = false := by
 unfold hasC
 rw [Bool.eq_false_iff]
 intro q
 exact h c (List.contains_iff_mem.1 q) rfl
theorem hasC_not {c : UInt8} {l : List UInt8} (h : hasC c l = false) : ∀ x ∈ l, x ≠ c := by
 rintro x hx rfl
 unfold hasC at h
 rw [List.contains_iff_mem.2 hx] at h; cases h
theorem itoa_no {c : UInt8} (h : ¬ (48 ≤ c.toNat ∧ c.toNat ≤ 57)) (h2 : c ≠ 45) (n : Int) : hasC c (Lib.itoa n) = false := by
 refine hasC_no fun x hx => ?_
 rintro rfl
 by_cases g : n < 0
 ·rw [itoa_neg g] at hx
  rcases List.mem_cons.1 hx with q | q
  ·exact h2 q
  ·exact h (dec_dig _ _ q)
 ·rw [itoa_pos (by omega)] at hx
  exact h (dec_dig _ _ hx)
theorem hasC_jn {c d : UInt8} (hd : d ≠ c) : ∀ {ps : List (List UInt8)}, (∀ p ∈ ps, hasC d p = false) → hasC d (jnC c ps) = false
 | [], _ => rfl
 | [p], h => h p (by simp)
 | p :: q :: r, h => by
  have ih := hasC_jn hd (ps := q :: r) (fun x hx => h x (by simp [hx]))
  have hp := h p (by simp)
  refine hasC_no fun x hx => ?_
  have e : jnC c (p :: q :: r) = p ++ c :: jnC c (q :: r) := rfl
  rw [e, List.mem_append, List.mem_cons] at hx
  rcases hx with g | rfl | g
  ·exact hasC_not hp x g
  ·exact fun e => hd e.symm
  ·exact hasC_not ih x g
theorem words_data (l : List Int) : (wordsB l).data.toList = jnC 32 (l.map Lib.itoa) := by
 unfold wordsB
 rw [joinB_one, ofL_data, List.map_map]; rfl
theorem words_pcs {l : List Int} (h : l ≠ []) : pcs 32 (wordsB l).data.toList = l.map Lib.itoa := by
 rw [words_data]
 exact pcs_jn (by simpa using h) fun p hp => by
  obtain ⟨n, _, rfl⟩ := List.mem_map.1 hp
  exact itoa_no (by decide) (by decide) n
theorem words_wAt {l : List Int} (h : l ≠ []) {i : Nat} (hi : i < l.length) : wAt 32 (wordsB l) i = Lib.itoa (l.getD i 0) := by
 unfold wAt
 rw [words_pcs h]
 simp [List.getD, hi]
theorem num_back {v : Int} {dg : Nat} (h0 : 1 ≤ dg) (h : v.natAbs < 10 ^ dg) : numR (Lib.itoa v) dg = some v := by
 have e : dg - 1 + 1 = dg := by omega
 refine numR_itoa ?_
 by_cases g : v < 0
 ·rw [itoa_neg g, if_pos (by rfl)]
  have := dec_len (dg - 1) v.natAbs (by rw [e]; exact h)
  show (Lib.decDigits v.natAbs).length ≤ dg
  omega
 ·rw [itoa_pos (by omega), if_neg (dec_head45 _)]
  have := dec_len (dg - 1) v.toNat (by rw [e]; omega)
  omega
theorem words_back {l : List Int} {dg sg : Nat} (hl : l ≠ []) (h0 : 1 ≤ dg) (h1 : ∀ i, i < l.length → (l.getD i 0).natAbs < 10 ^ dg) (h2 : ∀ i, i < l.length → i < sg → 0 ≤ l.getD i 0) : okW (wordsB l) l.length dg sg = true ∧ valsW (wordsB l) dg l.length = l := by
 have n : nPc 32 (wordsB l) = l.length := by unfold nPc; rw [words_pcs hl, List.length_map]
 have w : ∀ i, i < l.length → numR (wAt 32 (wordsB l) i) dg = some (l.getD i 0) := fun i hi => by rw [words_wAt hl hi]; exact num_back h0 (h1 i hi)
 constructor
 ·unfold okW
  rw [allW_yes fun i hi => by
   rw [n] at hi
   unfold goodW
   rw [w i hi]
   show (!(decide (l.getD i 0 < 0) && decide (i < sg))) = true
   by_cases g : i < sg
   ·rw [decide_eq_false (show ¬ l.getD i 0 < 0 from by have := h2 i hi g; omega)]; rfl
   ·rw [decide_eq_false g, Bool.and_false]; rfl, n]
  simp
 ·refine List.ext_getElem valsW_len fun i h3 h4 => ?_
  have := valsW_at (s := wordsB l) (dg := dg) h4
  unfold valW at this
  rw [w i h4] at this
  simpa [List.getD, h3, h4] using this
theorem four {a b c d : Int} {P : Int → Prop} (h1 : P a) (h2 : P b) (h3 : P c) (h4 : P d) : ∀ i, i < [a, b, c, d].length → P ([a, b, c, d].getD i 0) := by
 intro i hi
 have hi : i < 4 := hi
 rcases (by omega : i = 0 ∨ i = 1 ∨ i = 2 ∨ i = 3) with rfl | rfl | rfl | rfl
 ·exact h1
 ·exact h2
 ·exact h3
 ·exact h4
theorem ping_back {p : Png} (h : pngE p = 0) : ppE (wordsB [p.sent, p.arr, p.ans, p.back]) = 0 ∧ ppV (wordsB [p.sent, p.arr, p.ans, p.back]) = p := by
 obtain ⟨⟨a1, a2, a3⟩, b1, b2, b3⟩ := pngE_0.1 h
 have q := words_back (l := [p.sent, p.arr, p.ans, p.back]) (dg := 13) (sg := 4) (by simp) (by decide) (four (P := fun x => x.natAbs < 10 ^ 13) (by omega) (by omega) (by omega) (by omega)) fun i hi _ => four (P := fun x => 0 ≤ x) (by omega) (by omega) (by omega) (by omega) i hi
 have v : valsW (wordsB [p.sent, p.arr, p.ans, p.back]) 13 4 = [p.sent, p.arr, p.ans, p.back] := q.2
 have e : ppE (wordsB [p.sent, p.arr, p.ans, p.back]) = 0 := by
  unfold ppE
  rw [if_neg (by rw [show okW (wordsB [p.sent, p.arr, p.ans, p.back]) 4 13 4 = true from q.1]; simp), v]
  exact h
 refine ⟨e, ?_⟩
 unfold ppV
 rw [if_pos e, v]; rfl
theorem name_no {s : ByteArray} (h : nameB s = true) {c : UInt8} (hc : c = 44 ∨ c = 59) : hasC c s.data.toList = false := by
 unfold nameB at h
 rw [Bool.and_eq_true, List.all_eq_true] at h
 refine hasC_no fun x hx => ?_
 obtain ⟨i, hi, rfl⟩ := List.mem_iff_getElem.1 hx
 have hi' : i < s.size := by rw [← size_data]; exact hi
 have g := h.1 i (List.mem_range.2 hi')
 have hs : i < s.data.size := hi'
 have e : byI s i = (s.data.toList[i].toNat : Int) := by
  unfold byI
  rw [dif_pos hs]; simp
 rw [chB_R (byI_rg s i), e] at g
 intro q
 rw [q] at g
 unfold chR inB at g
 rcases hc with rfl | rfl <;> simp at g
theorem net_back {cs : List ByteArray} {ls : List Lnk} (h : ntE cs ls = 0) (hs : (netT cs ls).size ≤ 60000) : pnE (netT cs ls) = 0 ∧ pnC (netT cs ls) = cs ∧ pnL (netT cs ls) = ls := by
 obtain ⟨h1, h2, h3⟩ := ntE_ok h
 have hb := ntE_bd h
 have hn : ∀ t ∈ cs, nameB t = true := fun t ht => by
  obtain ⟨i, hi, rfl⟩ := List.mem_iff_getElem.1 ht
  have := h2 i hi
  unfold nmE at this
  have := (fn2 (show firstNZ [_, _] = 0 from this)).1
  rw [unl_0 (by decide)] at this
  rwa [show txAt cs i = cs[i] by simp [txAt, List.getD, hi]] at this
 have hc : cs ≠ [] := by rintro rfl; have := hb.1.1; simp at this
 have hd : (netT cs ls).data.toList = jnC 59 ((joinB cs ⟨#[44]⟩).data.toList :: ls.map fun l => (lnkW l).data.toList) := by
  unfold netT
  rw [joinB_one, ofL_data, List.map_cons, List.map_map]; rfl
 have hj : (joinB cs ⟨#[44]⟩).data.toList = jnC 44 (cs.map (·.data.toList)) := by rw [joinB_one, ofL_data]
 have hp : pcs 59 (netT cs ls).data.toList = (joinB cs ⟨#[44]⟩).data.toList :: ls.map fun l => (lnkW l).data.toList := by
  rw [hd]
  refine pcs_jn (by simp) fun p hp => ?_
  rcases List.mem_cons.1 hp with rfl | hp
  ·rw [hj]
   refine hasC_jn (by decide) fun q hq => ?_
   obtain ⟨t, ht, rfl⟩ := List.mem_map.1 hq
   exact name_no (hn t ht) (.inr rfl)
  ·obtain ⟨l, _, rfl⟩ := List.mem_map.1 hp
   unfold lnkW
   rw [words_data]
   refine hasC_jn (by decide) fun q hq => ?_
   obtain ⟨n, _, rfl⟩ := List.mem_map.1 hq
   exact itoa_no (by decide) (by decide) n
 have np : nPc 59 (netT cs ls) = ls.length + 1 := by unfold nPc; rw [hp]; simp
 have hm : nmsB (netT cs ls) = cs := by
  unfold nmsB
  rw [show wAt 59 (netT cs ls) 0 = (joinB cs ⟨#[44]⟩).data.toList by unfold wAt; rw [hp]; rfl, hj, pcs_jn (by simpa using hc) (fun p hp => by
   obtain ⟨t, ht, rfl⟩ := List.mem_map.1 hp
   exact name_no (hn t ht) (.inl rfl)), List.map_map]
  conv => rhs; rw [← List.map_id cs]
  exact List.map_congr_left fun t _ => ofL_back t
 have hq : ∀ i, i < ls.length → partB (netT cs ls) (i + 1) = lnkW (lnkAt ls i) := fun i hi => by
  unfold partB wAt
  rw [hp]
  simp only [List.getD_cons_succ]
  rw [show (ls.map fun l => (lnkW l).data.toList).getD i [] = (lnkW (lnkAt ls i)).data.toList by simp [lnkAt, List.getD, hi]]
  exact ofL_back _
 have hw : ∀ i, i < ls.length → okW (partB (netT cs ls) (i + 1)) 4 10 2 = true ∧ lkOf (partB (netT cs ls) (i + 1)) = lnkAt ls i := fun i hi => by
  rw [hq i hi]
  obtain ⟨⟨a1, a2⟩, ⟨b1, b2⟩, _, c1, c2, c3⟩ := lkE_ok (h3 i hi)
  have hbn := hb.1.2
  have q := words_back (l := [(lnkAt ls i).frm, (lnkAt ls i).«to», (lnkAt ls i).lo, (lnkAt ls i).hi]) (dg := 10) (sg := 2) (by simp) (by decide) (four (P := fun x => x.natAbs < 10 ^ 10) (by omega) (by omega) (by omega) (by omega)) fun j hj hj2 => by
   rcases (by omega : j = 0 ∨ j = 1) with rfl | rfl
   ·exact a1
   ·exact b1
  have v : valsW (lnkW (lnkAt ls i)) 10 4 = [(lnkAt ls i).frm, (lnkAt ls i).«to», (lnkAt ls i).lo, (lnkAt ls i).hi] := q.2
  refine ⟨q.1, ?_⟩
  unfold lkOf
  rw [v]; rfl
 have hk : lksK (netT cs ls) ls.length = ls := by
  refine List.ext_getElem lksK_len fun i h4 h5 => ?_
  have e : (lksK (netT cs ls) ls.length)[i] = lkOf (partB (netT cs ls) (i + 1)) := by simp [lksK]
  rw [e, (hw i h5).2]
  simp [lnkAt, List.getD, h5]
 have sy : synB (netT cs ls) = true := synB_yes fun i hi => (hw i (by omega)).1
 have e : pnE (netT cs ls) = 0 := by
  unfold pnE
  rw [if_neg (by omega), if_neg (by rw [sy]; simp), hm, np, Nat.add_sub_cancel, hk]
  exact h
 refine ⟨e, ?_, ?_⟩
 ·unfold pnC; rw [if_pos e, hm]
 ·unfold pnL; rw [if_pos e, np, Nat.add_sub_cancel, hk]
theorem pnC_len (s : ByteArray) (h : s.size ≤ 100000) : (pnC s).length ≤ 100000000 := by
 unfold pnC nmsB
 split
 ·rw [List.length_map, pcs_len]
  have := List.count_le_length (a := 44) (l := wAt 59 s 0)
  have := wAt_len (c := 59) (s := s) (i := 0)
  omega
 ·simp
theorem pnL_len (s : ByteArray) (h : s.size ≤ 100000) : (pnL s).length ≤ 100000000 := by
 unfold pnL
 split
 ·rw [lksK_len]
  have := nPc_le 59 s
  omega
 ·simp
theorem fwL_of {cs : List ByteArray} {ls : List Lnk} (h : fwL cs ls = true) : cs.length ≤ 8 ∧ ls.length ≤ 14 ∧ ∀ k, k < cs.length → (txAt cs k).size ≤ 20 := by
 unfold fwL at h
 rw [Bool.and_eq_true, Bool.and_eq_true, decide_eq_true_eq, decide_eq_true_eq, List.all_eq_true] at h
 refine ⟨by omega, by omega, fun k hk => ?_⟩
 have := h.2.2 (txAt cs k) (by simp [txAt, List.getD, hk])
 simpa using this
end Go.Proofs.YtlapeoboekchpaaGreatDoor