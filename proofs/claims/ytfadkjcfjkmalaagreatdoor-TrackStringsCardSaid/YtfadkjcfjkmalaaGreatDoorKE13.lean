/- Texts of this claim, together. -/
import Derived.Test.YtfadkjcfjkmalaaGreatDoorKE12
import Derived.Test.YtfadkjcfjkmalaaGreatDoorKE6
import Derived.Test.YtfadkjcfjkmalaaGreatDoorKE7
import Derived.Test.YtfadkjcfjkmalaaGreatDoorKE11

set_option linter.unusedVariables false
set_option linter.unusedSimpArgs false
namespace Go.Proofs.YtfadkjcfjkmalaaGreatDoor
open Go.RowKit Ev
def nmL (s : ByteArray) (n : Nat) : List Int := if okTo s n n = true then valsW s 5 n else []
theorem plain_int (l : List Int) (i j : Nat) : ∃ y, intsC l i j = .v y := ⟨_, rfl⟩
theorem nm_ok {s : ByteArray} {n : Nat} (h : okTo s n n = true) : nmL s n = valsW s 5 n := if_pos h
theorem nm_at {s : ByteArray} {n i : Nat} (h : okTo s n n = true) (hi : i < n) : (nmL s n).getD i 0 = valW s 5 i := by rw [nm_ok h, valsW_at hi]
theorem leC_num (l : List Int) : LeC1 (.sl 1 l.length (numsC .i64 l)) (.sl 1 l.length (intsC l)) := leSlC fun i j hi hj => LeC1.refl _
def preT (l : List THit) (k : Nat) : ByteArray := if k = 0 then ⟨#[]⟩ else hitsT (l.take k) ++ ⟨#[59]⟩
theorem sz_one (c : UInt8) : (⟨#[c]⟩ : ByteArray).size = 1 := rfl
theorem hits_take {l : List THit} {k : Nat} (h1 : l.length ≤ 14) (h2 : ∀ k, k < l.length → rgH (hitAt l k)) : (hitsT (l.take k)).size ≤ 1484 := by
 refine hitsT_len (by simp; omega) fun i hi => ?_
 rw [List.length_take] at hi
 rw [show hitAt (l.take k) i = hitAt l i by simp [hitAt, List.getD, List.getElem?_take, show i < k by omega]]
 exact h2 i (by omega)
theorem preT_word {l : List THit} {k : Nat} (h : k < l.length) : preT l k ++ hitW (hitAt l k) = hitsT (l.take (k + 1)) := by
 unfold preT
 by_cases c : k = 0
 ·subst c
  rw [if_pos rfl, empty_app]
  unfold hitsT
  rw [show l.take (0 + 1) = [hitAt l 0] by rw [hitAt_take h]; rfl]
  exact (joinB_single _ _).symm
 ·rw [if_neg c]
  unfold hitsT
  rw [hitAt_take h, List.map_append]
  refine (joinB_snoc 59 _ ?_).symm
  intro e
  have := congrArg List.length e
  rw [List.length_map, List.length_take, List.length_nil] at this
  omega
def con_base_Decimal : Con := fun args => match args with
 | [.t (.c (.v (.int .i64 n)))] => some (.t (.c (.v (.string (itoaB n)))), some (-9223372036854775808 ≤ n ∧ n ≤ 9223372036854775807), false)
 | _ => none
theorem ok_base_Decimal : Ok Tryz.prog 89 con_base_Decimal := by
 refine Ok.oldG (Enters.of (fn := Tryz.f89) (by kernel_rfl) (by kernel_rfl) (by kernel_rfl)) fun args r pre fresh h hp => ?_
 unfold con_base_Decimal at h
 split at h
 ·rename_i n
  cases h
  refine ⟨rfl, _, rfl, fun W N vs hv => ?_⟩
  have hp := hp
  obtain ⟨u0, ws0, k0, g0, hv0⟩ := hv.cons_inv
  subst k0
  have e0 := plain_arg rfl g0
  subst e0
  have ev := hv0.nil_inv
  subst ev
  exact walk_Decimal W n hp
 ·cases h
def Skc66 : Sum := addS Skb65 89 con_base_Decimal
theorem VSkc66 : Valid Tryz.prog Skc66 := Valid.add VSkb65 ok_base_Decimal
def vc_base_Within (a : Int) (b : Int) (c : Int) (post : DV → Prop) : Prop := cond (decide (b ≤ a)) (post (.t (.c (.v (.bool (decide (a ≤ c))))))) ((false = false) ∧ (post (.t (.c (.v (.bool false))))))
def ann_base_Within : Ann := ⟨fun _ => none, fun _ => none, fun _ => [], Ilib, false, fun _ => none, fun _ => none⟩
theorem ev_base_Within (J : Inv) (a : Int) (b : Int) (c : Int) (post : DV → Prop) : evFn Tryz.prog tab Skc66 ann_base_Within J Tryz.f49 [.t (.c (.v (.int .i64 a))), .t (.c (.v (.int .i64 b))), .t (.c (.v (.int .i64 c)))] post = vc_base_Within a b c post := by kernel_rfl
theorem fit_base_Within : okFn ann_base_Within Tryz.f49 = true := by kernel_rfl
theorem lp_base_Within (J : Inv) (post : DV → Prop) : AllG J (loopsFn Tryz.prog tab Skc66 ann_base_Within J Tryz.f49 post) = (True) := by kernel_rfl
theorem spec_base_Within (a : Int) (b : Int) (c : Int) : vc_base_Within a b c (fun r => LeD r (.t (.c (.v (.bool (inB a b c)))))) := by
 unfold vc_base_Within
 refine cond_i (fun h => leB ?_) (fun h => ⟨rfl, leB ?_⟩)
 ·unfold inB; rw [h]; rfl
 ·unfold inB; rw [h]; rfl
def con_base_Within : Con := fun args => match args with
 | [.t (.c (.v (.int .i64 a))), .t (.c (.v (.int .i64 b))), .t (.c (.v (.int .i64 c)))] => some (.t (.c (.v (.bool (inB a b c)))), none, false)
 | _ => none
theorem ok_base_Within : Ok Tryz.prog 49 con_base_Within := by
 refine Ok.fn (ann := ann_base_Within) mixed tabOK VSkc66 VIlib (fn := Tryz.f49) (by kernel_rfl) (by kernel_rfl) fit_base_Within fun args r pre fresh h hp => ?_
 unfold con_base_Within at h
 split at h
 ·rename_i a b c
  cases h
  refine ⟨rfl, fun _ _ _ => False, _, LeA.refl _, Nat.le_of_ble_eq_true (by kernel_rfl), ?_, ?_⟩
  ·rw [ev_base_Within]; exact spec_base_Within a b c
  ·rw [lp_base_Within]; trivial
 ·cases h
def Skc67 : Sum := addS Skc66 49 con_base_Within
theorem VSkc67 : Valid Tryz.prog Skc67 := Valid.add VSkc66 ok_base_Within
def vc_law05_few (l : List THit) (post : DV → Prop) : Prop := post (.t (.c (.v (.bool (decide (((l.length : Nat) : Int) ≤ (14 : Int)))))))
def ann_law05_few : Ann := ⟨fun _ => none, fun _ => none, fun _ => [], Ilib, false, fun _ => none, fun _ => none⟩
theorem ev_law05_few (J : Inv) (l : List THit) (post : DV → Prop) : evFn Tryz.prog tab Skc67 ann_law05_few J Tryz.f6 [.t (.c (.sl 5 l.length (hitsC l)))] post = vc_law05_few l post := by kernel_rfl
theorem fit_law05_few : okFn ann_law05_few Tryz.f6 = true := by kernel_rfl
theorem lp_law05_few (J : Inv) (post : DV → Prop) : AllG J (loopsFn Tryz.prog tab Skc67 ann_law05_few J Tryz.f6 post) = (True) := by kernel_rfl
theorem spec_law05_few (l : List THit) : vc_law05_few l (fun r => LeD r (.t (.c (.v (.bool (decide ((l).length ≤ 14))))))) := by
 unfold vc_law05_few
 exact leB (decide_eq_decide.2 (by omega))
def con_law05_few : Con := fun args => match args with
 | [.t (.c (.sl 5 n_l c_l))] => some (.t (.c (.v (.bool (decide (((listC n_l mkHit c_l)).length ≤ 14))))), some (numsP 5 n_l c_l), false)
 | _ => none
theorem ok_law05_few : Ok Tryz.prog 6 con_law05_few := by
 refine Ok.fn (ann := ann_law05_few) mixed tabOK VSkc67 VIlib (fn := Tryz.f6) (by kernel_rfl) (by kernel_rfl) fit_law05_few fun args r pre fresh h hp => ?_
 unfold con_law05_few at h
 split at h
 ·rename_i n_l c_l
  cases h
  have hp0 := hp
  refine ⟨rfl, fun _ _ _ => False, [.t (.c (.sl 5 ((listC n_l mkHit c_l).length) (hitsC (listC n_l mkHit c_l))))], ?_, Nat.le_of_ble_eq_true (by kernel_rfl), ?_, ?_⟩
  ·exact (LeA_cons (leT_c ((leL_THit hp0))) LeA_nil)
  ·rw [ev_law05_few]; exact spec_law05_few (listC n_l mkHit c_l)
  ·rw [lp_law05_few]; trivial
 ·cases h
def Skc68 : Sum := addS Skc67 6 con_law05_few
theorem VSkc68 : Valid Tryz.prog Skc68 := Valid.add VSkc67 ok_law05_few
def vc_ref05_isSide (n : Int) (post : DV → Prop) : Prop := post (.t (.c (.v (.bool (inB n (-20 : Int) (20 : Int))))))
def ann_ref05_isSide : Ann := ⟨fun _ => none, fun _ => none, fun _ => [], Ilib, false, fun _ => none, fun _ => none⟩
theorem ev_ref05_isSide (J : Inv) (n : Int) (post : DV → Prop) : evFn Tryz.prog tab Skc68 ann_ref05_isSide J Tryz.f46 [.t (.c (.v (.int .i64 n)))] post = vc_ref05_isSide n post := by kernel_rfl
theorem fit_ref05_isSide : okFn ann_ref05_isSide Tryz.f46 = true := by kernel_rfl
theorem lp_ref05_isSide (J : Inv) (post : DV → Prop) : AllG J (loopsFn Tryz.prog tab Skc68 ann_ref05_isSide J Tryz.f46 post) = (True) := by kernel_rfl
theorem spec_ref05_isSide (n : Int) : vc_ref05_isSide n (fun r => LeD r (.t (.c (.v (.bool (inB n (-20) 20)))))) := by
 exact LeD.refl _
def con_ref05_isSide : Con := fun args => match args with
 | [.t (.c (.v (.int .i64 n)))] => some (.t (.c (.v (.bool (inB n (-20) 20)))), none, false)
 | _ => none
theorem ok_ref05_isSide : Ok Tryz.prog 46 con_ref05_isSide := by
 refine Ok.fn (ann := ann_ref05_isSide) mixed tabOK VSkc68 VIlib (fn := Tryz.f46) (by kernel_rfl) (by kernel_rfl) fit_ref05_isSide fun args r pre fresh h hp => ?_
 unfold con_ref05_isSide at h
 split at h
 ·rename_i n
  cases h
  refine ⟨rfl, fun _ _ _ => False, _, LeA.refl _, Nat.le_of_ble_eq_true (by kernel_rfl), ?_, ?_⟩
  ·rw [ev_ref05_isSide]; exact spec_ref05_isSide n
  ·rw [lp_ref05_isSide]; trivial
 ·cases h
def Skc69 : Sum := addS Skc68 46 con_ref05_isSide
theorem VSkc69 : Valid Tryz.prog Skc69 := Valid.add VSkc68 ok_ref05_isSide
def vc_ref05_Count (b0 b1 b2 b3 b4 b5 : Int) (post : DV → Prop) : Prop := (0 ≤ (0 : Int) ∧ (0 : Int) < ((3 : Nat) : Int)) ∧ ((0 ≤ (0 : Int) ∧ (0 : Int) < ((3 : Nat) : Int)) ∧ (lt (IntKind.i64.wrap (b3 - b0)) fun x1 => lt (IntKind.i64.wrap (x1 + (1 : Int))) fun x2 => (0 ≤ (1 : Int) ∧ (1 : Int) < ((3 : Nat) : Int)) ∧ ((0 ≤ (1 : Int) ∧ (1 : Int) < ((3 : Nat) : Int)) ∧ (lt (IntKind.i64.wrap (b4 - b1)) fun x3 => lt (IntKind.i64.wrap (x3 + (1 : Int))) fun x4 => lt (IntKind.i64.wrap (x2 * x4)) fun x5 => (0 ≤ (2 : Int) ∧ (2 : Int) < ((3 : Nat) : Int)) ∧ ((0 ≤ (2 : Int) ∧ (2 : Int) < ((3 : Nat) : Int)) ∧ (lt (IntKind.i64.wrap (b5 - b2)) fun x6 => lt (IntKind.i64.wrap (x6 + (1 : Int))) fun x7 => lt (IntKind.i64.wrap (x5 * x7)) fun x8 => post (.t (.c (.v (.int .i64 x8))))))))))
def ann_ref05_Count : Ann := ⟨fun _ => none, fun _ => none, fun _ => [], Ilib, false, fun _ => none, fun _ => none⟩
theorem ev_ref05_Count (J : Inv) (b0 b1 b2 b3 b4 b5 : Int) (post : DV → Prop) : evFn Tryz.prog tab Skc69 ann_ref05_Count J Tryz.f21 [.t (.a [.v (.int .i64 b0), .v (.int .i64 b1), .v (.int .i64 b2), .v (.int .i64 b3), .v (.int .i64 b4), .v (.int .i64 b5)])] post = vc_ref05_Count b0 b1 b2 b3 b4 b5 post := by kernel_rfl
theorem fit_ref05_Count : okFn ann_ref05_Count Tryz.f21 = true := by kernel_rfl
theorem lp_ref05_Count (J : Inv) (post : DV → Prop) : AllG J (loopsFn Tryz.prog tab Skc69 ann_ref05_Count J Tryz.f21 post) = (True) := by kernel_rfl
theorem spec_ref05_Count (b0 b1 b2 b3 b4 b5 : Int) (hp : ((⟨⟨b0, b1, b2⟩, ⟨b3, b4, b5⟩⟩ : TBox)).lo.inS 20 = true ∧ ((⟨⟨b0, b1, b2⟩, ⟨b3, b4, b5⟩⟩ : TBox)).hi.inS 20 = true) : vc_ref05_Count b0 b1 b2 b3 b4 b5 (fun r => LeD r (.t (.c (.v (.int .i64 (((⟨⟨b0, b1, b2⟩, ⟨b3, b4, b5⟩⟩ : TBox)).count)))))) := by
 obtain ⟨a1, a2, a3⟩ := inS_iff.1 hp.1
 obtain ⟨c1, c2, c3⟩ := inS_iff.1 hp.2
 simp only at a1 a2 a3 c1 c2 c3
 unfold vc_ref05_Count
 (repeat' with_reducible first | (refine lt_i ?_; intro _ _) | (refine cond_i ?_ ?_ <;> intro _) | (refine And.intro ?_ ?_))
 all_goals first | decide | skip
 rename_i x1 h1 x2 h2 x3 h3 x4 h4 x5 h5 x6 h6 x7 h7 x8 h8
 rw [IntWalk.i64_in _ (by omega)] at h1
 rw [IntWalk.i64_in _ (by omega)] at h2
 rw [IntWalk.i64_in _ (by omega)] at h3
 rw [IntWalk.i64_in _ (by omega)] at h4
 have m1 := mul_rg (x := x2) (y := x4) (A := 41) (B := 41) (C := 1681) (by omega) (by omega) (by decide)
 rw [IntWalk.i64_in _ (by omega)] at h5
 rw [IntWalk.i64_in _ (by omega)] at h6
 rw [IntWalk.i64_in _ (by omega)] at h7
 have m2 := mul_rg (x := x5) (y := x7) (A := 1681) (B := 41) (C := 68921) (by omega) (by omega) (by decide)
 rw [IntWalk.i64_in _ (by omega)] at h8
 refine LeD.of ?_
 unfold TBox.count
 simp only
 rw [← h8, ← h5, ← h2, ← h4, ← h7, ← h1, ← h3, ← h6]
def con_ref05_Count : Con := fun args => match args with
 | [.t (.a [.v (.int .i64 b0), .v (.int .i64 b1), .v (.int .i64 b2), .v (.int .i64 b3), .v (.int .i64 b4), .v (.int .i64 b5)])] => some (.t (.c (.v (.int .i64 (((⟨⟨b0, b1, b2⟩, ⟨b3, b4, b5⟩⟩ : TBox)).count)))), some (((⟨⟨b0, b1, b2⟩, ⟨b3, b4, b5⟩⟩ : TBox)).lo.inS 20 = true ∧ ((⟨⟨b0, b1, b2⟩, ⟨b3, b4, b5⟩⟩ : TBox)).hi.inS 20 = true), false)
 | _ => none
theorem ok_ref05_Count : Ok Tryz.prog 21 con_ref05_Count := by
 refine Ok.fn (ann := ann_ref05_Count) mixed tabOK VSkc69 VIlib (fn := Tryz.f21) (by kernel_rfl) (by kernel_rfl) fit_ref05_Count fun args r pre fresh h hp => ?_
 unfold con_ref05_Count at h
 split at h
 ·rename_i b0 b1 b2 b3 b4 b5
  cases h
  refine ⟨rfl, fun _ _ _ => False, _, LeA.refl _, Nat.le_of_ble_eq_true (by kernel_rfl), ?_, ?_⟩
  ·rw [ev_ref05_Count]; exact spec_ref05_Count b0 b1 b2 b3 b4 b5 hp
  ·rw [lp_ref05_Count]; trivial
 ·cases h
def Skc70 : Sum := addS Skc69 21 con_ref05_Count
theorem VSkc70 : Valid Tryz.prog Skc70 := Valid.add VSkc69 ok_ref05_Count
def vc_ref05_BoxErr (b0 b1 b2 b3 b4 b5 : Int) (post : DV → Prop) : Prop := (0 ≤ (0 : Int) ∧ (0 : Int) < ((3 : Nat) : Int)) ∧ (cond (!(inB b0 (-20) 20)) ((true = true) ∧ (post (.t (.c (.v (.int .i64 2)))))) ((0 ≤ (0 : Int) ∧ (0 : Int) < ((3 : Nat) : Int)) ∧ (cond (!(inB b3 (-20) 20)) (post (.t (.c (.v (.int .i64 2))))) ((0 ≤ (1 : Int) ∧ (1 : Int) < ((3 : Nat) : Int)) ∧ (cond (!(inB b1 (-20) 20)) ((true = true) ∧ (post (.t (.c (.v (.int .i64 2)))))) ((0 ≤ (1 : Int) ∧ (1 : Int) < ((3 : Nat) : Int)) ∧ (cond (!(inB b4 (-20) 20)) (post (.t (.c (.v (.int .i64 2))))) ((0 ≤ (2 : Int) ∧ (2 : Int) < ((3 : Nat) : Int)) ∧ (cond (!(inB b2 (-20) 20)) ((true = true) ∧ (post (.t (.c (.v (.int .i64 2)))))) ((0 ≤ (2 : Int) ∧ (2 : Int) < ((3 : Nat) : Int)) ∧ (cond (!(inB b5 (-20) 20)) (post (.t (.c (.v (.int .i64 2))))) ((0 ≤ (0 : Int) ∧ (0 : Int) < ((3 : Nat) : Int)) ∧ ((0 ≤ (0 : Int) ∧ (0 : Int) < ((3 : Nat) : Int)) ∧ (cond (decide (b0 > b3)) (post (.t (.c (.v (.int .i64 9))))) ((0 ≤ (1 : Int) ∧ (1 : Int) < ((3 : Nat) : Int)) ∧ ((0 ≤ (1 : Int) ∧ (1 : Int) < ((3 : Nat) : Int)) ∧ (cond (decide (b1 > b4)) (post (.t (.c (.v (.int .i64 9))))) ((0 ≤ (2 : Int) ∧ (2 : Int) < ((3 : Nat) : Int)) ∧ ((0 ≤ (2 : Int) ∧ (2 : Int) < ((3 : Nat) : Int)) ∧ (cond (decide (b2 > b5)) (post (.t (.c (.v (.int .i64 9))))) ((((⟨⟨b0, b1, b2⟩, ⟨b3, b4, b5⟩⟩ : TBox)).lo.inS 20 = true ∧ ((⟨⟨b0, b1, b2⟩, ⟨b3, b4, b5⟩⟩ : TBox)).hi.inS 20 = true) ∧ (cond (decide ((((⟨⟨b0, b1, b2⟩, ⟨b3, b4, b5⟩⟩ : TBox)).count) > (700 : Int))) (post (.t (.c (.v (.int .i64 8))))) (post (.t (.c (.v (.int .i64 0)))))))))))))))))))))))))))
def ann_ref05_BoxErr : Ann := ⟨fun r => lookA r [(9, ([[], [], [0, 1], [0, 1, 2], [], [], [4, 5], [4, 5, 6], [0, 1, 2, 3, 4, 5, 6, 7]], [[], [], [], [], [], [], [], [], []]))], fun b => lookA b [(0, (some 4, some ⟨[1, 3], [1], []⟩)), (2, (some 4, some ⟨[1, 4], [1], []⟩))], fun _ => [], Ilib, false, fun _ => none, fun _ => none⟩
theorem ev_ref05_BoxErr (J : Inv) (b0 b1 b2 b3 b4 b5 : Int) (post : DV → Prop) : evFn Tryz.prog tab Skc70 ann_ref05_BoxErr J Tryz.f18 [.t (.a [.v (.int .i64 b0), .v (.int .i64 b1), .v (.int .i64 b2), .v (.int .i64 b3), .v (.int .i64 b4), .v (.int .i64 b5)])] post = vc_ref05_BoxErr b0 b1 b2 b3 b4 b5 post := by kernel_rfl
theorem fit_ref05_BoxErr : okFn ann_ref05_BoxErr Tryz.f18 = true := by kernel_rfl
theorem lp_ref05_BoxErr (J : Inv) (post : DV → Prop) : AllG J (loopsFn Tryz.prog tab Skc70 ann_ref05_BoxErr J Tryz.f18 post) = (True) := by kernel_rfl
theorem spec_ref05_BoxErr (b0 b1 b2 b3 b4 b5 : Int) : vc_ref05_BoxErr b0 b1 b2 b3 b4 b5 (fun r => LeD r (.t (.c (.v (.int .i64 (((⟨⟨b0, b1, b2⟩, ⟨b3, b4, b5⟩⟩ : TBox)).err)))))) := by
 unfold vc_ref05_BoxErr
 (repeat' with_reducible first | (refine lt_i ?_; intro _ _) | (refine cond_i ?_ ?_ <;> intro _) | (refine And.intro ?_ ?_))
 all_goals first
  | decide
  | (refine leI ?_; simp_all [TBox.err, firstNZ, unl, V3.inS]; done)
  | (simp_all [V3.inS]; done)
  | (refine leI ?_; simp_all [TBox.err, firstNZ, unl, V3.inS]; omega)
def con_ref05_BoxErr : Con := fun args => match args with
 | [.t (.a [.v (.int .i64 b0), .v (.int .i64 b1), .v (.int .i64 b2), .v (.int .i64 b3), .v (.int .i64 b4), .v (.int .i64 b5)])] => some (.t (.c (.v (.int .i64 (((⟨⟨b0, b1, b2⟩, ⟨b3, b4, b5⟩⟩ : TBox)).err)))), none, false)
 | _ => none
theorem ok_ref05_BoxErr : Ok Tryz.prog 18 con_ref05_BoxErr := by
 refine Ok.fn (ann := ann_ref05_BoxErr) mixed tabOK VSkc70 VIlib (fn := Tryz.f18) (by kernel_rfl) (by kernel_rfl) fit_ref05_BoxErr fun args r pre fresh h hp => ?_
 unfold con_ref05_BoxErr at h
 split at h
 ·rename_i b0 b1 b2 b3 b4 b5
  cases h
  refine ⟨rfl, fun _ _ _ => False, _, LeA.refl _, Nat.le_of_ble_eq_true (by kernel_rfl), ?_, ?_⟩
  ·rw [ev_ref05_BoxErr]; exact spec_ref05_BoxErr b0 b1 b2 b3 b4 b5
  ·rw [lp_ref05_BoxErr]; trivial
 ·cases h
def Skc71 : Sum := addS Skc70 18 con_ref05_BoxErr
theorem VSkc71 : Valid Tryz.prog Skc71 := Valid.add VSkc70 ok_ref05_BoxErr
def vc_ref05_TimeErr (n : Int) (post : DV → Prop) : Prop := cond (!(inB n (-10000 : Int) (10000 : Int))) (post (.t (.c (.v (.int .i64 2))))) (post (.t (.c (.v (.int .i64 0)))))
def ann_ref05_TimeErr : Ann := ⟨fun _ => none, fun _ => none, fun _ => [], Ilib, false, fun _ => none, fun _ => none⟩
theorem ev_ref05_TimeErr (J : Inv) (n : Int) (post : DV → Prop) : evFn Tryz.prog tab Skc71 ann_ref05_TimeErr J Tryz.f48 [.t (.c (.v (.int .i64 n)))] post = vc_ref05_TimeErr n post := by kernel_rfl
theorem fit_ref05_TimeErr : okFn ann_ref05_TimeErr Tryz.f48 = true := by kernel_rfl
theorem lp_ref05_TimeErr (J : Inv) (post : DV → Prop) : AllG J (loopsFn Tryz.prog tab Skc71 ann_ref05_TimeErr J Tryz.f48 post) = (True) := by kernel_rfl
theorem spec_ref05_TimeErr (n : Int) : vc_ref05_TimeErr n (fun r => LeD r (.t (.c (.v (.int .i64 (tmE n)))))) := by
 unfold vc_ref05_TimeErr tmE
 refine cond_i (fun h => leI ?_) (fun h => leI ?_)
 ·rw [show inB n (-10000) 10000 = false by simpa using h]; rfl
 ·rw [show inB n (-10000) 10000 = true by simpa using h]; rfl
def con_ref05_TimeErr : Con := fun args => match args with
 | [.t (.c (.v (.int .i64 n)))] => some (.t (.c (.v (.int .i64 (tmE n)))), none, false)
 | _ => none
theorem ok_ref05_TimeErr : Ok Tryz.prog 48 con_ref05_TimeErr := by
 refine Ok.fn (ann := ann_ref05_TimeErr) mixed tabOK VSkc71 VIlib (fn := Tryz.f48) (by kernel_rfl) (by kernel_rfl) fit_ref05_TimeErr fun args r pre fresh h hp => ?_
 unfold con_ref05_TimeErr at h
 split at h
 ·rename_i n
  cases h
  refine ⟨rfl, fun _ _ _ => False, _, LeA.refl _, Nat.le_of_ble_eq_true (by kernel_rfl), ?_, ?_⟩
  ·rw [ev_ref05_TimeErr]; exact spec_ref05_TimeErr n
  ·rw [lp_ref05_TimeErr]; trivial
 ·cases h
def Skc72 : Sum := addS Skc71 48 con_ref05_TimeErr
theorem VSkc72 : Valid Tryz.prog Skc72 := Valid.add VSkc71 ok_ref05_TimeErr
def vc_ref05_isWeight (n : Int) (post : DV → Prop) : Prop := post (.t (.c (.v (.bool (inB n (0 : Int) (100 : Int))))))
def ann_ref05_isWeight : Ann := ⟨fun _ => none, fun _ => none, fun _ => [], Ilib, false, fun _ => none, fun _ => none⟩
theorem ev_ref05_isWeight (J : Inv) (n : Int) (post : DV → Prop) : evFn Tryz.prog tab Skc72 ann_ref05_isWeight J Tryz.f50 [.t (.c (.v (.int .i64 n)))] post = vc_ref05_isWeight n post := by kernel_rfl
theorem fit_ref05_isWeight : okFn ann_ref05_isWeight Tryz.f50 = true := by kernel_rfl
theorem lp_ref05_isWeight (J : Inv) (post : DV → Prop) : AllG J (loopsFn Tryz.prog tab Skc72 ann_ref05_isWeight J Tryz.f50 post) = (True) := by kernel_rfl
theorem spec_ref05_isWeight (n : Int) : vc_ref05_isWeight n (fun r => LeD r (.t (.c (.v (.bool (inB n 0 100)))))) := by
 exact LeD.refl _
def con_ref05_isWeight : Con := fun args => match args with
 | [.t (.c (.v (.int .i64 n)))] => some (.t (.c (.v (.bool (inB n 0 100)))), none, false)
 | _ => none
theorem ok_ref05_isWeight : Ok Tryz.prog 50 con_ref05_isWeight := by
 refine Ok.fn (ann := ann_ref05_isWeight) mixed tabOK VSkc72 VIlib (fn := Tryz.f50) (by kernel_rfl) (by kernel_rfl) fit_ref05_isWeight fun args r pre fresh h hp => ?_
 unfold con_ref05_isWeight at h
 split at h
 ·rename_i n
  cases h
  refine ⟨rfl, fun _ _ _ => False, _, LeA.refl _, Nat.le_of_ble_eq_true (by kernel_rfl), ?_, ?_⟩
  ·rw [ev_ref05_isWeight]; exact spec_ref05_isWeight n
  ·rw [lp_ref05_isWeight]; trivial
 ·cases h
def Skc73 : Sum := addS Skc72 50 con_ref05_isWeight
theorem VSkc73 : Valid Tryz.prog Skc73 := Valid.add VSkc72 ok_ref05_isWeight
def vc_ref05_PlaceErr (p0 p1 p2 : Int) (post : DV → Prop) : Prop := (0 ≤ (0 : Int) ∧ (0 : Int) < ((3 : Nat) : Int)) ∧ (cond (!(inB p0 (-1000 : Int) (1000 : Int))) (post (.t (.c (.v (.int .i64 2))))) ((0 ≤ (1 : Int) ∧ (1 : Int) < ((3 : Nat) : Int)) ∧ (cond (!(inB p1 (-1000 : Int) (1000 : Int))) (post (.t (.c (.v (.int .i64 2))))) ((0 ≤ (2 : Int) ∧ (2 : Int) < ((3 : Nat) : Int)) ∧ (cond (!(inB p2 (-1000 : Int) (1000 : Int))) (post (.t (.c (.v (.int .i64 2))))) (post (.t (.c (.v (.int .i64 0))))))))))
def ann_ref05_PlaceErr : Ann := ⟨fun _ => none, fun b => lookA b [(0, (some 4, some ⟨[1, 3], [1], []⟩))], fun _ => [], Ilib, false, fun _ => none, fun _ => none⟩
theorem ev_ref05_PlaceErr (J : Inv) (p0 p1 p2 : Int) (post : DV → Prop) : evFn Tryz.prog tab Skc73 ann_ref05_PlaceErr J Tryz.f47 [.t (.a [.v (.int .i64 p0), .v (.int .i64 p1), .v (.int .i64 p2)])] post = vc_ref05_PlaceErr p0 p1 p2 post := by kernel_rfl
theorem fit_ref05_PlaceErr : okFn ann_ref05_PlaceErr Tryz.f47 = true := by kernel_rfl
theorem lp_ref05_PlaceErr (J : Inv) (post : DV → Prop) : AllG J (loopsFn Tryz.prog tab Skc73 ann_ref05_PlaceErr J Tryz.f47 post) = (True) := by kernel_rfl
theorem spec_ref05_PlaceErr (p0 p1 p2 : Int) : vc_ref05_PlaceErr p0 p1 p2 (fun r => LeD r (.t (.c (.v (.int .i64 (plE (⟨p0, p1, p2⟩ : V3))))))) := by
 unfold vc_ref05_PlaceErr
 unfold plE V3.inS
 simp only
 refine ⟨by decide, cond_i (fun h => leI ?_) (fun h => ⟨by decide, cond_i (fun g => leI ?_) (fun g => ⟨by decide, cond_i (fun f => leI ?_) (fun f => leI ?_)⟩)⟩)⟩
 ·rw [show inB p0 (-1000) 1000 = false by simpa using h]; rfl
 ·rw [show inB p1 (-1000) 1000 = false by simpa using g, Bool.and_false]; rfl
 ·rw [show inB p2 (-1000) 1000 = false by simpa using f, Bool.and_false]; rfl
 ·rw [show inB p0 (-1000) 1000 = true by simpa using h, show inB p1 (-1000) 1000 = true by simpa using g, show inB p2 (-1000) 1000 = true by simpa using f]; rfl
def con_ref05_PlaceErr : Con := fun args => match args with
 | [.t (.a [.v (.int .i64 p0), .v (.int .i64 p1), .v (.int .i64 p2)])] => some (.t (.c (.v (.int .i64 (plE (⟨p0, p1, p2⟩ : V3))))), none, false)
 | _ => none
theorem ok_ref05_PlaceErr : Ok Tryz.prog 47 con_ref05_PlaceErr := by
 refine Ok.fn (ann := ann_ref05_PlaceErr) mixed tabOK VSkc73 VIlib (fn := Tryz.f47) (by kernel_rfl) (by kernel_rfl) fit_ref05_PlaceErr fun args r pre fresh h hp => ?_
 unfold con_ref05_PlaceErr at h
 split at h
 ·rename_i p0 p1 p2
  cases h
  refine ⟨rfl, fun _ _ _ => False, _, LeA.refl _, Nat.le_of_ble_eq_true (by kernel_rfl), ?_, ?_⟩
  ·rw [ev_ref05_PlaceErr]; exact spec_ref05_PlaceErr p0 p1 p2
  ·rw [lp_ref05_PlaceErr]; trivial
 ·cases h
def Skc74 : Sum := addS Skc73 47 con_ref05_PlaceErr
theorem VSkc74 : Valid Tryz.prog Skc74 := Valid.add VSkc73 ok_ref05_PlaceErr
def mk_ref05_CheckHits_0 (l : List THit) (v0_0 : Int) : DS := ⟨[some (.t (.c (.sl 5 l.length (hitsC l)))), none, none, none, some (.t (.c (.v (.int .i64 v0_0)))), none, none, none, none, none, none, none, none, none, none, none, none, none, none, none, none, none, none, none, none, none, none, none, none, none, none, none, none, none, none, none, none, none, none, none, none, none, none, none], [none, none, none, none, none, none, none, none, none, none, none, none, none, none, none, none, none, none, none, none, none, none, none, none, none, none, none, none, none, none, none, none, none, none, none, none, none, none, none, none, none, none, none, none]⟩
def vc_ref05_CheckHits (J : Inv) (l : List THit) (post : DV → Prop) : Prop := cond (decide (((l.length : Nat) : Int) > (12 : Int))) (post (.tu [.c (.v (.int .i64 0)), .c (.v (.int .i64 8))])) (∃ n, J 0 (n :: []) (mk_ref05_CheckHits_0 l 0))
def ann_ref05_CheckHits : Ann := ⟨fun _ => none, fun b => lookA b [(0, (none, some ⟨[0, 4], [], []⟩))], fun _ => [], Ilib, false, fun _ => none, fun _ => none⟩
theorem ev_ref05_CheckHits (J : Inv) (l : List THit) (post : DV → Prop) : evFn Tryz.prog tab Skc74 ann_ref05_CheckHits J Tryz.f45 [.t (.c (.sl 5 l.length (hitsC l)))] post = vc_ref05_CheckHits J l post := by kernel_rfl
theorem fit_ref05_CheckHits : okFn ann_ref05_CheckHits Tryz.f45 = true := by kernel_rfl
def rd_ref05_CheckHits_0 (J : Inv) (l : List THit) (v0_0 : Int) (nn0 : Nat) (post : DV → Prop) : Prop := cond (decide (v0_0 < ((l.length : Nat) : Int))) ((0 ≤ v0_0 ∧ v0_0 < ((l.length : Nat) : Int)) ∧ (cond ((plE (hitAt l v0_0.toNat).p) != (0 : Int)) (post (.tu [.c (.v (.int .i64 v0_0)), .c (.v (.int .i64 (plE (hitAt l v0_0.toNat).p)))])) ((0 ≤ v0_0 ∧ v0_0 < ((l.length : Nat) : Int)) ∧ (cond ((tmE ((hitAt l v0_0.toNat).t)) != (0 : Int)) (post (.tu [.c (.v (.int .i64 v0_0)), .c (.v (.int .i64 (tmE ((hitAt l v0_0.toNat).t))))])) ((0 ≤ v0_0 ∧ v0_0 < ((l.length : Nat) : Int)) ∧ (cond (!(inB ((hitAt l v0_0.toNat).w) 0 100)) (post (.tu [.c (.v (.int .i64 v0_0)), .c (.v (.int .i64 2))])) (lt (IntKind.i64.wrap (v0_0 + (1 : Int))) fun x1 => J 0 (nn0 :: []) (mk_ref05_CheckHits_0 l x1)))))))) (post (.tu [.c (.v (.int .i64 0)), .c (.v (.int .i64 0))]))
theorem er_ref05_CheckHits_0 (J : Inv) (l : List THit) (v0_0 : Int) (nn0 : Nat) (post : DV → Prop) : round Tryz.prog tab Skc74 ann_ref05_CheckHits J Tryz.f45 post 0 (nn0 :: []) (mk_ref05_CheckHits_0 l v0_0) = rd_ref05_CheckHits_0 J l v0_0 nn0 post := by kernel_rfl
theorem lp_ref05_CheckHits (J : Inv) (post : DV → Prop) : AllG J (loopsFn Tryz.prog tab Skc74 ann_ref05_CheckHits J Tryz.f45 post) = (((∀ F s, ¬ J 0 (0 :: F) s) ∧ ∀ n F s, J 0 ((n + 1) :: F) s → round Tryz.prog tab Skc74 ann_ref05_CheckHits J Tryz.f45 post 0 (n :: F) s) ∧ True) := by kernel_rfl
def J_ref05_CheckHits (l : List THit) : Inv := fun b F s => match b, F with
 | 0, [nn0] => ∃ (v0_0 : Int), s = mk_ref05_CheckHits_0 l v0_0 ∧ (0 ≤ v0_0 ∧ v0_0 ≤ l.length ∧ (nn0 : Int) + v0_0 = l.length + 1 ∧ l.length ≤ 12 ∧ ∀ j : Nat, (j : Int) < v0_0 → (hitAt l j).err = 0)
 | _, _ => False
theorem rnd_ref05_CheckHits_0 (l : List THit) (v0_0 : Int) (nn0 : Nat) (hi : 0 ≤ v0_0 ∧ v0_0 ≤ l.length ∧ ((nn0 + 1) : Int) + v0_0 = l.length + 1 ∧ l.length ≤ 12 ∧ ∀ j : Nat, (j : Int) < v0_0 → (hitAt l j).err = 0) : rd_ref05_CheckHits_0 (J_ref05_CheckHits l) l v0_0 nn0 (fun r => LeD r (.tu [.c (.v (.int .i64 (hitsIdx l))), .c (.v (.int .i64 (hitsE l)))])) := by
 obtain ⟨h1, h2, h3, h4, h5⟩ := hi
 obtain ⟨k, rfl⟩ : ∃ k : Nat, v0_0 = k := ⟨v0_0.toNat, by omega⟩
 have hk : (k : Int).toNat = k := rfl
 have hz : ∀ j, j < k → (hitAt l j).err = 0 := fun j hj => h5 j (by omega)
 unfold rd_ref05_CheckHits_0
 rw [hk]
 have hne : k < l.length → (hitAt l k).err ≠ 0 → hitsIdx l = k ∧ hitsE l = (hitAt l k).err := fun hlt hn => ⟨(if_neg (by omega)).trans (scanI_at hz hlt hn), (if_neg (by omega)).trans (scan_at hz hlt hn)⟩
 have he : (hitAt l k).err = firstNZ [plE (hitAt l k).p, tmE (hitAt l k).t, unl (inB (hitAt l k).w 0 100) 2] := rfl
 refine cond_i (fun h => ?_) (fun h => ?_)
 ·have hlt : k < l.length := by have := of_decide_eq_true h; omega
  refine ⟨by omega, cond_i (fun e => ?_) (fun e => ⟨by omega, cond_i (fun e2 => ?_) (fun e2 => ⟨by omega, cond_i (fun e3 => ?_) (fun e3 => lt_i fun x hx => ?_)⟩)⟩)⟩
  ·have e : plE (hitAt l k).p ≠ 0 := by simpa using e
   have e4 : (hitAt l k).err = plE (hitAt l k).p := by rw [he]; simp [firstNZ, e]
   obtain ⟨q1, q2⟩ := hne hlt (by rw [e4]; exact e)
   rw [q1, q2, e4]; exact LeD.refl _
  ·have e : plE (hitAt l k).p = 0 := by simpa using e
   have e2 : tmE (hitAt l k).t ≠ 0 := by simpa using e2
   have e4 : (hitAt l k).err = tmE (hitAt l k).t := by rw [he]; simp [firstNZ, e, e2]
   obtain ⟨q1, q2⟩ := hne hlt (by rw [e4]; exact e2)
   rw [q1, q2, e4]; exact LeD.refl _
  ·have e : plE (hitAt l k).p = 0 := by simpa using e
   have e2 : tmE (hitAt l k).t = 0 := by simpa using e2
   have e3 : inB (hitAt l k).w 0 100 = false := by simpa using e3
   have e4 : (hitAt l k).err = 2 := by rw [he]; simp [firstNZ, e, e2, e3, unl]
   obtain ⟨q1, q2⟩ := hne hlt (by rw [e4]; decide)
   rw [q1, q2, e4]; exact LeD.refl _
  ·have e : plE (hitAt l k).p = 0 := by simpa using e
   have e2 : tmE (hitAt l k).t = 0 := by simpa using e2
   have e3 : inB (hitAt l k).w 0 100 = true := by simpa using e3
   have e4 : (hitAt l k).err = 0 := by rw [he]; simp [firstNZ, e, e2, e3, unl]
   rw [IntWalk.i64_in _ (by omega)] at hx
   refine ⟨_, rfl, by omega, by omega, by omega, h4, fun j hj => ?_⟩
   by_cases q : j = k
   ·rw [q]; exact e4
   ·exact hz j (by omega)
 ·have hge : ¬ (k < l.length) := by have := of_decide_eq_false h; omega
  have hkl : k = l.length := by omega
  subst hkl
  rw [show hitsIdx l = 0 from (if_neg (by omega)).trans (scanI_end hz), show hitsE l = 0 from (if_neg (by omega)).trans (scan_end hz)]
  exact LeD.refl _
theorem zero_ref05_CheckHits_0 (l : List THit) (v0_0 : Int)  (hi : 0 ≤ v0_0 ∧ v0_0 ≤ l.length ∧ (0 : Int) + v0_0 = l.length + 1 ∧ l.length ≤ 12 ∧ ∀ j : Nat, (j : Int) < v0_0 → (hitAt l j).err = 0) : False := by
 omega
theorem spec_ref05_CheckHits (l : List THit) : vc_ref05_CheckHits (J_ref05_CheckHits l) l (fun r => LeD r (.tu [.c (.v (.int .i64 (hitsIdx l))), .c (.v (.int .i64 (hitsE l)))])) := by
 unfold vc_ref05_CheckHits
 refine cond_i (fun h => LeD.of ?_) (fun h => ⟨l.length + 1, _, rfl, ?_⟩)
 ·have h := of_decide_eq_true h
  rw [show hitsIdx l = 0 from if_pos (by omega), show hitsE l = 8 from if_pos (by omega)]
 ·have h := of_decide_eq_false h
  exact ⟨by omega, by omega, by omega, by omega, fun j hj => by omega⟩
theorem all_ref05_CheckHits (l : List THit) : AllG (J_ref05_CheckHits l) (loopsFn Tryz.prog tab Skc74 ann_ref05_CheckHits (J_ref05_CheckHits l) Tryz.f45 (fun r => LeD r (.tu [.c (.v (.int .i64 (hitsIdx l))), .c (.v (.int .i64 (hitsE l)))]))) := by
 rw [lp_ref05_CheckHits]
 refine ⟨⟨?_, ?_⟩, trivial⟩
 ·intro F s h
  obtain _ | ⟨g, F⟩ := F
  case cons => exact h.elim
  obtain ⟨w0, rfl, hi⟩ := h
  exact zero_ref05_CheckHits_0 l w0 hi
 ·intro n F s h
  obtain _ | ⟨g, F⟩ := F
  case cons => exact h.elim
  obtain ⟨w0, rfl, hi⟩ := h
  rw [er_ref05_CheckHits_0]
  exact rnd_ref05_CheckHits_0 l _ _ hi
def con_ref05_CheckHits : Con := fun args => match args with
 | [.t (.c (.sl 5 n_l c_l))] => some (.tu [.c (.v (.int .i64 (hitsIdx (listC n_l mkHit c_l)))), .c (.v (.int .i64 (hitsE (listC n_l mkHit c_l))))], some (numsP 5 n_l c_l), false)
 | _ => none
theorem ok_ref05_CheckHits : Ok Tryz.prog 45 con_ref05_CheckHits := by
 refine Ok.fn (ann := ann_ref05_CheckHits) mixed tabOK VSkc74 VIlib (fn := Tryz.f45) (by kernel_rfl) (by kernel_rfl) fit_ref05_CheckHits fun args r pre fresh h hp => ?_
 unfold con_ref05_CheckHits at h
 split at h
 ·rename_i n_l c_l
  cases h
  have hp0 := hp
  refine ⟨rfl, J_ref05_CheckHits (listC n_l mkHit c_l), [.t (.c (.sl 5 ((listC n_l mkHit c_l).length) (hitsC (listC n_l mkHit c_l))))], ?_, Nat.le_of_ble_eq_true (by kernel_rfl), ?_, ?_⟩
  ·exact (LeA_cons (leT_c ((leL_THit hp0))) LeA_nil)
  ·rw [ev_ref05_CheckHits]; exact spec_ref05_CheckHits (listC n_l mkHit c_l)
  ·exact all_ref05_CheckHits (listC n_l mkHit c_l)
 ·cases h
def Skc75 : Sum := addS Skc74 45 con_ref05_CheckHits
theorem VSkc75 : Valid Tryz.prog Skc75 := Valid.add VSkc74 ok_ref05_CheckHits
def vc_ref05_HitsErr (l : List THit) (post : DV → Prop) : Prop := (numsP 5 l.length (hitsC l)) ∧ (post (.t (.c (.v (.int .i64 (hitsE (listC l.length mkHit (hitsC l))))))))
def ann_ref05_HitsErr : Ann := ⟨fun _ => none, fun _ => none, fun _ => [], Ilib, false, fun _ => none, fun _ => none⟩
theorem ev_ref05_HitsErr (J : Inv) (l : List THit) (post : DV → Prop) : evFn Tryz.prog tab Skc75 ann_ref05_HitsErr J Tryz.f17 [.t (.c (.sl 5 l.length (hitsC l)))] post = vc_ref05_HitsErr l post := by kernel_rfl
theorem fit_ref05_HitsErr : okFn ann_ref05_HitsErr Tryz.f17 = true := by kernel_rfl
theorem lp_ref05_HitsErr (J : Inv) (post : DV → Prop) : AllG J (loopsFn Tryz.prog tab Skc75 ann_ref05_HitsErr J Tryz.f17 post) = (True) := by kernel_rfl
theorem spec_ref05_HitsErr (l : List THit) : vc_ref05_HitsErr l (fun r => LeD r (.t (.c (.v (.int .i64 (hitsE l)))))) := by
 unfold vc_ref05_HitsErr
 rw [hits_listC]
 exact ⟨numsP_hits l, LeD.refl _⟩
def con_ref05_HitsErr : Con := fun args => match args with
 | [.t (.c (.sl 5 n_l c_l))] => some (.t (.c (.v (.int .i64 (hitsE (listC n_l mkHit c_l))))), some (numsP 5 n_l c_l), false)
 | _ => none
theorem ok_ref05_HitsErr : Ok Tryz.prog 17 con_ref05_HitsErr := by
 refine Ok.fn (ann := ann_ref05_HitsErr) mixed tabOK VSkc75 VIlib (fn := Tryz.f17) (by kernel_rfl) (by kernel_rfl) fit_ref05_HitsErr fun args r pre fresh h hp => ?_
 unfold con_ref05_HitsErr at h
 split at h
 ·rename_i n_l c_l
  cases h
  have hp0 := hp
  refine ⟨rfl, fun _ _ _ => False, [.t (.c (.sl 5 ((listC n_l mkHit c_l).length) (hitsC (listC n_l mkHit c_l))))], ?_, Nat.le_of_ble_eq_true (by kernel_rfl), ?_, ?_⟩
  ·exact (LeA_cons (leT_c ((leL_THit hp0))) LeA_nil)
  ·rw [ev_ref05_HitsErr]; exact spec_ref05_HitsErr (listC n_l mkHit c_l)
  ·rw [lp_ref05_HitsErr]; trivial
 ·cases h
def Skc76 : Sum := addS Skc75 17 con_ref05_HitsErr
theorem VSkc76 : Valid Tryz.prog Skc76 := Valid.add VSkc75 ok_ref05_HitsErr
def vc_ref05_Copy (l : List THit) (post : DV → Prop) : Prop := (roomP 40 (([] : List (List CV)).length + ((List.range l.length).map fun i => fwd ((hitsC l) i) 0 5).length)) ∧ (post (.t (.c (.sl 5 ((([] : List (List CV)) ++ ((List.range l.length).map fun i => fwd ((hitsC l) i) 0 5)).length) (genC (([] : List (List CV)) ++ ((List.range l.length).map fun i => fwd ((hitsC l) i) 0 5)))))))
def ann_ref05_Copy : Ann := ⟨fun _ => none, fun _ => none, fun _ => [], Ilib, true, fun _ => none, fun _ => none⟩
theorem ev_ref05_Copy (J : Inv) (l : List THit) (post : DV → Prop) : evFn Tryz.prog tab Skc76 ann_ref05_Copy J Tryz.f8 [.t (.c (.sl 5 l.length (hitsC l)))] post = vc_ref05_Copy l post := by kernel_rfl
theorem fit_ref05_Copy : okFn ann_ref05_Copy Tryz.f8 = true := by kernel_rfl
theorem lp_ref05_Copy (J : Inv) (post : DV → Prop) : AllG J (loopsFn Tryz.prog tab Skc76 ann_ref05_Copy J Tryz.f8 post) = (True) := by kernel_rfl
theorem spec_ref05_Copy (l : List THit) (hp : (l).length ≤ 1000000) : vc_ref05_Copy l (fun r => LeD r (.t (.c (.sl 5 l.length (hitsC l))))) := by
 unfold vc_ref05_Copy
 rw [hits_fwd]
 exact ⟨by simp [roomP, maxLen]; omega, le_hits l⟩
def con_ref05_Copy : Con := fun args => match args with
 | [.t (.c (.sl 5 n_l c_l))] => some (.t (.c (.sl 5 ((listC n_l mkHit c_l).length) (hitsC (listC n_l mkHit c_l)))), some (numsP 5 n_l c_l ∧ ((listC n_l mkHit c_l)).length ≤ 1000000), true)
 | _ => none
theorem ok_ref05_Copy : Ok Tryz.prog 8 con_ref05_Copy := by
 refine Ok.fnFr (ann := ann_ref05_Copy) mixed tabOK VSkc76 VIlib rfl (fn := Tryz.f8) (by kernel_rfl) (by kernel_rfl) fit_ref05_Copy fun args r pre fresh h hp => ?_
 unfold con_ref05_Copy at h
 split at h
 ·rename_i n_l c_l
  cases h
  obtain ⟨hp0, hp⟩ := hp
  refine ⟨rfl, (fun i j _ hj => plain_THit _ i j), fun _ _ _ => False, [.t (.c (.sl 5 ((listC n_l mkHit c_l).length) (hitsC (listC n_l mkHit c_l))))], ?_, Nat.le_of_ble_eq_true (by kernel_rfl), ?_, ?_⟩
  ·exact (LeA_cons (leT_c ((leL_THit hp0))) LeA_nil)
  ·rw [ev_ref05_Copy]; exact spec_ref05_Copy (listC n_l mkHit c_l) hp
  ·rw [lp_ref05_Copy]; trivial
 ·cases h
def Skc77 : Sum := addS Skc76 8 con_ref05_Copy
theorem VSkc77 : Valid Tryz.prog Skc77 := Valid.add VSkc76 ok_ref05_Copy
def mk_ref05_Same_0 (l : List THit) (l2 : List THit) (v0_0 : Int) : DS := ⟨[some (.t (.c (.sl 5 l.length (hitsC l)))), some (.t (.c (.sl 5 l2.length (hitsC l2)))), none, none, none, some (.t (.c (.v (.int .i64 v0_0)))), none, none, none, none, none, none, none, none, none, none, none, none, none, none, none, none, none, none, none, none], [none, none, none, none, none, none, none, none, none, none, none, none, none, none, none, none, none, none, none, none, none, none, none, none, none, none]⟩
def vc_ref05_Same (J : Inv) (l : List THit) (l2 : List THit) (post : DV → Prop) : Prop := cond (((l.length : Nat) : Int) != ((l2.length : Nat) : Int)) (post (.t (.c (.v (.bool false))))) (∃ n, J 0 (n :: []) (mk_ref05_Same_0 l l2 0))
def ann_ref05_Same : Ann := ⟨fun r => lookA r [(6, ([[], [], [0, 1], [0, 1, 2], [], [], [4, 5], [4, 5, 6], [0, 1, 2, 3, 4, 5, 6, 7]], [[], [], [], [], [], [], [], [], []]))], fun b => lookA b [(0, (none, some ⟨[0, 1, 5], [], []⟩))], fun _ => [], Ilib, false, fun _ => none, fun _ => none⟩
theorem ev_ref05_Same (J : Inv) (l : List THit) (l2 : List THit) (post : DV → Prop) : evFn Tryz.prog tab Skc77 ann_ref05_Same J Tryz.f16 [.t (.c (.sl 5 l.length (hitsC l))), .t (.c (.sl 5 l2.length (hitsC l2)))] post = vc_ref05_Same J l l2 post := by kernel_rfl
theorem fit_ref05_Same : okFn ann_ref05_Same Tryz.f16 = true := by kernel_rfl
def rd_ref05_Same_0 (J : Inv) (l : List THit) (l2 : List THit) (v0_0 : Int) (nn0 : Nat) (post : DV → Prop) : Prop := cond (decide (v0_0 < ((l.length : Nat) : Int))) ((0 ≤ v0_0 ∧ v0_0 < ((l.length : Nat) : Int)) ∧ ((0 ≤ v0_0 ∧ v0_0 < ((l2.length : Nat) : Int)) ∧ (cond (!(bif (bif (((hitAt l v0_0.toNat).p.x) == ((hitAt l2 v0_0.toNat).p.x)) then (bif (((hitAt l v0_0.toNat).p.y) == ((hitAt l2 v0_0.toNat).p.y)) then (bif (((hitAt l v0_0.toNat).p.z) == ((hitAt l2 v0_0.toNat).p.z)) then true else false) else false) else false) then (bif (((hitAt l v0_0.toNat).t) == ((hitAt l2 v0_0.toNat).t)) then (bif (((hitAt l v0_0.toNat).w) == ((hitAt l2 v0_0.toNat).w)) then true else false) else false) else false)) (post (.t (.c (.v (.bool false))))) (lt (IntKind.i64.wrap (v0_0 + (1 : Int))) fun x1 => J 0 (nn0 :: []) (mk_ref05_Same_0 l l2 x1))))) (post (.t (.c (.v (.bool true)))))
theorem er_ref05_Same_0 (J : Inv) (l : List THit) (l2 : List THit) (v0_0 : Int) (nn0 : Nat) (post : DV → Prop) : round Tryz.prog tab Skc77 ann_ref05_Same J Tryz.f16 post 0 (nn0 :: []) (mk_ref05_Same_0 l l2 v0_0) = rd_ref05_Same_0 J l l2 v0_0 nn0 post := by kernel_rfl
theorem lp_ref05_Same (J : Inv) (post : DV → Prop) : AllG J (loopsFn Tryz.prog tab Skc77 ann_ref05_Same J Tryz.f16 post) = (((∀ F s, ¬ J 0 (0 :: F) s) ∧ ∀ n F s, J 0 ((n + 1) :: F) s → round Tryz.prog tab Skc77 ann_ref05_Same J Tryz.f16 post 0 (n :: F) s) ∧ True) := by kernel_rfl
def J_ref05_Same (l : List THit) (l2 : List THit) : Inv := fun b F s => match b, F with
 | 0, [nn0] => ∃ (v0_0 : Int), s = mk_ref05_Same_0 l l2 v0_0 ∧ (l.length ≤ 1000000 ∧ 0 ≤ v0_0 ∧ v0_0 ≤ l.length ∧ (nn0 : Int) + v0_0 = l.length + 1 ∧ l.length = l2.length ∧ ∀ j : Nat, (j : Int) < v0_0 → hitAt l j = hitAt l2 j)
 | _, _ => False
theorem rnd_ref05_Same_0 (l : List THit) (l2 : List THit) (v0_0 : Int) (nn0 : Nat) (hp : (l).length ≤ 1000000) (hi : l.length ≤ 1000000 ∧ 0 ≤ v0_0 ∧ v0_0 ≤ l.length ∧ ((nn0 + 1) : Int) + v0_0 = l.length + 1 ∧ l.length = l2.length ∧ ∀ j : Nat, (j : Int) < v0_0 → hitAt l j = hitAt l2 j) : rd_ref05_Same_0 (J_ref05_Same l l2) l l2 v0_0 nn0 (fun r => LeD r (.t (.c (.v (.bool (decide (l = l2))))))) := by
 obtain ⟨i0, i1, i2, i3, i4, i5⟩ := hi
 obtain ⟨k, rfl⟩ : ∃ k : Nat, v0_0 = k := ⟨v0_0.toNat, by omega⟩
 have hk : (k : Int).toNat = k := rfl
 unfold rd_ref05_Same_0
 rw [hk]
 refine cond_i (fun h => ?_) (fun h => leB ?_)
 ·have hlt : k < l.length := by have := of_decide_eq_true h; omega
  refine ⟨by omega, by omega, cond_i (fun e => leB ?_) (fun e => lt_i fun x hx => ?_)⟩
  ·refine (decide_eq_false fun q => ?_).symm
   rw [q] at e
   simp at e
  ·have e : hitAt l k = hitAt l2 k := by
    rw [hit_ext]
    simpa [Bool.cond_eq_ite, and_assoc] using e
   rw [IntWalk.i64_in _ (by omega)] at hx
   subst hx
   exact ⟨_, rfl, i0, by omega, by omega, by omega, i4, fun j hj => by
    by_cases q : j = k
    ·rw [q]; exact e
    ·exact i5 j (by omega)⟩
 ·have hge : k = l.length := by have := of_decide_eq_false h; omega
  refine (decide_eq_true (List.ext_getElem? fun i => ?_)).symm
  by_cases hi : i < l.length
  ·have := i5 i (by omega)
   unfold hitAt at this
   simp only [List.getD, List.getElem?_eq_getElem hi, List.getElem?_eq_getElem (i4 ▸ hi), Option.getD_some] at this
   rw [List.getElem?_eq_getElem hi, List.getElem?_eq_getElem (i4 ▸ hi), this]
  ·rw [List.getElem?_eq_none (by omega), List.getElem?_eq_none (by omega)]
theorem zero_ref05_Same_0 (l : List THit) (l2 : List THit) (v0_0 : Int)  (hi : l.length ≤ 1000000 ∧ 0 ≤ v0_0 ∧ v0_0 ≤ l.length ∧ (0 : Int) + v0_0 = l.length + 1 ∧ l.length = l2.length ∧ ∀ j : Nat, (j : Int) < v0_0 → hitAt l j = hitAt l2 j) : False := by
 omega
theorem spec_ref05_Same (l : List THit) (l2 : List THit) (hp : (l).length ≤ 1000000) : vc_ref05_Same (J_ref05_Same l l2) l l2 (fun r => LeD r (.t (.c (.v (.bool (decide (l = l2))))))) := by
  unfold vc_ref05_Same
  refine cond_i (fun h => leB ?_) (fun h => ?_)
  · have h : l.length ≠ l2.length := by intro e; rw [e] at h; simp at h
    exact (decide_eq_false fun e => h (by rw [e])).symm
  · have h : l.length = l2.length := by have h : (l.length : Int) = l2.length := by simpa using h
                                        omega
    exact ⟨l.length + 1, 0, rfl, hp, by omega, by omega, by omega, h, fun j hj => by omega⟩
theorem all_ref05_Same (l : List THit) (l2 : List THit) (hp : (l).length ≤ 1000000) : AllG (J_ref05_Same l l2) (loopsFn Tryz.prog tab Skc77 ann_ref05_Same (J_ref05_Same l l2) Tryz.f16 (fun r => LeD r (.t (.c (.v (.bool (decide (l = l2)))))))) := by
 rw [lp_ref05_Same]
 refine ⟨⟨?_, ?_⟩, trivial⟩
 ·intro F s h
  obtain _ | ⟨g, F⟩ := F
  case cons => exact h.elim
  obtain ⟨w0, rfl, hi⟩ := h
  exact zero_ref05_Same_0 l l2 w0 hi
 ·intro n F s h
  obtain _ | ⟨g, F⟩ := F
  case cons => exact h.elim
  obtain ⟨w0, rfl, hi⟩ := h
  rw [er_ref05_Same_0]
  exact rnd_ref05_Same_0 l l2 _ _ hp hi
def con_ref05_Same : Con := fun args => match args with
 | [.t (.c (.sl 5 n_l c_l)), .t (.c (.sl 5 n_l2 c_l2))] => some (.t (.c (.v (.bool (decide ((listC n_l mkHit c_l) = (listC n_l2 mkHit c_l2)))))), some (numsP 5 n_l c_l ∧ numsP 5 n_l2 c_l2 ∧ ((listC n_l mkHit c_l)).length ≤ 1000000), false)
 | _ => none
theorem ok_ref05_Same : Ok Tryz.prog 16 con_ref05_Same := by
 refine Ok.fn (ann := ann_ref05_Same) mixed tabOK VSkc77 VIlib (fn := Tryz.f16) (by kernel_rfl) (by kernel_rfl) fit_ref05_Same fun args r pre fresh h hp => ?_
 unfold con_ref05_Same at h
 split at h
 ·rename_i n_l c_l n_l2 c_l2
  cases h
  obtain ⟨hp0, hp1, hp⟩ := hp
  refine ⟨rfl, J_ref05_Same (listC n_l mkHit c_l) (listC n_l2 mkHit c_l2), [.t (.c (.sl 5 ((listC n_l mkHit c_l).length) (hitsC (listC n_l mkHit c_l)))), .t (.c (.sl 5 ((listC n_l2 mkHit c_l2).length) (hitsC (listC n_l2 mkHit c_l2))))], ?_, Nat.le_of_ble_eq_true (by kernel_rfl), ?_, ?_⟩
  ·exact (LeA_cons (leT_c ((leL_THit hp0))) (LeA_cons (leT_c ((leL_THit hp1))) LeA_nil))
  ·rw [ev_ref05_Same]; exact spec_ref05_Same (listC n_l mkHit c_l) (listC n_l2 mkHit c_l2) hp
  ·exact all_ref05_Same (listC n_l mkHit c_l) (listC n_l2 mkHit c_l2) hp
 ·cases h
def Skc78 : Sum := addS Skc77 16 con_ref05_Same
theorem VSkc78 : Valid Tryz.prog Skc78 := Valid.add VSkc77 ok_ref05_Same
def mk_ref05_words_0 (l : List Int) (v0_0 : ByteArray) (v0_1 : Int) : DS := ⟨[some (.t (.c (.sl 1 l.length (intsC l)))), none, none, some (.t (.c (.v (.string v0_0)))), some (.t (.c (.v (.int .i64 v0_1)))), none, none, none, none, none, none, none, none, none, none, none, none, none, none, none, none, none, none], [none, none, none, none, none, none, none, none, none, none, none, none, none, none, none, none, none, none, none, none, none, none, none]⟩
def vc_ref05_words (J : Inv) (l : List Int) (post : DV → Prop) : Prop := ∃ n, J 0 (n :: []) (mk_ref05_words_0 l (⟨#[]⟩) 0)
def ann_ref05_words : Ann := ⟨fun _ => none, fun b => lookA b [(0, (none, some ⟨[0, 3, 4], [], []⟩))], fun _ => [], Ilib, false, fun _ => none, fun _ => none⟩
theorem ev_ref05_words (J : Inv) (l : List Int) (post : DV → Prop) : evFn Tryz.prog tab Skc78 ann_ref05_words J Tryz.f44 [.t (.c (.sl 1 l.length (intsC l)))] post = vc_ref05_words J l post := by kernel_rfl
theorem fit_ref05_words : okFn ann_ref05_words Tryz.f44 = true := by kernel_rfl
def rd_ref05_words_0 (J : Inv) (l : List Int) (v0_0 : ByteArray) (v0_1 : Int) (nn0 : Nat) (post : DV → Prop) : Prop := cond (decide (v0_1 < ((l.length : Nat) : Int))) (cond (decide (v0_1 > (0 : Int))) (((((v0_0 : ByteArray).size + ((⟨#[32]⟩) : ByteArray).size : Nat) : Int) ≤ 9223372036854775807) ∧ ((0 ≤ v0_1 ∧ v0_1 < ((l.length : Nat) : Int)) ∧ ((-9223372036854775808 ≤ (l.getD v0_1.toNat 0) ∧ (l.getD v0_1.toNat 0) ≤ 9223372036854775807) ∧ ((((((v0_0 ++ (⟨#[32]⟩)) : ByteArray).size + ((itoaB (l.getD v0_1.toNat 0)) : ByteArray).size : Nat) : Int) ≤ 9223372036854775807) ∧ (lt (IntKind.i64.wrap (v0_1 + (1 : Int))) fun x1 => J 0 (nn0 :: []) (mk_ref05_words_0 l ((v0_0 ++ (⟨#[32]⟩)) ++ (itoaB (l.getD v0_1.toNat 0))) x1)))))) ((0 ≤ v0_1 ∧ v0_1 < ((l.length : Nat) : Int)) ∧ ((-9223372036854775808 ≤ (l.getD v0_1.toNat 0) ∧ (l.getD v0_1.toNat 0) ≤ 9223372036854775807) ∧ (((((v0_0 : ByteArray).size + ((itoaB (l.getD v0_1.toNat 0)) : ByteArray).size : Nat) : Int) ≤ 9223372036854775807) ∧ (lt (IntKind.i64.wrap (v0_1 + (1 : Int))) fun x2 => J 0 (nn0 :: []) (mk_ref05_words_0 l (v0_0 ++ (itoaB (l.getD v0_1.toNat 0))) x2)))))) (post (.t (.c (.v (.string v0_0)))))
theorem er_ref05_words_0 (J : Inv) (l : List Int) (v0_0 : ByteArray) (v0_1 : Int) (nn0 : Nat) (post : DV → Prop) : round Tryz.prog tab Skc78 ann_ref05_words J Tryz.f44 post 0 (nn0 :: []) (mk_ref05_words_0 l v0_0 v0_1) = rd_ref05_words_0 J l v0_0 v0_1 nn0 post := by kernel_rfl
theorem lp_ref05_words (J : Inv) (post : DV → Prop) : AllG J (loopsFn Tryz.prog tab Skc78 ann_ref05_words J Tryz.f44 post) = (((∀ F s, ¬ J 0 (0 :: F) s) ∧ ∀ n F s, J 0 ((n + 1) :: F) s → round Tryz.prog tab Skc78 ann_ref05_words J Tryz.f44 post 0 (n :: F) s) ∧ True) := by kernel_rfl
def J_ref05_words (l : List Int) : Inv := fun b F s => match b, F with
 | 0, [nn0] => ∃ (v0_0 : ByteArray) (v0_1 : Int), s = mk_ref05_words_0 l v0_0 v0_1 ∧ ((l.length ≤ 100 ∧ (∀ i, i < (l).length → -9223372036854775808 ≤ (l).getD i 0 ∧ (l).getD i 0 ≤ 9223372036854775807)) ∧ 0 ≤ v0_1 ∧ v0_1 ≤ l.length ∧ (nn0 : Int) + v0_1 = l.length + 1 ∧ v0_0 = wordsB (l.take v0_1.toNat))
 | _, _ => False
theorem rnd_ref05_words_0 (l : List Int) (v0_0 : ByteArray) (v0_1 : Int) (nn0 : Nat) (hp : (l).length ≤ 100 ∧ (∀ i, i < (l).length → -9223372036854775808 ≤ (l).getD i 0 ∧ (l).getD i 0 ≤ 9223372036854775807)) (hi : (l.length ≤ 100 ∧ (∀ i, i < (l).length → -9223372036854775808 ≤ (l).getD i 0 ∧ (l).getD i 0 ≤ 9223372036854775807)) ∧ 0 ≤ v0_1 ∧ v0_1 ≤ l.length ∧ ((nn0 + 1) : Int) + v0_1 = l.length + 1 ∧ v0_0 = wordsB (l.take v0_1.toNat)) : rd_ref05_words_0 (J_ref05_words l) l v0_0 v0_1 nn0 (fun r => LeD r (.t (.c (.v (.string (wordsB l)))))) := by
 obtain ⟨q, i1, i2, i3, i4⟩ := hi
 obtain ⟨k, rfl⟩ : ∃ k : Nat, v0_1 = k := ⟨v0_1.toNat, by omega⟩
 have hk : (k : Int).toNat = k := rfl
 rw [hk] at i4
 subst i4
 have w1 := words_take (k := k) q.1 q.2
 unfold rd_ref05_words_0
 rw [Int.toNat_natCast]
 refine cond_i (fun h => ?_) (fun h => ?_)
 ·have hlt : k < l.length := by have := of_decide_eq_true h; omega
  have hb := q.2 k hlt
  have w2 := itoaB_len hb
  refine cond_i (fun g => ?_) (fun g => ?_)
  ·have g : 0 < k := by have := of_decide_eq_true g; omega
   refine ⟨by rw [sz_one]; omega, ⟨by omega, by omega⟩, hb, by rw [ByteArray.size_append, sz_one]; omega, lt_i fun x hx => ?_⟩
   rw [wi (by omega)] at hx
   subst hx
   refine ⟨_, _, rfl, q, by omega, by omega, by omega, ?_⟩
   exact words_snoc hlt g
  ·have g : k = 0 := by have := of_decide_eq_false g; omega
   subst g
   refine ⟨⟨by omega, by omega⟩, hb, by omega, lt_i fun x hx => ?_⟩
   rw [wi (by omega)] at hx
   subst hx
   refine ⟨_, _, rfl, q, by omega, by omega, by omega, ?_⟩
   exact words_one hlt
 ·have e : k = l.length := by have := of_decide_eq_false h; omega
  subst e
  rw [List.take_length]
  exact LeD.refl _
theorem zero_ref05_words_0 (l : List Int) (v0_0 : ByteArray) (v0_1 : Int)  (hi : (l.length ≤ 100 ∧ (∀ i, i < (l).length → -9223372036854775808 ≤ (l).getD i 0 ∧ (l).getD i 0 ≤ 9223372036854775807)) ∧ 0 ≤ v0_1 ∧ v0_1 ≤ l.length ∧ (0 : Int) + v0_1 = l.length + 1 ∧ v0_0 = wordsB (l.take v0_1.toNat)) : False := by
 omega
theorem spec_ref05_words (l : List Int) (hp : (l).length ≤ 100 ∧ (∀ i, i < (l).length → -9223372036854775808 ≤ (l).getD i 0 ∧ (l).getD i 0 ≤ 9223372036854775807)) : vc_ref05_words (J_ref05_words l) l (fun r => LeD r (.t (.c (.v (.string (wordsB l)))))) := by
 unfold vc_ref05_words
 exact ⟨l.length + 1, _, 0, rfl, hp, by omega, by omega, by omega, rfl⟩
theorem all_ref05_words (l : List Int) (hp : (l).length ≤ 100 ∧ (∀ i, i < (l).length → -9223372036854775808 ≤ (l).getD i 0 ∧ (l).getD i 0 ≤ 9223372036854775807)) : AllG (J_ref05_words l) (loopsFn Tryz.prog tab Skc78 ann_ref05_words (J_ref05_words l) Tryz.f44 (fun r => LeD r (.t (.c (.v (.string (wordsB l))))))) := by
 rw [lp_ref05_words]
 refine ⟨⟨?_, ?_⟩, trivial⟩
 ·intro F s h
  obtain _ | ⟨g, F⟩ := F
  case cons => exact h.elim
  obtain ⟨w0, w1, rfl, hi⟩ := h
  exact zero_ref05_words_0 l w0 w1 hi
 ·intro n F s h
  obtain _ | ⟨g, F⟩ := F
  case cons => exact h.elim
  obtain ⟨w0, w1, rfl, hi⟩ := h
  rw [er_ref05_words_0]
  exact rnd_ref05_words_0 l _ _ _ hp hi
def con_ref05_words : Con := fun args => match args with
 | [.t (.c (.sl 1 n_l c_l))] => some (.t (.c (.v (.string (wordsB (listC n_l mkInt c_l))))), some (numsP 1 n_l c_l ∧ ((listC n_l mkInt c_l)).length ≤ 100 ∧ (∀ i, i < ((listC n_l mkInt c_l)).length → -9223372036854775808 ≤ ((listC n_l mkInt c_l)).getD i 0 ∧ ((listC n_l mkInt c_l)).getD i 0 ≤ 9223372036854775807)), false)
 | _ => none
theorem ok_ref05_words : Ok Tryz.prog 44 con_ref05_words := by
 refine Ok.fn (ann := ann_ref05_words) mixed tabOK VSkc78 VIlib (fn := Tryz.f44) (by kernel_rfl) (by kernel_rfl) fit_ref05_words fun args r pre fresh h hp => ?_
 unfold con_ref05_words at h
 split at h
 ·rename_i n_l c_l
  cases h
  obtain ⟨hp0, hp⟩ := hp
  refine ⟨rfl, J_ref05_words (listC n_l mkInt c_l), [.t (.c (.sl 1 ((listC n_l mkInt c_l).length) (intsC (listC n_l mkInt c_l))))], ?_, Nat.le_of_ble_eq_true (by kernel_rfl), ?_, ?_⟩
  ·exact (LeA_cons (leT_c ((leL_int hp0))) LeA_nil)
  ·rw [ev_ref05_words]; exact spec_ref05_words (listC n_l mkInt c_l) hp
  ·exact all_ref05_words (listC n_l mkInt c_l) hp
 ·cases h
def Skc79 : Sum := addS Skc78 44 con_ref05_words
theorem VSkc79 : Valid Tryz.prog Skc79 := Valid.add VSkc78 ok_ref05_words
def mk_ref05_FormatHits_0 (l : List THit) (v0_0 : ByteArray) (v0_1 : Int) : DS := ⟨[some (.t (.c (.sl 5 l.length (hitsC l)))), none, none, some (.t (.c (.v (.string v0_0)))), some (.t (.c (.v (.int .i64 v0_1)))), none, none, none, none, none, none, none, none, none, none, none, none, none, none, none, none, none, none, none, none, none, none, none, none, none, none, none, none, none, none, none, none, none], [none, none, none, none, none, none, none, none, none, none, none, none, none, none, none, none, none, none, none, none, none, none, none, none, none, none, none, none, none, none, none, none, none, none, none, none, none, none]⟩
def vc_ref05_FormatHits (J : Inv) (l : List THit) (post : DV → Prop) : Prop := ∃ n, J 0 (n :: []) (mk_ref05_FormatHits_0 l (⟨#[]⟩) 0)
def ann_ref05_FormatHits : Ann := ⟨fun _ => none, fun b => lookA b [(0, (none, some ⟨[0, 3, 4], [], []⟩))], fun _ => [], Ilib, false, fun _ => none, fun _ => none⟩
theorem ev_ref05_FormatHits (J : Inv) (l : List THit) (post : DV → Prop) : evFn Tryz.prog tab Skc79 ann_ref05_FormatHits J Tryz.f14 [.t (.c (.sl 5 l.length (hitsC l)))] post = vc_ref05_FormatHits J l post := by kernel_rfl
theorem fit_ref05_FormatHits : okFn ann_ref05_FormatHits Tryz.f14 = true := by kernel_rfl
def rd_ref05_FormatHits_0 (J : Inv) (l : List THit) (v0_0 : ByteArray) (v0_1 : Int) (nn0 : Nat) (post : DV → Prop) : Prop := cond (decide (v0_1 < ((l.length : Nat) : Int))) (cond (decide (v0_1 > (0 : Int))) (((((v0_0 : ByteArray).size + ((⟨#[59]⟩) : ByteArray).size : Nat) : Int) ≤ 9223372036854775807) ∧ ((0 ≤ v0_1 ∧ v0_1 < ((l.length : Nat) : Int)) ∧ ((0 ≤ (0 : Int) ∧ (0 : Int) < ((3 : Nat) : Int)) ∧ ((0 ≤ (1 : Int) ∧ (1 : Int) < ((3 : Nat) : Int)) ∧ ((0 ≤ (2 : Int) ∧ (2 : Int) < ((3 : Nat) : Int)) ∧ ((numsP 1 5 (genC [[.v (.int .i64 ((hitAt l v0_1.toNat).p.x))], [.v (.int .i64 ((hitAt l v0_1.toNat).p.y))], [.v (.int .i64 ((hitAt l v0_1.toNat).p.z))], [.v (.int .i64 ((hitAt l v0_1.toNat).t))], [.v (.int .i64 ((hitAt l v0_1.toNat).w))]]) ∧ (([((hitAt l v0_1.toNat).p.x), ((hitAt l v0_1.toNat).p.y), ((hitAt l v0_1.toNat).p.z), ((hitAt l v0_1.toNat).t), ((hitAt l v0_1.toNat).w)] : List Int)).length ≤ 100 ∧ (∀ i, i < (([((hitAt l v0_1.toNat).p.x), ((hitAt l v0_1.toNat).p.y), ((hitAt l v0_1.toNat).p.z), ((hitAt l v0_1.toNat).t), ((hitAt l v0_1.toNat).w)] : List Int)).length → -9223372036854775808 ≤ (([((hitAt l v0_1.toNat).p.x), ((hitAt l v0_1.toNat).p.y), ((hitAt l v0_1.toNat).p.z), ((hitAt l v0_1.toNat).t), ((hitAt l v0_1.toNat).w)] : List Int)).getD i 0 ∧ (([((hitAt l v0_1.toNat).p.x), ((hitAt l v0_1.toNat).p.y), ((hitAt l v0_1.toNat).p.z), ((hitAt l v0_1.toNat).t), ((hitAt l v0_1.toNat).w)] : List Int)).getD i 0 ≤ 9223372036854775807)) ∧ ((((((v0_0 ++ (⟨#[59]⟩)) : ByteArray).size + ((wordsB ([((hitAt l v0_1.toNat).p.x), ((hitAt l v0_1.toNat).p.y), ((hitAt l v0_1.toNat).p.z), ((hitAt l v0_1.toNat).t), ((hitAt l v0_1.toNat).w)] : List Int)) : ByteArray).size : Nat) : Int) ≤ 9223372036854775807) ∧ (lt (IntKind.i64.wrap (v0_1 + (1 : Int))) fun x1 => J 0 (nn0 :: []) (mk_ref05_FormatHits_0 l ((v0_0 ++ (⟨#[59]⟩)) ++ (wordsB ([((hitAt l v0_1.toNat).p.x), ((hitAt l v0_1.toNat).p.y), ((hitAt l v0_1.toNat).p.z), ((hitAt l v0_1.toNat).t), ((hitAt l v0_1.toNat).w)] : List Int))) x1))))))))) ((0 ≤ v0_1 ∧ v0_1 < ((l.length : Nat) : Int)) ∧ ((0 ≤ (0 : Int) ∧ (0 : Int) < ((3 : Nat) : Int)) ∧ ((0 ≤ (1 : Int) ∧ (1 : Int) < ((3 : Nat) : Int)) ∧ ((0 ≤ (2 : Int) ∧ (2 : Int) < ((3 : Nat) : Int)) ∧ ((numsP 1 5 (genC [[.v (.int .i64 ((hitAt l v0_1.toNat).p.x))], [.v (.int .i64 ((hitAt l v0_1.toNat).p.y))], [.v (.int .i64 ((hitAt l v0_1.toNat).p.z))], [.v (.int .i64 ((hitAt l v0_1.toNat).t))], [.v (.int .i64 ((hitAt l v0_1.toNat).w))]]) ∧ (([((hitAt l v0_1.toNat).p.x), ((hitAt l v0_1.toNat).p.y), ((hitAt l v0_1.toNat).p.z), ((hitAt l v0_1.toNat).t), ((hitAt l v0_1.toNat).w)] : List Int)).length ≤ 100 ∧ (∀ i, i < (([((hitAt l v0_1.toNat).p.x), ((hitAt l v0_1.toNat).p.y), ((hitAt l v0_1.toNat).p.z), ((hitAt l v0_1.toNat).t), ((hitAt l v0_1.toNat).w)] : List Int)).length → -9223372036854775808 ≤ (([((hitAt l v0_1.toNat).p.x), ((hitAt l v0_1.toNat).p.y), ((hitAt l v0_1.toNat).p.z), ((hitAt l v0_1.toNat).t), ((hitAt l v0_1.toNat).w)] : List Int)).getD i 0 ∧ (([((hitAt l v0_1.toNat).p.x), ((hitAt l v0_1.toNat).p.y), ((hitAt l v0_1.toNat).p.z), ((hitAt l v0_1.toNat).t), ((hitAt l v0_1.toNat).w)] : List Int)).getD i 0 ≤ 9223372036854775807)) ∧ (((((v0_0 : ByteArray).size + ((wordsB ([((hitAt l v0_1.toNat).p.x), ((hitAt l v0_1.toNat).p.y), ((hitAt l v0_1.toNat).p.z), ((hitAt l v0_1.toNat).t), ((hitAt l v0_1.toNat).w)] : List Int)) : ByteArray).size : Nat) : Int) ≤ 9223372036854775807) ∧ (lt (IntKind.i64.wrap (v0_1 + (1 : Int))) fun x2 => J 0 (nn0 :: []) (mk_ref05_FormatHits_0 l (v0_0 ++ (wordsB ([((hitAt l v0_1.toNat).p.x), ((hitAt l v0_1.toNat).p.y), ((hitAt l v0_1.toNat).p.z), ((hitAt l v0_1.toNat).t), ((hitAt l v0_1.toNat).w)] : List Int))) x2))))))))) (post (.t (.c (.v (.string v0_0)))))
theorem er_ref05_FormatHits_0 (J : Inv) (l : List THit) (v0_0 : ByteArray) (v0_1 : Int) (nn0 : Nat) (post : DV → Prop) : round Tryz.prog tab Skc79 ann_ref05_FormatHits J Tryz.f14 post 0 (nn0 :: []) (mk_ref05_FormatHits_0 l v0_0 v0_1) = rd_ref05_FormatHits_0 J l v0_0 v0_1 nn0 post := by kernel_rfl
theorem lp_ref05_FormatHits (J : Inv) (post : DV → Prop) : AllG J (loopsFn Tryz.prog tab Skc79 ann_ref05_FormatHits J Tryz.f14 post) = (((∀ F s, ¬ J 0 (0 :: F) s) ∧ ∀ n F s, J 0 ((n + 1) :: F) s → round Tryz.prog tab Skc79 ann_ref05_FormatHits J Tryz.f14 post 0 (n :: F) s) ∧ True) := by kernel_rfl
def J_ref05_FormatHits (l : List THit) : Inv := fun b F s => match b, F with
 | 0, [nn0] => ∃ (v0_0 : ByteArray) (v0_1 : Int), s = mk_ref05_FormatHits_0 l v0_0 v0_1 ∧ (((l).length ≤ 14 ∧ ∀ k, k < (l).length → rgH (hitAt l k)) ∧ 0 ≤ v0_1 ∧ v0_1 ≤ l.length ∧ (nn0 : Int) + v0_1 = l.length + 1 ∧ v0_0 = hitsT (l.take v0_1.toNat))
 | _, _ => False
theorem rnd_ref05_FormatHits_0 (l : List THit) (v0_0 : ByteArray) (v0_1 : Int) (nn0 : Nat) (hp : (l).length ≤ 14 ∧ ∀ k, k < (l).length → rgH (hitAt l k)) (hi : ((l).length ≤ 14 ∧ ∀ k, k < (l).length → rgH (hitAt l k)) ∧ 0 ≤ v0_1 ∧ v0_1 ≤ l.length ∧ ((nn0 + 1) : Int) + v0_1 = l.length + 1 ∧ v0_0 = hitsT (l.take v0_1.toNat)) : rd_ref05_FormatHits_0 (J_ref05_FormatHits l) l v0_0 v0_1 nn0 (fun r => LeD r (.t (.c (.v (.string (hitsT l)))))) := by
 obtain ⟨q, i1, i2, i3, i4⟩ := hi
 obtain ⟨k, rfl⟩ : ∃ k : Nat, v0_1 = k := ⟨v0_1.toNat, by omega⟩
 have hk : (k : Int).toNat = k := rfl
 rw [hk] at i4
 subst i4
 have z := hits_take (k := k) q.1 q.2
 unfold rd_ref05_FormatHits_0
 rw [Int.toNat_natCast]
 refine cond_i (fun h => ?_) (fun h => ?_)
 ·have hlt : k < l.length := by have := of_decide_eq_true h; omega
  have b := q.2 k hlt
  have wl := hitW_len b
  rw [show wordsB ([(hitAt l k).p.x, (hitAt l k).p.y, (hitAt l k).p.z, (hitAt l k).t, (hitAt l k).w] : List Int) = hitW (hitAt l k) from rfl]
  have pw := preT_word hlt
  unfold preT at pw
  refine cond_i (fun g => ?_) (fun g => ?_)
  ·have g : ¬ k = 0 := by have := of_decide_eq_true g; omega
   rw [if_neg g] at pw
   refine ⟨by rw [sz_one]; omega, ⟨by omega, by omega⟩, by decide, by decide, by decide, ⟨numsP_gen [_, _, _, _, _], by simp, in5 b⟩, by rw [ByteArray.size_append, sz_one]; omega, lt_i fun x hx => ?_⟩
   rw [wi (by omega)] at hx
   subst hx
   exact ⟨_, _, rfl, q, by omega, by omega, by omega, pw⟩
  ·have g : k = 0 := by have := of_decide_eq_false g; omega
   subst g
   rw [if_pos rfl] at pw
   refine ⟨⟨by omega, by omega⟩, by decide, by decide, by decide, ⟨numsP_gen [_, _, _, _, _], by simp, in5 b⟩, by omega, lt_i fun x hx => ?_⟩
   rw [wi (by omega)] at hx
   subst hx
   exact ⟨_, _, rfl, q, by omega, by omega, by omega, pw⟩
 ·have e : k = l.length := by have := of_decide_eq_false h; omega
  subst e
  rw [List.take_length]
  exact LeD.refl _
theorem zero_ref05_FormatHits_0 (l : List THit) (v0_0 : ByteArray) (v0_1 : Int)  (hi : ((l).length ≤ 14 ∧ ∀ k, k < (l).length → rgH (hitAt l k)) ∧ 0 ≤ v0_1 ∧ v0_1 ≤ l.length ∧ (0 : Int) + v0_1 = l.length + 1 ∧ v0_0 = hitsT (l.take v0_1.toNat)) : False := by
 omega
theorem spec_ref05_FormatHits (l : List THit) (hp : (l).length ≤ 14 ∧ ∀ k, k < (l).length → rgH (hitAt l k)) : vc_ref05_FormatHits (J_ref05_FormatHits l) l (fun r => LeD r (.t (.c (.v (.string (hitsT l)))))) := by
 unfold vc_ref05_FormatHits
 exact ⟨l.length + 1, _, 0, rfl, hp, by omega, by omega, by omega, rfl⟩
theorem all_ref05_FormatHits (l : List THit) (hp : (l).length ≤ 14 ∧ ∀ k, k < (l).length → rgH (hitAt l k)) : AllG (J_ref05_FormatHits l) (loopsFn Tryz.prog tab Skc79 ann_ref05_FormatHits (J_ref05_FormatHits l) Tryz.f14 (fun r => LeD r (.t (.c (.v (.string (hitsT l))))))) := by
 rw [lp_ref05_FormatHits]
 refine ⟨⟨?_, ?_⟩, trivial⟩
 ·intro F s h
  obtain _ | ⟨g, F⟩ := F
  case cons => exact h.elim
  obtain ⟨w0, w1, rfl, hi⟩ := h
  exact zero_ref05_FormatHits_0 l w0 w1 hi
 ·intro n F s h
  obtain _ | ⟨g, F⟩ := F
  case cons => exact h.elim
  obtain ⟨w0, w1, rfl, hi⟩ := h
  rw [er_ref05_FormatHits_0]
  exact rnd_ref05_FormatHits_0 l _ _ _ hp hi
def con_ref05_FormatHits : Con := fun args => match args with
 | [.t (.c (.sl 5 n_l c_l))] => some (.t (.c (.v (.string (hitsT (listC n_l mkHit c_l))))), some (numsP 5 n_l c_l ∧ ((listC n_l mkHit c_l)).length ≤ 14 ∧ ∀ k, k < ((listC n_l mkHit c_l)).length → rgH (hitAt (listC n_l mkHit c_l) k)), false)
 | _ => none
theorem ok_ref05_FormatHits : Ok Tryz.prog 14 con_ref05_FormatHits := by
 refine Ok.fn (ann := ann_ref05_FormatHits) mixed tabOK VSkc79 VIlib (fn := Tryz.f14) (by kernel_rfl) (by kernel_rfl) fit_ref05_FormatHits fun args r pre fresh h hp => ?_
 unfold con_ref05_FormatHits at h
 split at h
 ·rename_i n_l c_l
  cases h
  obtain ⟨hp0, hp⟩ := hp
  refine ⟨rfl, J_ref05_FormatHits (listC n_l mkHit c_l), [.t (.c (.sl 5 ((listC n_l mkHit c_l).length) (hitsC (listC n_l mkHit c_l))))], ?_, Nat.le_of_ble_eq_true (by kernel_rfl), ?_, ?_⟩
  ·exact (LeA_cons (leT_c ((leL_THit hp0))) LeA_nil)
  ·rw [ev_ref05_FormatHits]; exact spec_ref05_FormatHits (listC n_l mkHit c_l) hp
  ·exact all_ref05_FormatHits (listC n_l mkHit c_l) hp
 ·cases h
def Skc80 : Sum := addS Skc79 14 con_ref05_FormatHits
theorem VSkc80 : Valid Tryz.prog Skc80 := Valid.add VSkc79 ok_ref05_FormatHits
def vc_ref05_FormatBox (b0 b1 b2 b3 b4 b5 : Int) (post : DV → Prop) : Prop := (0 ≤ (0 : Int) ∧ (0 : Int) < ((3 : Nat) : Int)) ∧ ((0 ≤ (1 : Int) ∧ (1 : Int) < ((3 : Nat) : Int)) ∧ ((0 ≤ (2 : Int) ∧ (2 : Int) < ((3 : Nat) : Int)) ∧ ((0 ≤ (0 : Int) ∧ (0 : Int) < ((3 : Nat) : Int)) ∧ ((0 ≤ (1 : Int) ∧ (1 : Int) < ((3 : Nat) : Int)) ∧ ((0 ≤ (2 : Int) ∧ (2 : Int) < ((3 : Nat) : Int)) ∧ ((numsP 1 6 (genC [[.v (.int .i64 b0)], [.v (.int .i64 b1)], [.v (.int .i64 b2)], [.v (.int .i64 b3)], [.v (.int .i64 b4)], [.v (.int .i64 b5)]]) ∧ (([b0, b1, b2, b3, b4, b5] : List Int)).length ≤ 100 ∧ (∀ i, i < (([b0, b1, b2, b3, b4, b5] : List Int)).length → -9223372036854775808 ≤ (([b0, b1, b2, b3, b4, b5] : List Int)).getD i 0 ∧ (([b0, b1, b2, b3, b4, b5] : List Int)).getD i 0 ≤ 9223372036854775807)) ∧ (post (.t (.c (.v (.string (wordsB ([b0, b1, b2, b3, b4, b5] : List Int)))))))))))))
def ann_ref05_FormatBox : Ann := ⟨fun _ => none, fun _ => none, fun _ => [], Ilib, false, fun _ => none, fun _ => none⟩
theorem ev_ref05_FormatBox (J : Inv) (b0 b1 b2 b3 b4 b5 : Int) (post : DV → Prop) : evFn Tryz.prog tab Skc80 ann_ref05_FormatBox J Tryz.f15 [.t (.a [.v (.int .i64 b0), .v (.int .i64 b1), .v (.int .i64 b2), .v (.int .i64 b3), .v (.int .i64 b4), .v (.int .i64 b5)])] post = vc_ref05_FormatBox b0 b1 b2 b3 b4 b5 post := by kernel_rfl
theorem fit_ref05_FormatBox : okFn ann_ref05_FormatBox Tryz.f15 = true := by kernel_rfl
theorem lp_ref05_FormatBox (J : Inv) (post : DV → Prop) : AllG J (loopsFn Tryz.prog tab Skc80 ann_ref05_FormatBox J Tryz.f15 post) = (True) := by kernel_rfl
theorem spec_ref05_FormatBox (b0 b1 b2 b3 b4 b5 : Int) (hp : rgB (⟨⟨b0, b1, b2⟩, ⟨b3, b4, b5⟩⟩ : TBox)) : vc_ref05_FormatBox b0 b1 b2 b3 b4 b5 (fun r => LeD r (.t (.c (.v (.string (boxT (⟨⟨b0, b1, b2⟩, ⟨b3, b4, b5⟩⟩ : TBox))))))) := by
 unfold vc_ref05_FormatBox
 exact ⟨by decide, by decide, by decide, by decide, by decide, by decide, ⟨numsP_gen [_, _, _, _, _, _], by simp, in6 (b := (⟨⟨b0, b1, b2⟩, ⟨b3, b4, b5⟩⟩ : TBox)) hp⟩, LeD.refl _⟩
def con_ref05_FormatBox : Con := fun args => match args with
 | [.t (.a [.v (.int .i64 b0), .v (.int .i64 b1), .v (.int .i64 b2), .v (.int .i64 b3), .v (.int .i64 b4), .v (.int .i64 b5)])] => some (.t (.c (.v (.string (boxT (⟨⟨b0, b1, b2⟩, ⟨b3, b4, b5⟩⟩ : TBox))))), some (rgB (⟨⟨b0, b1, b2⟩, ⟨b3, b4, b5⟩⟩ : TBox)), false)
 | _ => none
theorem ok_ref05_FormatBox : Ok Tryz.prog 15 con_ref05_FormatBox := by
 refine Ok.fn (ann := ann_ref05_FormatBox) mixed tabOK VSkc80 VIlib (fn := Tryz.f15) (by kernel_rfl) (by kernel_rfl) fit_ref05_FormatBox fun args r pre fresh h hp => ?_
 unfold con_ref05_FormatBox at h
 split at h
 ·rename_i b0 b1 b2 b3 b4 b5
  cases h
  refine ⟨rfl, fun _ _ _ => False, _, LeA.refl _, Nat.le_of_ble_eq_true (by kernel_rfl), ?_, ?_⟩
  ·rw [ev_ref05_FormatBox]; exact spec_ref05_FormatBox b0 b1 b2 b3 b4 b5 hp
  ·rw [lp_ref05_FormatBox]; trivial
 ·cases h
def Skc81 : Sum := addS Skc80 15 con_ref05_FormatBox
theorem VSkc81 : Valid Tryz.prog Skc81 := Valid.add VSkc80 ok_ref05_FormatBox
def mk_ref05_numbers_0 (tx : ByteArray) (cn : Int) (v0_0 : List Int) (v0_1 : Int) : DS := ⟨[none, none, none, none, none, none, some (.t (.c (.sl 1 ((cutL tx (UInt8.ofNat ((32 : Int)).toNat)).length) (txsC (cutL tx (UInt8.ofNat ((32 : Int)).toNat)))))), some (.t (.c (.os 7))), some (.t (.c (.v (.int .i64 v0_1)))), none, none, none, none, none, none, none, none, none, none, none, none, none, none, none, none, none, none, none, none, none, none, none, none, none, none, none, none, none], [none, none, none, none, none, none, none, some (.num 3 .i64 v0_0), none, none, none, none, none, none, none, none, none, none, none, none, none, none, none, none, none, none, none, none, none, none, none, none, none, none, none, none, none, none]⟩
def vc_ref05_numbers (J : Inv) (tx : ByteArray) (cn : Int) (post : DV → Prop) : Prop := (0 ≤ (32 : Int) ∧ (32 : Int) < 256 ∧ (tx).size ≤ 100000000) ∧ (cond ((((cutL tx (UInt8.ofNat ((32 : Int)).toNat)).length : Nat) : Int) != cn) (post (.tu [.c (.v (.slice none 0 0)), .c (.v (.bool false))])) (∃ n, J 0 (n :: []) (mk_ref05_numbers_0 tx cn ([]) 0)))
def ann_ref05_numbers : Ann := ⟨fun _ => none, fun b => lookA b [(0, (none, some ⟨[6, 8], [], [(7, .num 3 .i64 ([]))]⟩))], fun _ => [], Ilib, true, fun _ => none, fun _ => none⟩
theorem ev_ref05_numbers (J : Inv) (tx : ByteArray) (cn : Int) (post : DV → Prop) : evFn Tryz.prog tab Skc81 ann_ref05_numbers J Tryz.f43 [.t (.c (.v (.string tx))), .t (.c (.v (.int .i64 cn)))] post = vc_ref05_numbers J tx cn post := by kernel_rfl
theorem fit_ref05_numbers : okFn ann_ref05_numbers Tryz.f43 = true := by kernel_rfl
def rd_ref05_numbers_0 (J : Inv) (tx : ByteArray) (cn : Int) (v0_0 : List Int) (v0_1 : Int) (nn0 : Nat) (post : DV → Prop) : Prop := cond (decide (v0_1 < (((cutL tx (UInt8.ofNat ((32 : Int)).toNat)).length : Nat) : Int))) ((0 ≤ v0_1 ∧ v0_1 < (((cutL tx (UInt8.ofNat ((32 : Int)).toNat)).length : Nat) : Int)) ∧ ((0 ≤ (5 : Int) ∧ (5 : Int) ≤ 17 ∧ ((txAt (cutL tx (UInt8.ofNat ((32 : Int)).toNat)) v0_1.toNat)).size ≤ 100000000) ∧ (cond (!((numR ((txAt (cutL tx (UInt8.ofNat ((32 : Int)).toNat)) v0_1.toNat)).data.toList ((5 : Int)).toNat).isSome)) (post (.tu [.c (.v (.slice none 0 0)), .c (.v (.bool false))])) (((IntKind.i64 = IntKind.i64 ∧ True) ∧ roomP 8 (v0_0.length + ([(numR ((txAt (cutL tx (UInt8.ofNat ((32 : Int)).toNat)) v0_1.toNat)).data.toList ((5 : Int)).toNat).getD 0] : List Int).length)) ∧ (lt (IntKind.i64.wrap (v0_1 + (1 : Int))) fun x1 => J 0 (nn0 :: []) (mk_ref05_numbers_0 tx cn (v0_0 ++ ([(numR ((txAt (cutL tx (UInt8.ofNat ((32 : Int)).toNat)) v0_1.toNat)).data.toList ((5 : Int)).toNat).getD 0])) x1)))))) (post (.tu [.c (.sl 1 v0_0.length (numsC .i64 v0_0)), .c (.v (.bool true))]))
theorem er_ref05_numbers_0 (J : Inv) (tx : ByteArray) (cn : Int) (v0_0 : List Int) (v0_1 : Int) (nn0 : Nat) (post : DV → Prop) : round Tryz.prog tab Skc81 ann_ref05_numbers J Tryz.f43 post 0 (nn0 :: []) (mk_ref05_numbers_0 tx cn v0_0 v0_1) = rd_ref05_numbers_0 J tx cn v0_0 v0_1 nn0 post := by kernel_rfl
theorem lp_ref05_numbers (J : Inv) (post : DV → Prop) : AllG J (loopsFn Tryz.prog tab Skc81 ann_ref05_numbers J Tryz.f43 post) = (((∀ F s, ¬ J 0 (0 :: F) s) ∧ ∀ n F s, J 0 ((n + 1) :: F) s → round Tryz.prog tab Skc81 ann_ref05_numbers J Tryz.f43 post 0 (n :: F) s) ∧ True) := by kernel_rfl
def J_ref05_numbers (tx : ByteArray) (cn : Int) : Inv := fun b F s => match b, F with
 | 0, [nn0] => ∃ (v0_0 : List Int) (v0_1 : Int), s = mk_ref05_numbers_0 tx cn v0_0 v0_1 ∧ ((tx.size ≤ 100000000 ∧ 0 ≤ cn ∧ (nPc 32 tx : Int) = cn) ∧ 0 ≤ v0_1 ∧ v0_1 ≤ cn ∧ (nn0 : Int) + v0_1 = cn + 1 ∧ v0_0 = valsW tx 5 v0_1.toNat ∧ okTo tx cn.toNat v0_1.toNat = true)
 | _, _ => False
theorem rnd_ref05_numbers_0 (tx : ByteArray) (cn : Int) (v0_0 : List Int) (v0_1 : Int) (nn0 : Nat) (hp : (tx).size ≤ 100000000 ∧ 0 ≤ cn) (hi : (tx.size ≤ 100000000 ∧ 0 ≤ cn ∧ (nPc 32 tx : Int) = cn) ∧ 0 ≤ v0_1 ∧ v0_1 ≤ cn ∧ ((nn0 + 1) : Int) + v0_1 = cn + 1 ∧ v0_0 = valsW tx 5 v0_1.toNat ∧ okTo tx cn.toNat v0_1.toNat = true) : rd_ref05_numbers_0 (J_ref05_numbers tx cn) tx cn v0_0 v0_1 nn0 (fun r => LeD r (.tu [.c (.sl 1 ((nmL tx (cn).toNat).length) (intsC (nmL tx (cn).toNat))), .c (.v (.bool (okTo tx (cn).toNat (cn).toNat)))])) := by
 obtain ⟨⟨q1, q2, q3⟩, i1, i2, i3, i4, i5⟩ := hi
 obtain ⟨n, rfl⟩ : ∃ n : Nat, cn = n := ⟨cn.toNat, by omega⟩
 obtain ⟨k, rfl⟩ : ∃ k : Nat, v0_1 = k := ⟨v0_1.toNat, by omega⟩
 have hk : (k : Int).toNat = k := rfl
 rw [hk] at i4 i5
 rw [Int.toNat_natCast] at i5
 subst i4
 have np := nPc_le 32 tx
 unfold rd_ref05_numbers_0
 rw [show (UInt8.ofNat ((32 : Int)).toNat) = 32 from rfl, Int.toNat_natCast, Int.toNat_natCast, cutL_len, show ((5 : Int)).toNat = 5 from rfl]
 refine cond_i (fun h => ?_) (fun h => ?_)
 ·have hlt : k < nPc 32 tx := by have := of_decide_eq_true h; omega
  rw [cutL_at hlt, ofL_data]
  refine ⟨⟨by omega, by omega⟩, ⟨by decide, by decide, by rw [ofL_size]; exact Nat.le_trans wAt_len (by omega)⟩, cond_i (fun g => ?_) (fun g => ⟨⟨⟨rfl, trivial⟩, by simp [roomP, maxLen, valsW_len]; omega⟩, lt_i fun x hx => ?_⟩)⟩
  ·have g : (numR (wAt 32 tx k) 5).isSome = false := by simpa using g
   have e : okTo tx n n = false := okTo_mono (j := k + 1) (by rw [okTo_succ, i5, g]; rfl) (by omega)
   rw [show nmL tx n = [] from if_neg (by rw [e]; simp), e]
   exact le_tu le_nil (LeD.refl _)
  ·have g : (numR (wAt 32 tx k) 5).isSome = true := by simpa using g
   rw [wi (by omega)] at hx
   subst hx
   refine ⟨_, _, rfl, ⟨q1, q2, q3⟩, by omega, by omega, by omega, ?_, ?_⟩
   ·rw [show ((k : Int) + 1).toNat = k + 1 from rfl, valsW_succ]; rfl
   ·rw [show ((k : Int) + 1).toNat = k + 1 from rfl, Int.toNat_natCast, okTo_succ, i5, g]; rfl
 ·have e : k = n := by have := of_decide_eq_false h; omega
  subst e
  rw [show nmL tx k = valsW tx 5 k from if_pos i5, i5]
  exact le_tu (leT_c (leC_num _)) (LeD.refl _)
theorem zero_ref05_numbers_0 (tx : ByteArray) (cn : Int) (v0_0 : List Int) (v0_1 : Int)  (hi : (tx.size ≤ 100000000 ∧ 0 ≤ cn ∧ (nPc 32 tx : Int) = cn) ∧ 0 ≤ v0_1 ∧ v0_1 ≤ cn ∧ (0 : Int) + v0_1 = cn + 1 ∧ v0_0 = valsW tx 5 v0_1.toNat ∧ okTo tx cn.toNat v0_1.toNat = true) : False := by
 omega
theorem spec_ref05_numbers (tx : ByteArray) (cn : Int) (hp : (tx).size ≤ 100000000 ∧ 0 ≤ cn) : vc_ref05_numbers (J_ref05_numbers tx cn) tx cn (fun r => LeD r (.tu [.c (.sl 1 ((nmL tx (cn).toNat).length) (intsC (nmL tx (cn).toNat))), .c (.v (.bool (okTo tx (cn).toNat (cn).toNat)))])) := by
  obtain ⟨n, rfl⟩ : ∃ n : Nat, cn = n := ⟨cn.toNat, by omega⟩
  unfold vc_ref05_numbers
  rw [show (UInt8.ofNat ((32 : Int)).toNat) = 32 from rfl, cutL_len, Int.toNat_natCast]
  refine ⟨⟨by decide, by decide, by omega⟩, cond_i (fun h => ?_) (fun h => ?_)⟩
  · have h7 : nPc 32 tx ≠ n := fun e => by rw [e] at h; simp at h
    rw [show nmL tx n = [] from if_neg (by rw [okTo_no h7]; simp), okTo_no h7]
    exact le_tu le_nil (LeD.refl _)
  · have h7 : nPc 32 tx = n := by have h : ((nPc 32 tx : Nat) : Int) = n := by simpa using h
                                  omega
    exact ⟨n + 1, _, 0, rfl, ⟨by omega, by omega, by omega⟩, by omega, by omega, by omega, rfl, okTo_zero h7⟩
theorem all_ref05_numbers (tx : ByteArray) (cn : Int) (hp : (tx).size ≤ 100000000 ∧ 0 ≤ cn) : AllG (J_ref05_numbers tx cn) (loopsFn Tryz.prog tab Skc81 ann_ref05_numbers (J_ref05_numbers tx cn) Tryz.f43 (fun r => LeD r (.tu [.c (.sl 1 ((nmL tx (cn).toNat).length) (intsC (nmL tx (cn).toNat))), .c (.v (.bool (okTo tx (cn).toNat (cn).toNat)))]))) := by
 rw [lp_ref05_numbers]
 refine ⟨⟨?_, ?_⟩, trivial⟩
 ·intro F s h
  obtain _ | ⟨g, F⟩ := F
  case cons => exact h.elim
  obtain ⟨w0, w1, rfl, hi⟩ := h
  exact zero_ref05_numbers_0 tx cn w0 w1 hi
 ·intro n F s h
  obtain _ | ⟨g, F⟩ := F
  case cons => exact h.elim
  obtain ⟨w0, w1, rfl, hi⟩ := h
  rw [er_ref05_numbers_0]
  exact rnd_ref05_numbers_0 tx cn _ _ _ hp hi
def con_ref05_numbers : Con := fun args => match args with
 | [.t (.c (.v (.string tx))), .t (.c (.v (.int .i64 cn)))] => some (.tu [.c (.sl 1 ((nmL tx (cn).toNat).length) (intsC (nmL tx (cn).toNat))), .c (.v (.bool (okTo tx (cn).toNat (cn).toNat)))], some ((tx).size ≤ 100000000 ∧ 0 ≤ cn), true)
 | _ => none
theorem ok_ref05_numbers : Ok Tryz.prog 43 con_ref05_numbers := by
 refine Ok.fnFr (ann := ann_ref05_numbers) mixed tabOK VSkc81 VIlib rfl (fn := Tryz.f43) (by kernel_rfl) (by kernel_rfl) fit_ref05_numbers fun args r pre fresh h hp => ?_
 unfold con_ref05_numbers at h
 split at h
 ·rename_i tx cn
  cases h
  refine ⟨rfl, (by intro x hx; simp only [List.mem_cons, List.not_mem_nil, or_false] at hx; rcases hx with rfl | rfl; exact (fun i j _ hj => plain_int _ i j); exact trivial), J_ref05_numbers tx cn, _, LeA.refl _, Nat.le_of_ble_eq_true (by kernel_rfl), ?_, ?_⟩
  ·rw [ev_ref05_numbers]; exact spec_ref05_numbers tx cn hp
  ·exact all_ref05_numbers tx cn hp
 ·cases h
def Skc82 : Sum := addS Skc81 43 con_ref05_numbers
theorem VSkc82 : Valid Tryz.prog Skc82 := Valid.add VSkc81 ok_ref05_numbers
def mk_ref05_ParseHits_0 (tx : ByteArray) (v0_0 : List (List CV)) (v0_1 : Int) : DS := ⟨[none, none, none, none, some (.t (.c (.os 4))), some (.t (.c (.sl 1 ((cutL tx (UInt8.ofNat ((59 : Int)).toNat)).length) (txsC (cutL tx (UInt8.ofNat ((59 : Int)).toNat)))))), some (.t (.c (.v (.int .i64 v0_1)))), none, none, none, none, none, none, none, none, none, none, none, none, none, none, none, none, none, none, none, none, none, none, none, none, none, none, none, none, none, none, none, none, none, none, none, none, none, none, none, none, none, none, none, none, none, none, none, none, none, none, none, none], [none, none, none, none, some (.gen 57 5 v0_0), none, none, none, none, none, none, none, none, none, none, none, none, none, none, none, none, none, none, none, none, none, none, none, none, none, none, none, none, none, none, none, none, none, none, none, none, none, none, none, none, none, none, none, none, none, none, none, none, none, none, none, none, none, none]⟩
def vc_ref05_ParseHits (J : Inv) (tx : ByteArray) (post : DV → Prop) : Prop := cond (decide ((((tx : ByteArray).size : Nat) : Int) > (60000 : Int))) (post (.tu [.c (.v (.slice none 0 0)), .c (.v (.int .i64 8))])) (cond ((tx : ByteArray).toList == (⟨#[]⟩ : ByteArray).toList) (post (.tu [.c (.v (.slice none 0 0)), .c (.v (.int .i64 0))])) ((0 ≤ (59 : Int) ∧ (59 : Int) < 256 ∧ (tx).size ≤ 100000000) ∧ (∃ n, J 0 (n :: []) (mk_ref05_ParseHits_0 tx ([]) 0))))
def ann_ref05_ParseHits : Ann := ⟨fun r => lookA r [(13, ([[], [], [1], [1, 2], [], [4], [4, 5], [], [7], [7, 8], [1, 2, 3, 4, 5, 6, 7, 8, 9], [], [11], [11, 12], [], [14], [14, 15], [1, 2, 3, 4, 5, 6, 7, 8, 9, 10, 11, 12, 13, 14, 15, 16], [1, 2, 3, 4, 5, 6, 7, 8, 9, 10, 11, 12, 13, 14, 15, 16, 17], [0, 1, 2, 3, 4, 5, 6, 7, 8, 9, 10, 11, 12, 13, 14, 15, 16, 17, 18], [0, 1, 2, 3, 4, 5, 6, 7, 8, 9, 10, 11, 12, 13, 14, 15, 16, 17, 18, 19]], [[51], [51], [51], [51], [51], [51], [51], [51], [51], [51], [51], [51], [51], [51], [51], [51], [51], [51], [], [], []]))], fun b => lookA b [(0, (none, some ⟨[5, 6], [], [(4, .gen 57 5 [])]⟩))], fun _ => [], Ilib, false, fun _ => none, fun _ => none⟩
theorem ev_ref05_ParseHits (J : Inv) (tx : ByteArray) (post : DV → Prop) : evFn Tryz.prog tab Skc82 ann_ref05_ParseHits J Tryz.f12 [.t (.c (.v (.string tx)))] post = vc_ref05_ParseHits J tx post := by kernel_rfl
theorem fit_ref05_ParseHits : okFn ann_ref05_ParseHits Tryz.f12 = true := by kernel_rfl
def rd_ref05_ParseHits_0 (J : Inv) (tx : ByteArray) (v0_0 : List (List CV)) (v0_1 : Int) (nn0 : Nat) (post : DV → Prop) : Prop := cond (decide (v0_1 < (((cutL tx (UInt8.ofNat ((59 : Int)).toNat)).length : Nat) : Int))) ((0 ≤ v0_1 ∧ v0_1 < (((cutL tx (UInt8.ofNat ((59 : Int)).toNat)).length : Nat) : Int)) ∧ ((((txAt (cutL tx (UInt8.ofNat ((59 : Int)).toNat)) v0_1.toNat)).size ≤ 100000000 ∧ 0 ≤ (5 : Int)) ∧ (cond (!(okTo (txAt (cutL tx (UInt8.ofNat ((59 : Int)).toNat)) v0_1.toNat) ((5 : Int)).toNat ((5 : Int)).toNat)) (post (.tu [.c (.v (.slice none 0 0)), .c (.v (.int .i64 7))])) ((0 ≤ (0 : Int) ∧ (0 : Int) < (((nmL (txAt (cutL tx (UInt8.ofNat ((59 : Int)).toNat)) v0_1.toNat) ((5 : Int)).toNat).length : Nat) : Int)) ∧ ((0 ≤ (1 : Int) ∧ (1 : Int) < (((nmL (txAt (cutL tx (UInt8.ofNat ((59 : Int)).toNat)) v0_1.toNat) ((5 : Int)).toNat).length : Nat) : Int)) ∧ ((0 ≤ (2 : Int) ∧ (2 : Int) < (((nmL (txAt (cutL tx (UInt8.ofNat ((59 : Int)).toNat)) v0_1.toNat) ((5 : Int)).toNat).length : Nat) : Int)) ∧ ((0 ≤ (3 : Int) ∧ (3 : Int) < (((nmL (txAt (cutL tx (UInt8.ofNat ((59 : Int)).toNat)) v0_1.toNat) ((5 : Int)).toNat).length : Nat) : Int)) ∧ ((0 ≤ (4 : Int) ∧ (4 : Int) < (((nmL (txAt (cutL tx (UInt8.ofNat ((59 : Int)).toNat)) v0_1.toNat) ((5 : Int)).toNat).length : Nat) : Int)) ∧ ((roomP 40 (v0_0.length + ([[.v (.int .i64 ((nmL (txAt (cutL tx (UInt8.ofNat ((59 : Int)).toNat)) v0_1.toNat) ((5 : Int)).toNat).getD 0 0)), .v (.int .i64 ((nmL (txAt (cutL tx (UInt8.ofNat ((59 : Int)).toNat)) v0_1.toNat) ((5 : Int)).toNat).getD 1 0)), .v (.int .i64 ((nmL (txAt (cutL tx (UInt8.ofNat ((59 : Int)).toNat)) v0_1.toNat) ((5 : Int)).toNat).getD 2 0)), .v (.int .i64 ((nmL (txAt (cutL tx (UInt8.ofNat ((59 : Int)).toNat)) v0_1.toNat) ((5 : Int)).toNat).getD 3 0)), .v (.int .i64 ((nmL (txAt (cutL tx (UInt8.ofNat ((59 : Int)).toNat)) v0_1.toNat) ((5 : Int)).toNat).getD 4 0))]] : List (List CV)).length)) ∧ (lt (IntKind.i64.wrap (v0_1 + (1 : Int))) fun x1 => J 0 (nn0 :: []) (mk_ref05_ParseHits_0 tx (v0_0 ++ ([[.v (.int .i64 ((nmL (txAt (cutL tx (UInt8.ofNat ((59 : Int)).toNat)) v0_1.toNat) ((5 : Int)).toNat).getD 0 0)), .v (.int .i64 ((nmL (txAt (cutL tx (UInt8.ofNat ((59 : Int)).toNat)) v0_1.toNat) ((5 : Int)).toNat).getD 1 0)), .v (.int .i64 ((nmL (txAt (cutL tx (UInt8.ofNat ((59 : Int)).toNat)) v0_1.toNat) ((5 : Int)).toNat).getD 2 0)), .v (.int .i64 ((nmL (txAt (cutL tx (UInt8.ofNat ((59 : Int)).toNat)) v0_1.toNat) ((5 : Int)).toNat).getD 3 0)), .v (.int .i64 ((nmL (txAt (cutL tx (UInt8.ofNat ((59 : Int)).toNat)) v0_1.toNat) ((5 : Int)).toNat).getD 4 0))]] : List (List CV))) x1))))))))))) ((numsP 5 v0_0.length (genC v0_0)) ∧ (cond ((hitsE (listC v0_0.length mkHit (genC v0_0))) != (0 : Int)) (post (.tu [.c (.v (.slice none 0 0)), .c (.v (.int .i64 (hitsE (listC v0_0.length mkHit (genC v0_0)))))])) (post (.tu [.c (.sl 5 v0_0.length (genC v0_0)), .c (.v (.int .i64 0))]))))
theorem er_ref05_ParseHits_0 (J : Inv) (tx : ByteArray) (v0_0 : List (List CV)) (v0_1 : Int) (nn0 : Nat) (post : DV → Prop) : round Tryz.prog tab Skc82 ann_ref05_ParseHits J Tryz.f12 post 0 (nn0 :: []) (mk_ref05_ParseHits_0 tx v0_0 v0_1) = rd_ref05_ParseHits_0 J tx v0_0 v0_1 nn0 post := by kernel_rfl
theorem lp_ref05_ParseHits (J : Inv) (post : DV → Prop) : AllG J (loopsFn Tryz.prog tab Skc82 ann_ref05_ParseHits J Tryz.f12 post) = (((∀ F s, ¬ J 0 (0 :: F) s) ∧ ∀ n F s, J 0 ((n + 1) :: F) s → round Tryz.prog tab Skc82 ann_ref05_ParseHits J Tryz.f12 post 0 (n :: F) s) ∧ True) := by kernel_rfl
def J_ref05_ParseHits (tx : ByteArray) : Inv := fun b F s => match b, F with
 | 0, [nn0] => ∃ (v0_0 : List (List CV)) (v0_1 : Int), s = mk_ref05_ParseHits_0 tx v0_0 v0_1 ∧ (tx.size ≤ 60000 ∧ tx.size ≠ 0 ∧ 0 ≤ v0_1 ∧ v0_1 ≤ nPc 59 tx ∧ (nn0 : Int) + v0_1 = nPc 59 tx + 1 ∧ v0_0 = (hsK tx v0_1.toNat).map hitCv ∧ ∀ j, j < v0_1.toNat → hitB (partB tx j) = true)
 | _, _ => False
theorem rnd_ref05_ParseHits_0 (tx : ByteArray) (v0_0 : List (List CV)) (v0_1 : Int) (nn0 : Nat) (hp : (tx).size ≤ 100000000) (hi : tx.size ≤ 60000 ∧ tx.size ≠ 0 ∧ 0 ≤ v0_1 ∧ v0_1 ≤ nPc 59 tx ∧ ((nn0 + 1) : Int) + v0_1 = nPc 59 tx + 1 ∧ v0_0 = (hsK tx v0_1.toNat).map hitCv ∧ ∀ j, j < v0_1.toNat → hitB (partB tx j) = true) : rd_ref05_ParseHits_0 (J_ref05_ParseHits tx) tx v0_0 v0_1 nn0 (fun r => LeD r (.tu [.c (.sl 5 ((phL tx).length) (hitsC (phL tx))), .c (.v (.int .i64 (phE tx)))])) := by
 obtain ⟨q, q0, i1, i2, i3, i4, i5⟩ := hi
 obtain ⟨k, rfl⟩ : ∃ k : Nat, v0_1 = k := ⟨v0_1.toNat, by omega⟩
 have hk : (k : Int).toNat = k := rfl
 rw [hk] at i4 i5
 subst i4
 have np := nPc_le 59 tx
 unfold rd_ref05_ParseHits_0
 rw [show (UInt8.ofNat ((59 : Int)).toNat) = 59 from rfl, Int.toNat_natCast, cutL_len, show ((5 : Int)).toNat = 5 from rfl, hitg_listC]
 refine cond_i (fun h => ?_) (fun h => ?_)
 ·have hlt : k < nPc 59 tx := by have := of_decide_eq_true h; omega
  rw [cutL_at hlt, show ofL (wAt 59 tx k) = partB tx k from rfl]
  refine ⟨⟨by omega, by omega⟩, ⟨Nat.le_trans partB_size (by omega), by decide⟩, cond_i (fun g => ?_) (fun g => ?_)⟩
  ·have g : hitB (partB tx k) = false := by unfold hitB; simpa using g
   obtain ⟨e1, e2⟩ := phE_syn q q0 (synH_no hlt g)
   rw [e1, e2]
   exact le_tu le_nil (LeD.refl _)
  ·have g : okTo (partB tx k) 5 5 = true := by simpa using g
   have ln : (nmL (partB tx k) 5).length = 5 := by rw [nm_ok g, valsW_len]
   rw [nm_at g (show 0 < 5 by decide), nm_at g (show 1 < 5 by decide), nm_at g (show 2 < 5 by decide), nm_at g (show 3 < 5 by decide), nm_at g (show 4 < 5 by decide), ln]
   refine ⟨by decide, by decide, by decide, by decide, by decide, by simp [roomP, maxLen, hsK_len]; omega, lt_i fun x hx => ?_⟩
   rw [wi (by omega)] at hx
   subst hx
   refine ⟨_, _, rfl, q, q0, by omega, by omega, by omega, ?_, fun j hj => ?_⟩
   ·rw [show ((k : Int) + 1).toNat = k + 1 from rfl, hsK_succ, List.map_append]
    rfl
   ·rw [show ((k : Int) + 1).toNat = k + 1 from rfl] at hj
    rcases (by omega : j < k ∨ j = k) with c | rfl
    ·exact i5 j c
    ·exact g
 ·have ek : k = nPc 59 tx := by have := of_decide_eq_false h; omega
  subst ek
  have e : phE tx = hitsE (hsK tx (nPc 59 tx)) := phE_ok q q0 (synH_yes i5)
  rw [← e]
  refine ⟨numsP_hitg _, cond_i (fun g => ?_) (fun g => ?_)⟩
  ·have g : phE tx ≠ 0 := by simpa using g
   rw [phL_no g]
   exact le_tu le_nil (LeD.refl _)
  ·have g : phE tx = 0 := by simpa using g
   rw [phL_ok q0 g, g]
   exact le_tu (le_hits _) (LeD.refl _)
theorem zero_ref05_ParseHits_0 (tx : ByteArray) (v0_0 : List (List CV)) (v0_1 : Int)  (hi : tx.size ≤ 60000 ∧ tx.size ≠ 0 ∧ 0 ≤ v0_1 ∧ v0_1 ≤ nPc 59 tx ∧ (0 : Int) + v0_1 = nPc 59 tx + 1 ∧ v0_0 = (hsK tx v0_1.toNat).map hitCv ∧ ∀ j, j < v0_1.toNat → hitB (partB tx j) = true) : False := by
 omega
theorem spec_ref05_ParseHits (tx : ByteArray) (hp : (tx).size ≤ 100000000) : vc_ref05_ParseHits (J_ref05_ParseHits tx) tx (fun r => LeD r (.tu [.c (.sl 5 ((phL tx).length) (hitsC (phL tx))), .c (.v (.int .i64 (phE tx)))])) := by
 unfold vc_ref05_ParseHits
 rw [beq_txt]
 refine cond_i (fun h => ?_) (fun h => cond_i (fun h0 => ?_) (fun h0 => ?_))
 ·have h := of_decide_eq_true h
  have e : phE tx = 8 := if_pos (by omega)
  rw [phL_no (by rw [e]; decide), e]
  exact le_tu le_nil (LeD.refl _)
 ·have h0 : tx = ⟨#[]⟩ := of_decide_eq_true h0
  subst h0
  exact le_tu le_nil (LeD.refl _)
 ·have h := of_decide_eq_false h
  have h0 := of_decide_eq_false h0
  exact ⟨⟨by decide, by decide, by omega⟩, nPc 59 tx + 1, _, 0, rfl, by omega, sz_ne h0, by omega, by omega, by omega, rfl, fun j hj => absurd hj (Nat.not_lt_zero _)⟩
theorem all_ref05_ParseHits (tx : ByteArray) (hp : (tx).size ≤ 100000000) : AllG (J_ref05_ParseHits tx) (loopsFn Tryz.prog tab Skc82 ann_ref05_ParseHits (J_ref05_ParseHits tx) Tryz.f12 (fun r => LeD r (.tu [.c (.sl 5 ((phL tx).length) (hitsC (phL tx))), .c (.v (.int .i64 (phE tx)))]))) := by
 rw [lp_ref05_ParseHits]
 refine ⟨⟨?_, ?_⟩, trivial⟩
 ·intro F s h
  obtain _ | ⟨g, F⟩ := F
  case cons => exact h.elim
  obtain ⟨w0, w1, rfl, hi⟩ := h
  exact zero_ref05_ParseHits_0 tx w0 w1 hi
 ·intro n F s h
  obtain _ | ⟨g, F⟩ := F
  case cons => exact h.elim
  obtain ⟨w0, w1, rfl, hi⟩ := h
  rw [er_ref05_ParseHits_0]
  exact rnd_ref05_ParseHits_0 tx _ _ _ hp hi
def con_ref05_ParseHits : Con := fun args => match args with
 | [.t (.c (.v (.string tx)))] => some (.tu [.c (.sl 5 ((phL tx).length) (hitsC (phL tx))), .c (.v (.int .i64 (phE tx)))], some ((tx).size ≤ 100000000), false)
 | _ => none
theorem ok_ref05_ParseHits : Ok Tryz.prog 12 con_ref05_ParseHits := by
 refine Ok.fn (ann := ann_ref05_ParseHits) mixed tabOK VSkc82 VIlib (fn := Tryz.f12) (by kernel_rfl) (by kernel_rfl) fit_ref05_ParseHits fun args r pre fresh h hp => ?_
 unfold con_ref05_ParseHits at h
 split at h
 ·rename_i tx
  cases h
  refine ⟨rfl, J_ref05_ParseHits tx, _, LeA.refl _, Nat.le_of_ble_eq_true (by kernel_rfl), ?_, ?_⟩
  ·rw [ev_ref05_ParseHits]; exact spec_ref05_ParseHits tx hp
  ·exact all_ref05_ParseHits tx hp
 ·cases h
def Skc83 : Sum := addS Skc82 12 con_ref05_ParseHits
theorem VSkc83 : Valid Tryz.prog Skc83 := Valid.add VSkc82 ok_ref05_ParseHits
def vc_ref05_ParseBox (tx : ByteArray) (post : DV → Prop) : Prop := ((tx).size ≤ 100000000 ∧ 0 ≤ (6 : Int)) ∧ (cond (!(okTo tx ((6 : Int)).toNat ((6 : Int)).toNat)) (post (.tu [.a [.v (.int .i64 0), .v (.int .i64 0), .v (.int .i64 0), .v (.int .i64 0), .v (.int .i64 0), .v (.int .i64 0)], .c (.v (.int .i64 7))])) ((0 ≤ (0 : Int) ∧ (0 : Int) < (((nmL tx ((6 : Int)).toNat).length : Nat) : Int)) ∧ ((0 ≤ (1 : Int) ∧ (1 : Int) < (((nmL tx ((6 : Int)).toNat).length : Nat) : Int)) ∧ ((0 ≤ (2 : Int) ∧ (2 : Int) < (((nmL tx ((6 : Int)).toNat).length : Nat) : Int)) ∧ ((0 ≤ (3 : Int) ∧ (3 : Int) < (((nmL tx ((6 : Int)).toNat).length : Nat) : Int)) ∧ ((0 ≤ (4 : Int) ∧ (4 : Int) < (((nmL tx ((6 : Int)).toNat).length : Nat) : Int)) ∧ ((0 ≤ (5 : Int) ∧ (5 : Int) < (((nmL tx ((6 : Int)).toNat).length : Nat) : Int)) ∧ (cond ((((⟨⟨((nmL tx ((6 : Int)).toNat).getD 0 0), ((nmL tx ((6 : Int)).toNat).getD 1 0), ((nmL tx ((6 : Int)).toNat).getD 2 0)⟩, ⟨((nmL tx ((6 : Int)).toNat).getD 3 0), ((nmL tx ((6 : Int)).toNat).getD 4 0), ((nmL tx ((6 : Int)).toNat).getD 5 0)⟩⟩ : TBox)).err) != (0 : Int)) (post (.tu [.a [.v (.int .i64 0), .v (.int .i64 0), .v (.int .i64 0), .v (.int .i64 0), .v (.int .i64 0), .v (.int .i64 0)], .c (.v (.int .i64 (((⟨⟨((nmL tx ((6 : Int)).toNat).getD 0 0), ((nmL tx ((6 : Int)).toNat).getD 1 0), ((nmL tx ((6 : Int)).toNat).getD 2 0)⟩, ⟨((nmL tx ((6 : Int)).toNat).getD 3 0), ((nmL tx ((6 : Int)).toNat).getD 4 0), ((nmL tx ((6 : Int)).toNat).getD 5 0)⟩⟩ : TBox)).err)))])) (post (.tu [.a [.v (.int .i64 ((nmL tx ((6 : Int)).toNat).getD 0 0)), .v (.int .i64 ((nmL tx ((6 : Int)).toNat).getD 1 0)), .v (.int .i64 ((nmL tx ((6 : Int)).toNat).getD 2 0)), .v (.int .i64 ((nmL tx ((6 : Int)).toNat).getD 3 0)), .v (.int .i64 ((nmL tx ((6 : Int)).toNat).getD 4 0)), .v (.int .i64 ((nmL tx ((6 : Int)).toNat).getD 5 0))], .c (.v (.int .i64 0))]))))))))))
def ann_ref05_ParseBox : Ann := ⟨fun r => lookA r [(4, ([[], [0], [0, 1], [], [3], [3, 4], [], [6], [6, 7], [0, 1, 2, 3, 4, 5, 6, 7, 8], [], [10], [10, 11], [], [13], [13, 14], [], [16], [16, 17], [10, 11, 12, 13, 14, 15, 16, 17, 18], [0, 1, 2, 3, 4, 5, 6, 7, 8, 9, 10, 11, 12, 13, 14, 15, 16, 17, 18, 19], [], [0, 1, 2, 3, 4, 5, 6, 7, 8, 9, 10, 11, 12, 13, 14, 15, 16, 17, 18, 19, 20, 21]], [[6], [6], [6], [6], [6], [6], [6], [6], [6], [6], [6], [6], [6], [6], [6], [6], [6], [6], [6], [6], [6], [], []]))], fun _ => none, fun _ => [], Ilib, false, fun _ => none, fun _ => none⟩
theorem ev_ref05_ParseBox (J : Inv) (tx : ByteArray) (post : DV → Prop) : evFn Tryz.prog tab Skc83 ann_ref05_ParseBox J Tryz.f13 [.t (.c (.v (.string tx)))] post = vc_ref05_ParseBox tx post := by kernel_rfl
theorem fit_ref05_ParseBox : okFn ann_ref05_ParseBox Tryz.f13 = true := by kernel_rfl
theorem lp_ref05_ParseBox (J : Inv) (post : DV → Prop) : AllG J (loopsFn Tryz.prog tab Skc83 ann_ref05_ParseBox J Tryz.f13 post) = (True) := by kernel_rfl
theorem spec_ref05_ParseBox (tx : ByteArray) (hp : (tx).size ≤ 100000000) : vc_ref05_ParseBox tx (fun r => LeD r (.tu [.a [.v (.int .i64 ((pbX tx).lo.x)), .v (.int .i64 ((pbX tx).lo.y)), .v (.int .i64 ((pbX tx).lo.z)), .v (.int .i64 ((pbX tx).hi.x)), .v (.int .i64 ((pbX tx).hi.y)), .v (.int .i64 ((pbX tx).hi.z))], .c (.v (.int .i64 (pbE tx)))])) := by
 unfold vc_ref05_ParseBox
 rw [show ((6 : Int)).toNat = 6 from rfl]
 refine ⟨⟨hp, by decide⟩, cond_i (fun g => ?_) (fun g => ?_)⟩
 ·obtain ⟨e1, e2⟩ := pb_syn (s := tx) (by unfold boxB; simpa using g)
  rw [e1, e2]
  exact LeD.refl _
 ·have g : okTo tx 6 6 = true := by simpa using g
  have ln : (nmL tx 6).length = 6 := by rw [nm_ok g, valsW_len]
  rw [nm_at g (show 0 < 6 by decide), nm_at g (show 1 < 6 by decide), nm_at g (show 2 < 6 by decide), nm_at g (show 3 < 6 by decide), nm_at g (show 4 < 6 by decide), nm_at g (show 5 < 6 by decide), ln]
  rw [show (⟨⟨valW tx 5 0, valW tx 5 1, valW tx 5 2⟩, ⟨valW tx 5 3, valW tx 5 4, valW tx 5 5⟩⟩ : TBox).err = pbE tx from (pb_ok g).symm]
  refine ⟨by decide, by decide, by decide, by decide, by decide, by decide, cond_i (fun h => ?_) (fun h => ?_)⟩
  ·rw [pbX_no (by simpa using h)]
   exact LeD.refl _
  ·have h : pbE tx = 0 := by simpa using h
   rw [pbX_yes h, h]
   exact LeD.refl _
def con_ref05_ParseBox : Con := fun args => match args with
 | [.t (.c (.v (.string tx)))] => some (.tu [.a [.v (.int .i64 ((pbX tx).lo.x)), .v (.int .i64 ((pbX tx).lo.y)), .v (.int .i64 ((pbX tx).lo.z)), .v (.int .i64 ((pbX tx).hi.x)), .v (.int .i64 ((pbX tx).hi.y)), .v (.int .i64 ((pbX tx).hi.z))], .c (.v (.int .i64 (pbE tx)))], some ((tx).size ≤ 100000000), false)
 | _ => none
theorem ok_ref05_ParseBox : Ok Tryz.prog 13 con_ref05_ParseBox := by
 refine Ok.fn (ann := ann_ref05_ParseBox) mixed tabOK VSkc83 VIlib (fn := Tryz.f13) (by kernel_rfl) (by kernel_rfl) fit_ref05_ParseBox fun args r pre fresh h hp => ?_
 unfold con_ref05_ParseBox at h
 split at h
 ·rename_i tx
  cases h
  refine ⟨rfl, fun _ _ _ => False, _, LeA.refl _, Nat.le_of_ble_eq_true (by kernel_rfl), ?_, ?_⟩
  ·rw [ev_ref05_ParseBox]; exact spec_ref05_ParseBox tx hp
  ·rw [lp_ref05_ParseBox]; trivial
 ·cases h
def Skc84 : Sum := addS Skc83 13 con_ref05_ParseBox
theorem VSkc84 : Valid Tryz.prog Skc84 := Valid.add VSkc83 ok_ref05_ParseBox
end Go.Proofs.YtfadkjcfjkmalaaGreatDoor
set_option linter.unusedVariables false
set_option linter.unusedSimpArgs false
namespace Go.Proofs.YtfadkjcfjkmalaaGreatDoor
open Go.RowKit Ev
def vc_law05_TrackStrings (l : List THit) (b0 b1 b2 b3 b4 b5 : Int) (tx : ByteArray) (post : DV → Prop) : Prop := (numsP 5 l.length (hitsC l)) ∧ ((cond (!(decide (((listC l.length mkHit (hitsC l))).length ≤ 14))) ((true = true) ∧ ((true = true) ∧ (True))) (cond (decide ((((tx : ByteArray).size : Nat) : Int) > (300 : Int))) (cond (decide ((((tx : ByteArray).size : Nat) : Int) ≤ (60000 : Int))) ((true = true) ∧ (True)) (True)) ((false = false) ∧ (True)))) ∧ (lt ((bif (!(decide (((listC l.length mkHit (hitsC l))).length ≤ 14))) then true else (bif decide ((((tx : ByteArray).size : Nat) : Int) > (300 : Int)) then (bif decide ((((tx : ByteArray).size : Nat) : Int) ≤ (60000 : Int)) then true else decide ((((tx : ByteArray).size : Nat) : Int) > (60010 : Int))) else decide ((((tx : ByteArray).size : Nat) : Int) > (60010 : Int))))) fun x1 => cond x1 (post (.t (.c (.v (.bool true))))) ((numsP 5 l.length (hitsC l) ∧ ((listC l.length mkHit (hitsC l))).length ≤ 1000000) ∧ ((numsP 5 ((listC l.length mkHit (hitsC l)).length) (hitsC (listC l.length mkHit (hitsC l))) ∧ ((listC ((listC l.length mkHit (hitsC l)).length) mkHit (hitsC (listC l.length mkHit (hitsC l))))).length ≤ 14 ∧ ∀ k, k < ((listC ((listC l.length mkHit (hitsC l)).length) mkHit (hitsC (listC l.length mkHit (hitsC l))))).length → rgH (hitAt (listC ((listC l.length mkHit (hitsC l)).length) mkHit (hitsC (listC l.length mkHit (hitsC l)))) k)) ∧ ((rgB (⟨⟨b0, b1, b2⟩, ⟨b3, b4, b5⟩⟩ : TBox)) ∧ (((tx).size ≤ 100000000) ∧ (((tx).size ≤ 100000000) ∧ (((tx).size ≤ 100000000) ∧ (((tx).size ≤ 100000000) ∧ ((numsP 5 l.length (hitsC l) ∧ ((listC l.length mkHit (hitsC l))).length ≤ 14 ∧ ∀ k, k < ((listC l.length mkHit (hitsC l))).length → rgH (hitAt (listC l.length mkHit (hitsC l)) k)) ∧ ((cond (!(((hitsT (listC ((listC l.length mkHit (hitsC l)).length) mkHit (hitsC (listC l.length mkHit (hitsC l))))) : ByteArray).toList == ((hitsT (listC l.length mkHit (hitsC l))) : ByteArray).toList)) ((true = true) ∧ ((true = true) ∧ ((true = true) ∧ ((true = true) ∧ ((true = true) ∧ (True)))))) ((rgB (⟨⟨b0, b1, b2⟩, ⟨b3, b4, b5⟩⟩ : TBox)) ∧ (cond (!(((boxT (⟨⟨b0, b1, b2⟩, ⟨b3, b4, b5⟩⟩ : TBox)) : ByteArray).toList == ((boxT (⟨⟨b0, b1, b2⟩, ⟨b3, b4, b5⟩⟩ : TBox)) : ByteArray).toList)) ((true = true) ∧ ((true = true) ∧ ((true = true) ∧ ((true = true) ∧ (True))))) (cond ((phE tx) != (phE tx)) ((true = true) ∧ ((true = true) ∧ ((true = true) ∧ (True)))) ((numsP 5 ((phL tx).length) (hitsC (phL tx)) ∧ numsP 5 ((phL tx).length) (hitsC (phL tx)) ∧ ((listC ((phL tx).length) mkHit (hitsC (phL tx)))).length ≤ 1000000) ∧ (cond (!(decide ((listC ((phL tx).length) mkHit (hitsC (phL tx))) = (listC ((phL tx).length) mkHit (hitsC (phL tx)))))) ((true = true) ∧ ((true = true) ∧ (True))) (cond ((pbE tx) != (pbE tx)) ((true = true) ∧ (True)) (True)))))))) ∧ (lt ((bif (!(((hitsT (listC ((listC l.length mkHit (hitsC l)).length) mkHit (hitsC (listC l.length mkHit (hitsC l))))) : ByteArray).toList == ((hitsT (listC l.length mkHit (hitsC l))) : ByteArray).toList)) then true else (bif (!(((boxT (⟨⟨b0, b1, b2⟩, ⟨b3, b4, b5⟩⟩ : TBox)) : ByteArray).toList == ((boxT (⟨⟨b0, b1, b2⟩, ⟨b3, b4, b5⟩⟩ : TBox)) : ByteArray).toList)) then true else (bif ((phE tx) != (phE tx)) then true else (bif (!(decide ((listC ((phL tx).length) mkHit (hitsC (phL tx))) = (listC ((phL tx).length) mkHit (hitsC (phL tx)))))) then true else (bif ((pbE tx) != (pbE tx)) then true else (!(bif (bif (((pbX tx).lo.x) == ((pbX tx).lo.x)) then (bif (((pbX tx).lo.y) == ((pbX tx).lo.y)) then (bif (((pbX tx).lo.z) == ((pbX tx).lo.z)) then true else false) else false) else false) then (bif (bif (((pbX tx).hi.x) == ((pbX tx).hi.x)) then (bif (((pbX tx).hi.y) == ((pbX tx).hi.y)) then (bif (((pbX tx).hi.z) == ((pbX tx).hi.z)) then true else false) else false) else false) then true else false) else false)))))))) fun x2 => cond x2 (post (.t (.c (.v (.bool false))))) ((numsP 5 l.length (hitsC l)) ∧ (cond ((hitsE (listC l.length mkHit (hitsC l))) == (0 : Int)) ((((hitsT (listC ((listC l.length mkHit (hitsC l)).length) mkHit (hitsC (listC l.length mkHit (hitsC l)))))).size ≤ 100000000) ∧ ((cond ((phE (hitsT (listC ((listC l.length mkHit (hitsC l)).length) mkHit (hitsC (listC l.length mkHit (hitsC l)))))) != (0 : Int)) ((true = true) ∧ (True)) ((numsP 5 ((phL (hitsT (listC ((listC l.length mkHit (hitsC l)).length) mkHit (hitsC (listC l.length mkHit (hitsC l)))))).length) (hitsC (phL (hitsT (listC ((listC l.length mkHit (hitsC l)).length) mkHit (hitsC (listC l.length mkHit (hitsC l))))))) ∧ numsP 5 l.length (hitsC l) ∧ ((listC ((phL (hitsT (listC ((listC l.length mkHit (hitsC l)).length) mkHit (hitsC (listC l.length mkHit (hitsC l)))))).length) mkHit (hitsC (phL (hitsT (listC ((listC l.length mkHit (hitsC l)).length) mkHit (hitsC (listC l.length mkHit (hitsC l))))))))).length ≤ 1000000) ∧ (True))) ∧ (lt ((bif ((phE (hitsT (listC ((listC l.length mkHit (hitsC l)).length) mkHit (hitsC (listC l.length mkHit (hitsC l)))))) != (0 : Int)) then true else (!(decide ((listC ((phL (hitsT (listC ((listC l.length mkHit (hitsC l)).length) mkHit (hitsC (listC l.length mkHit (hitsC l)))))).length) mkHit (hitsC (phL (hitsT (listC ((listC l.length mkHit (hitsC l)).length) mkHit (hitsC (listC l.length mkHit (hitsC l)))))))) = (listC l.length mkHit (hitsC l))))))) fun x3 => cond x3 (post (.t (.c (.v (.bool false))))) (cond ((((⟨⟨b0, b1, b2⟩, ⟨b3, b4, b5⟩⟩ : TBox)).err) != (0 : Int)) (post (.t (.c (.v (.bool true))))) ((((boxT (⟨⟨b0, b1, b2⟩, ⟨b3, b4, b5⟩⟩ : TBox))).size ≤ 100000000) ∧ ((cond ((pbE (boxT (⟨⟨b0, b1, b2⟩, ⟨b3, b4, b5⟩⟩ : TBox))) == (0 : Int)) (True) ((false = false) ∧ (True))) ∧ (lt ((bif ((pbE (boxT (⟨⟨b0, b1, b2⟩, ⟨b3, b4, b5⟩⟩ : TBox))) == (0 : Int)) then (bif (bif (((pbX (boxT (⟨⟨b0, b1, b2⟩, ⟨b3, b4, b5⟩⟩ : TBox))).lo.x) == b0) then (bif (((pbX (boxT (⟨⟨b0, b1, b2⟩, ⟨b3, b4, b5⟩⟩ : TBox))).lo.y) == b1) then (bif (((pbX (boxT (⟨⟨b0, b1, b2⟩, ⟨b3, b4, b5⟩⟩ : TBox))).lo.z) == b2) then true else false) else false) else false) then (bif (bif (((pbX (boxT (⟨⟨b0, b1, b2⟩, ⟨b3, b4, b5⟩⟩ : TBox))).hi.x) == b3) then (bif (((pbX (boxT (⟨⟨b0, b1, b2⟩, ⟨b3, b4, b5⟩⟩ : TBox))).hi.y) == b4) then (bif (((pbX (boxT (⟨⟨b0, b1, b2⟩, ⟨b3, b4, b5⟩⟩ : TBox))).hi.z) == b5) then true else false) else false) else false) then true else false) else false) else false)) fun x4 => post (.t (.c (.v (.bool x4))))))))))) (cond ((((⟨⟨b0, b1, b2⟩, ⟨b3, b4, b5⟩⟩ : TBox)).err) != (0 : Int)) (post (.t (.c (.v (.bool true))))) ((((boxT (⟨⟨b0, b1, b2⟩, ⟨b3, b4, b5⟩⟩ : TBox))).size ≤ 100000000) ∧ ((cond ((pbE (boxT (⟨⟨b0, b1, b2⟩, ⟨b3, b4, b5⟩⟩ : TBox))) == (0 : Int)) (True) ((false = false) ∧ (True))) ∧ (lt ((bif ((pbE (boxT (⟨⟨b0, b1, b2⟩, ⟨b3, b4, b5⟩⟩ : TBox))) == (0 : Int)) then (bif (bif (((pbX (boxT (⟨⟨b0, b1, b2⟩, ⟨b3, b4, b5⟩⟩ : TBox))).lo.x) == b0) then (bif (((pbX (boxT (⟨⟨b0, b1, b2⟩, ⟨b3, b4, b5⟩⟩ : TBox))).lo.y) == b1) then (bif (((pbX (boxT (⟨⟨b0, b1, b2⟩, ⟨b3, b4, b5⟩⟩ : TBox))).lo.z) == b2) then true else false) else false) else false) then (bif (bif (((pbX (boxT (⟨⟨b0, b1, b2⟩, ⟨b3, b4, b5⟩⟩ : TBox))).hi.x) == b3) then (bif (((pbX (boxT (⟨⟨b0, b1, b2⟩, ⟨b3, b4, b5⟩⟩ : TBox))).hi.y) == b4) then (bif (((pbX (boxT (⟨⟨b0, b1, b2⟩, ⟨b3, b4, b5⟩⟩ : TBox))).hi.z) == b5) then true else false) else false) else false) then true else false) else false) else false)) fun x5 => post (.t (.c (.v (.bool x5))))))))))))))))))))))
def ann_law05_TrackStrings : Ann := ⟨fun r => lookA r [(5, ([[], [0], [0, 1], [], [0, 1, 2, 3], [0, 1, 2, 3, 4], [0, 1, 2, 3, 4, 5]], [[42, 43, 45], [43, 45], [45], [42, 43, 45], [], [], []]))], fun _ => none, fun _ => [], Ilib, false, fun r => lookA r [(3, (4, [40])), (10, (5, [96])), (14, (3, [112])), (19, (3, [6]))], fun _ => none⟩
theorem ev_law05_TrackStrings (J : Inv) (l : List THit) (b0 b1 b2 b3 b4 b5 : Int) (tx : ByteArray) (post : DV → Prop) : evFn Tryz.prog tab Skc84 ann_law05_TrackStrings J Tryz.f3 [.t (.c (.sl 5 l.length (hitsC l))), .t (.a [.v (.int .i64 b0), .v (.int .i64 b1), .v (.int .i64 b2), .v (.int .i64 b3), .v (.int .i64 b4), .v (.int .i64 b5)]), .t (.c (.v (.string tx)))] post = vc_law05_TrackStrings l b0 b1 b2 b3 b4 b5 tx post := by kernel_rfl
theorem fit_law05_TrackStrings : okFn ann_law05_TrackStrings Tryz.f3 = true := by kernel_rfl
theorem lp_law05_TrackStrings (J : Inv) (post : DV → Prop) : AllG J (loopsFn Tryz.prog tab Skc84 ann_law05_TrackStrings J Tryz.f3 post) = (True) := by kernel_rfl
set_option maxHeartbeats 8000000 in
set_option maxRecDepth 100000 in
theorem spec_law05_TrackStrings (l : List THit) (b0 b1 b2 b3 b4 b5 : Int) (tx : ByteArray) (hp : (∀ k, k < (l).length → rgH (hitAt l k)) ∧ rgB (⟨⟨b0, b1, b2⟩, ⟨b3, b4, b5⟩⟩ : TBox)) : vc_law05_TrackStrings l b0 b1 b2 b3 b4 b5 tx (fun r => LeD r (.t (.c (.v (.bool true))))) := by
 unfold vc_law05_TrackStrings
 simp only [hits_listC, beq_self_eq_true, bne_self_eq_false, Bool.not_true, cond_false, cond_true, and_self, decide_true]
 obtain ⟨p1, p2⟩ := hp
 refine ⟨numsP_hits _, by (repeat' first | trivial | assumption | (refine cond_i ?_ ?_ <;> intro _) | (refine And.intro ?_ ?_)), lt_i fun x1 h1 => cond_i (fun _ => LeD.refl _) (fun g => ?_)⟩
 subst g
 have h14 : l.length ≤ 14 := by
  by_cases c : l.length ≤ 14
  ·exact c
  ·rw [decide_eq_false c] at h1; cases h1
 rw [decide_eq_true h14] at h1
 have hz : tx.size ≤ 60010 := by
  rcases Nat.lt_or_ge 60010 tx.size with c | c
  ·rw [decide_eq_true (show ((tx.size : Nat) : Int) > 300 by omega), decide_eq_false (show ¬ ((tx.size : Nat) : Int) ≤ 60000 by omega), decide_eq_true (show ((tx.size : Nat) : Int) > 60010 by omega)] at h1
   cases h1
  ·exact c
 clear h1
 have z := hitsT_len h14 p1
 have zb := boxT_len p2
 have P1 := phL_len tx (by omega)
 have P2 := phL_len (hitsT l) (by omega)
 have nh := numsP_hits
 have tailB : ((⟨⟨b0, b1, b2⟩, ⟨b3, b4, b5⟩⟩ : TBox)).err = 0 → pbE (boxT (⟨⟨b0, b1, b2⟩, ⟨b3, b4, b5⟩⟩ : TBox)) = 0 ∧ pbX (boxT (⟨⟨b0, b1, b2⟩, ⟨b3, b4, b5⟩⟩ : TBox)) = (⟨⟨b0, b1, b2⟩, ⟨b3, b4, b5⟩⟩ : TBox) := box_back
 refine ⟨⟨nh _, by omega⟩, ⟨nh _, h14, p1⟩, p2, by omega, by omega, by omega, by omega, ⟨nh _, h14, p1⟩, ⟨p2, ⟨nh _, nh _, by omega⟩, trivial⟩, lt_i fun x2 h2 => ?_⟩
 subst h2
 simp only [cond_false]
 have T : ∀ {A : Prop}, (((⟨⟨b0, b1, b2⟩, ⟨b3, b4, b5⟩⟩ : TBox)).err = 0 → A) → cond (((⟨⟨b0, b1, b2⟩, ⟨b3, b4, b5⟩⟩ : TBox)).err != 0) (LeD (.t (.c (.v (.bool true)))) (.t (.c (.v (.bool true))))) A := fun h => cond_i (fun _ => LeD.refl _) (fun g => h (by simpa using g))
 refine ⟨nh _, cond_i (fun h => ⟨by omega, ?_, lt_i fun x3 h3 => ?_⟩) (fun h => T fun h => ?_)⟩
 ·obtain ⟨e1, e2⟩ := hits_back (show hitsE l = 0 by simpa using h)
  rw [e1, e2]
  exact ⟨⟨nh _, nh _, by omega⟩, trivial⟩
 ·obtain ⟨e1, e2⟩ := hits_back (show hitsE l = 0 by simpa using h)
  rw [e1, e2] at h3
  simp only [bne_self_eq_false, beq_self_eq_true, cond_true, cond_false, Bool.not_true, decide_true] at h3
  subst h3
  refine T fun h => ?_
  obtain ⟨e1, e2⟩ := tailB h
  simp only [e1, e2, beq_self_eq_true, cond_true]
  exact ⟨by omega, trivial, lt_i fun x4 h4 => by rw [← h4]; exact LeD.refl _⟩
 ·obtain ⟨e1, e2⟩ := tailB h
  simp only [e1, e2, beq_self_eq_true, cond_true]
  exact ⟨by omega, trivial, lt_i fun x4 h4 => by rw [← h4]; exact LeD.refl _⟩
theorem law_law05_TrackStrings (l : List THit) (b0 b1 b2 b3 b4 b5 : Int) (tx : ByteArray) (hp : (∀ k, k < (l).length → rgH (hitAt l k)) ∧ rgB (⟨⟨b0, b1, b2⟩, ⟨b3, b4, b5⟩⟩ : TBox)) (W : World) (N : Nat → Prop) (vs : List Value) (hG : Gd W) (h : All2 (RelD (RelF W N)) [.t (.c (.sl 5 l.length (hitsC l))), .t (.a [.v (.int .i64 b0), .v (.int .i64 b1), .v (.int .i64 b2), .v (.int .i64 b3), .v (.int .i64 b4), .v (.int .i64 b5)]), .t (.c (.v (.string tx)))] vs) : Calls Tryz.prog 3 vs.toArray W fun e w' => e = .returned (.bool true) ∧ Below W.heap.size W w' :=
 law_end (fn_sound mixed tabOK VSkc84 (ann := ann_law05_TrackStrings) VIlib (fn := Tryz.f3) (J := fun _ _ _ => False) (by kernel_rfl) fit_law05_TrackStrings (args := [.t (.c (.sl 5 l.length (hitsC l))), .t (.a [.v (.int .i64 b0), .v (.int .i64 b1), .v (.int .i64 b2), .v (.int .i64 b3), .v (.int .i64 b4), .v (.int .i64 b5)]), .t (.c (.v (.string tx)))]) (post := (fun r => LeD r (.t (.c (.v (.bool true)))))) (by rw [ev_law05_TrackStrings]; exact spec_law05_TrackStrings l b0 b1 b2 b3 b4 b5 tx hp) (by rw [lp_law05_TrackStrings]; trivial) (Nat.le_of_ble_eq_true (by kernel_rfl)) W N vs hG h)
end Go.Proofs.YtfadkjcfjkmalaaGreatDoor
set_option linter.unusedVariables false
set_option linter.unusedSimpArgs false
namespace Go.Proofs.YtfadkjcfjkmalaaGreatDoor.Ev
open Go.RowKit
inductive CK where
 | int (k : IntKind)
 | bool
 | str
 | sl (e : TypeId)
def findF (P : Program) (go : TypeId → Nat → Option CK) (j : Nat) : List Field → Option CK
 | [] => none
 | f :: l => bif Nat.ble f.offset j && Nat.blt j (f.offset + P.cellsOf f.type) then go f.type (j - f.offset) else findF P go j l
def kindAt (P : Program) : Nat → TypeId → Nat → Option CK
 | 0, _, _ => none
 | k + 1, t, j => match P.underlying t with
  | some (.int ik) => bif Nat.beq j 0 then some (.int ik) else none
  | some .bool => bif Nat.beq j 0 then some .bool else none
  | some .string => bif Nat.beq j 0 then some .str else none
  | some (.slice e) => bif Nat.beq j 0 then some (.sl e) else none
  | some (.array n e) => bif Nat.blt j (n * P.cellsOf e) then kindAt P k e (j % P.cellsOf e) else none
  | some (.struct fs) => findF P (kindAt P k) j fs.toList
  | _ => none
def kindB (P : Program) : Nat → TypeId → Bool
 | 0, _ => false
 | d + 1, t => (List.range (P.cellsOf t)).all fun j => match kindAt P 20 t j with
  | some (.sl e) => Nat.blt 0 (P.cellsOf e) && kindB P d e
  | some _ => true
  | none => false
def okK (P : Program) : Nat → CK → CV → Prop
 | _, .int ik, c => ∃ n, c = .v (.int ik n) ∧ (Lit.int ik n).wf = true
 | _, .bool, c => ∃ b, c = .v (.bool b)
 | _, .str, c => ∃ s, c = .v (.string s) ∧ s.size ≤ maxLen
 | 0, .sl e, c => False
 | d + 1, .sl e, c => ∃ n cc, c = .sl (P.cellsOf e) n cc ∧ n ≤ maxLen ∧ ∀ i j, i < n → j < P.cellsOf e → ∃ κ, kindAt P 20 e j = some κ ∧ okK P d κ (cc i j)
section
variable {H : Type} {enc : TypeId × Value → H} {P : Program} {w : World} {base : Nat} {spare : Nat → Bool} {held : Bool}
def leaf (H : Type) (enc : TypeId × Value → H) (P : Program) (w : World) (base : Nat) (spare : Nat → Bool) (held : Bool) : CK → Value → Prop
 | .int ik, u => ∃ n, u = .int ik n ∧ (Lit.int ik n).wf = true
 | .bool, u => ∃ b, u = .bool b
 | .str, u => ∃ s : ByteArray, u = .string s ∧ s.size ≤ maxLen
 | .sl e, u => ∃ t m y, P.underlying t = some (.slice e) ∧ DataW.trod enc P w base spare held m t [u] = some y
theorem leaf_of : ∀ (k : Nat) (t : TypeId) (fuel : Nat) (cs : List Value) (x : DataW H × List MemPlace) (j : Nat) (κ : CK), kindAt P k t j = some κ → DataW.trod enc P w base spare held fuel t cs = some x → ∃ u, cs[j]? = some u ∧ leaf H enc P w base spare held κ u := by
 intro k
 induction k with
 | zero => intro t fuel cs x j κ h; cases h
 | succ k ih =>
  intro t fuel cs x j κ hk h
  unfold kindAt at hk
  have zero : ∀ {κ' : CK}, (bif Nat.beq j 0 then some κ' else none) = some κ → j = 0 ∧ κ' = κ := by
   intro κ' e
   cases hb : Nat.beq j 0 with
   | false => rw [hb] at e; cases e
   | true => rw [hb] at e; cases e; exact ⟨Nat.eq_of_beq_eq_true hb, rfl⟩
  split at hk
  ·rename_i ik ht
   obtain ⟨rfl, rfl⟩ := zero hk
   obtain ⟨n, rfl, _, h2⟩ := DataW.trod_int ht h
   exact ⟨_, rfl, n, rfl, h2⟩
  ·rename_i ht
   obtain ⟨rfl, rfl⟩ := zero hk
   obtain ⟨b, rfl, _⟩ := DataW.trod_bool ht h
   exact ⟨_, rfl, b, rfl⟩
  ·rename_i ht
   obtain ⟨rfl, rfl⟩ := zero hk
   obtain ⟨s, rfl, _, h2⟩ := DataW.trod_string ht h
   exact ⟨_, rfl, s, rfl, h2⟩
  ·rename_i e ht
   obtain ⟨rfl, rfl⟩ := zero hk
   rcases DataW.trod_slice ht h with ⟨rfl, _⟩ | ⟨a, len, cap, elems, rest, m, _, rfl, _⟩
   ·exact ⟨_, rfl, t, fuel, x, ht, h⟩
   ·exact ⟨_, rfl, t, fuel, x, ht, h⟩
  ·rename_i n e ht
   cases hb : Nat.blt j (n * P.cellsOf e) with
   | false => rw [hb] at hk; cases hk
   | true =>
    rw [hb] at hk
    simp only [cond_true] at hk
    have hj : j < n * P.cellsOf e := Nat.le_of_ble_eq_true hb
    have hpos : 0 < P.cellsOf e := by
     rcases Nat.eq_zero_or_pos (P.cellsOf e) with q | q
     ·rw [q, Nat.mul_zero] at hj; omega
     ·exact q
    obtain ⟨xs, m, _, _, hl, hxs, hf⟩ := DataW.trod_array ht h
    have hi : j / P.cellsOf e < n := Nat.div_lt_of_lt_mul (by rwa [Nat.mul_comm])
    have h5 := hf _ hi
    rw [show xs[j / P.cellsOf e]? = some xs[j / P.cellsOf e] from List.getElem?_eq_getElem (by omega)] at h5
    obtain ⟨u, h6, h7⟩ := ih e _ _ _ _ _ hk h5
    refine ⟨u, ?_, h7⟩
    rw [List.getElem?_take, if_pos (Nat.mod_lt _ hpos), List.getElem?_drop] at h6
    rwa [Nat.div_add_mod' j (P.cellsOf e)] at h6
  ·rename_i fs ht
   obtain ⟨xs, m, _, _, hl, hxs, hf⟩ := DataW.trod_struct ht h
   have find : ∀ l : List Field, (∀ f ∈ l, ∃ i : Nat, fs[i]? = some f) → findF P (kindAt P k) j l = some κ → ∃ (f : Field) (i : Nat), fs[i]? = some f ∧ f.offset ≤ j ∧ j < f.offset + P.cellsOf f.type ∧ kindAt P k f.type (j - f.offset) = some κ := by
    intro l
    induction l with
    | nil => intro _ h; cases h
    | cons f l ihl =>
     intro hm h
     unfold findF at h
     cases hb : (Nat.ble f.offset j && Nat.blt j (f.offset + P.cellsOf f.type)) with
     | false => rw [hb] at h; exact ihl (fun g hg => hm g (by simp [hg])) h
     | true =>
      rw [hb] at h
      simp only [Bool.and_eq_true] at hb
      obtain ⟨i, hi⟩ := hm f (by simp)
      exact ⟨f, i, hi, Nat.le_of_ble_eq_true hb.1, Nat.le_of_ble_eq_true hb.2, h⟩
   obtain ⟨f, i, hi, h1, h2, h3⟩ := find fs.toList (fun f hf => by
    obtain ⟨i, hi, e⟩ := List.getElem_of_mem hf
    exact ⟨i, by rw [← e]; simp at hi ⊢⟩) hk
   have h5 := hf i f hi
   have hlt : i < fs.size := by
    rcases Nat.lt_or_ge i fs.size with q | q
    ·exact q
    ·rw [Array.getElem?_eq_none q] at hi; cases hi
   rw [show xs[i]? = some xs[i] from List.getElem?_eq_getElem (by omega)] at h5
   obtain ⟨u, h6, h7⟩ := ih _ _ _ _ _ _ h3 h5
   refine ⟨u, ?_, h7⟩
   rw [List.getElem?_take, if_pos (by omega), List.getElem?_drop] at h6
   rwa [show f.offset + (j - f.offset) = j by omega] at h6
  ·cases hk
theorem open_cell : ∀ (d : Nat) (t : TypeId) (fuel : Nat) (cs : List Value) (x : DataW H × List MemPlace), kindB P d t = true → DataW.trod enc P w base spare held fuel t cs = some x → ∀ j, j < P.cellsOf t → ∃ κ c u, kindAt P 20 t j = some κ ∧ cs[j]? = some u ∧ RelF w (fun _ => True) c u ∧ okK P d κ c := by
 intro d
 induction d with
 | zero => intro t fuel cs x h; cases h
 | succ d ih =>
  intro t fuel cs x hB h j hj
  have hB' := hB
  unfold kindB at hB
  have h1 := List.all_eq_true.1 hB j (List.mem_range.2 hj)
  cases hk : kindAt P 20 t j with
  | none => rw [hk] at h1; cases h1
  | some κ =>
   rw [hk] at h1
   obtain ⟨u, h2, h3⟩ := leaf_of 20 t fuel cs x j κ hk h
   cases κ with
   | int ik =>
    obtain ⟨n, rfl, hw⟩ := h3
    exact ⟨_, .v (.int ik n), _, rfl, h2, ⟨rfl, rfl⟩, by simp only [okK]; exact ⟨n, rfl, hw⟩⟩
   | bool =>
    obtain ⟨b, rfl⟩ := h3
    exact ⟨_, .v (.bool b), _, rfl, h2, ⟨rfl, rfl⟩, by simp only [okK]; exact ⟨b, rfl⟩⟩
   | str =>
    obtain ⟨s, rfl, hs⟩ := h3
    exact ⟨_, .v (.string s), _, rfl, h2, ⟨rfl, rfl⟩, by simp only [okK]; exact ⟨s, rfl, hs⟩⟩
   | sl e =>
    simp only [Bool.and_eq_true] at h1
    have hpos : 0 < P.cellsOf e := Nat.le_of_ble_eq_true h1.1
    obtain ⟨t', m, y, ht, hy⟩ := h3
    obtain ⟨n, css, ⟨ao, cap, rfl, g1, g2, g3, g4⟩, hel⟩ := slAt_of_trod ht rfl hpos hy
    have each : ∀ i j, i < n → j < P.cellsOf e → ∃ c : CV, ∃ κ u, kindAt P 20 e j = some κ ∧ (css i)[j]? = some u ∧ RelF w (fun _ => True) c u ∧ okK P d κ c := by
     intro i j hi hj
     obtain ⟨_, m', y', h6⟩ := hel i hi
     obtain ⟨κ, c, u, q⟩ := ih e m' (css i) y' h1.2 h6 j hj
     exact ⟨c, κ, u, q⟩
    classical
    let cc : Nat → Nat → CV := fun i j => if h : i < n ∧ j < P.cellsOf e then Classical.choose (each i j h.1 h.2) else .v (.bool false)
    have hcc : ∀ i j, i < n → j < P.cellsOf e → ∃ κ u, kindAt P 20 e j = some κ ∧ (css i)[j]? = some u ∧ RelF w (fun _ => True) (cc i j) u ∧ okK P d κ (cc i j) := by
     intro i j hi hj
     have : cc i j = Classical.choose (each i j hi hj) := dif_pos ⟨hi, hj⟩
     rw [this]
     exact Classical.choose_spec (each i j hi hj)
    refine ⟨_, .sl (P.cellsOf e) n cc, _, rfl, h2, ⟨ao, cap, rfl, g1, g2, g4, fun h0 => ?_⟩, by
     simp only [okK]
     exact ⟨n, cc, rfl, Nat.le_trans g1 g2, fun i j hi hj => by obtain ⟨κ, u, q1, _, _, q4⟩ := hcc i j hi hj; exact ⟨κ, q1, q4⟩⟩⟩
    obtain ⟨b, off, e1, hlt, hc⟩ := g3 h0
    refine ⟨b, off, e1, hlt, trivial, fun i j hi hj => ?_⟩
    obtain ⟨κ, u, q1, q2, q3, _⟩ := hcc i j hi hj
    refine ⟨u, ?_, q3⟩
    rw [hc i j hi hj]
    simp [List.getD, q2]
theorem open_cells {d : Nat} {t : TypeId} {fuel : Nat} {cs : List Value} {x : DataW H × List MemPlace} (hB : kindB P d t = true) (hl : cs.length = P.cellsOf t) (h : DataW.trod enc P w base spare held fuel t cs = some x) :
  ∃ l : List CV, l.length = P.cellsOf t ∧ All2 (RelF w (fun _ => True)) l cs ∧ ∀ j, j < P.cellsOf t → ∃ κ, kindAt P 20 t j = some κ ∧ okK P d κ (l.getD j (.v (.bool false))) := by
 have each := open_cell d t fuel cs x hB h
 obtain ⟨l, h1, h2⟩ := list_of (CV.v (.bool false)) (P.cellsOf t) (R := fun j c => ∃ κ u, kindAt P 20 t j = some κ ∧ cs[j]? = some u ∧ RelF w (fun _ => True) c u ∧ okK P d κ c) (fun j hj => by obtain ⟨κ, c, u, q⟩ := each j hj; exact ⟨c, κ, u, q⟩)
 refine ⟨l, h1, All2.of_get (by omega) fun i a b ha hb => ?_, fun j hj => ?_⟩
 ·have hi : i < P.cellsOf t := by
   rcases Nat.lt_or_ge i l.length with q | q
   ·omega
   ·rw [List.getElem?_eq_none q] at ha; cases ha
  obtain ⟨κ, u, _, q2, q3, _⟩ := h2 i hi
  rw [hb] at q2
  cases q2
  rw [show l.getD i (.v (.bool false)) = a by simp [List.getD, ha]] at q3
  exact q3
 ·obtain ⟨κ, u, q1, _, _, q4⟩ := h2 j hj
  exact ⟨κ, q1, q4⟩
theorem open_agg {d : Nat} {t : TypeId} {cs : Array Value} {y : DataW H} {ps : List MemPlace} (hB : kindB P d t = true) (hl : cs.size = P.cellsOf t) (h : DataW.Trod enc P w base spare held t (.agg cs) y ps) :
  ∃ l : List CV, l.length = P.cellsOf t ∧ All2 (RelF w (fun _ => True)) l cs.toList ∧ ∀ j, j < P.cellsOf t → ∃ κ, kindAt P 20 t j = some κ ∧ okK P d κ (l.getD j (.v (.bool false))) := by
 obtain ⟨fuel, hf⟩ := h
 exact open_cells hB (by simpa using hl) (by simpa [Value.cells] using hf)
end
theorem open_i64 {P : Program} {d : Nat} {t : TypeId} {j : Nat} {c : CV} (hk : kindAt P 20 t j = some (.int .i64)) (h : ∃ κ, kindAt P 20 t j = some κ ∧ okK P d κ c) : ∃ n : Int, c = .v (.int .i64 n) ∧ -9223372036854775808 ≤ n ∧ n ≤ 9223372036854775807 := by
 obtain ⟨κ, h1, h2⟩ := h
 rw [hk] at h1
 cases h1
 have h3 : ∃ n, c = .v (.int .i64 n) ∧ (Lit.int .i64 n).wf = true := by cases d <;> exact h2
 obtain ⟨n, e, hw⟩ := h3
 have := bounds_i64 hw
 exact ⟨n, e, this.1, this.2⟩
theorem open_sl {P : Program} {d : Nat} {t e : TypeId} {j : Nat} {c : CV} (hk : kindAt P 20 t j = some (.sl e)) (h : ∃ κ, kindAt P 20 t j = some κ ∧ okK P (d + 1) κ c) : ∃ n cc, c = .sl (P.cellsOf e) n cc ∧ n ≤ maxLen ∧ ∀ i j, i < n → j < P.cellsOf e → ∃ κ, kindAt P 20 e j = some κ ∧ okK P d κ (cc i j) := by
 obtain ⟨κ, h1, h2⟩ := h
 rw [hk] at h1
 cases h1
 exact h2
def allI (P : Program) (e : TypeId) : Bool := (List.range (P.cellsOf e)).all fun j => match kindAt P 20 e j with
 | some (.int .i64) => true
 | _ => false
theorem nums_of {P : Program} {d : Nat} {e : TypeId} {n : Nat} {cc : Nat → Nat → CV} (hk : allI P e = true) (h : ∀ i j, i < n → j < P.cellsOf e → ∃ κ, kindAt P 20 e j = some κ ∧ okK P d κ (cc i j)) : numsP (P.cellsOf e) n cc := by
 intro i j hi hj
 have h1 := List.all_eq_true.1 hk j (List.mem_range.2 hj)
 split at h1
 ·rename_i hq
  obtain ⟨m, e1, _⟩ := open_i64 hq (h i j hi hj)
  rw [e1]; rfl
 ·cases h1
end Go.Proofs.YtfadkjcfjkmalaaGreatDoor.Ev
set_option linter.unusedVariables false
namespace Go.Proofs.YtfadkjcfjkmalaaGreatDoor
open Go.RowKit Ev
theorem rgh_of {d n : Nat} {c : Nat → Nat → CV} (f : ∀ i j, i < n → j < Tryz.prog.cellsOf 57 → ∃ κ, kindAt Tryz.prog 20 57 j = some κ ∧ okK Tryz.prog d κ (c i j)) : ∀ k, k < (listC n mkHit c).length → rgH (hitAt (listC n mkHit c) k) := by
 intro k hk
 have hk : k < n := by simpa [listC] using hk
 have hs : Tryz.prog.cellsOf 57 = 5 := by kernel_rfl
 obtain ⟨x0, e0, a0, b0⟩ := open_i64 (by kernel_rfl) (f k 0 hk (by rw [hs]; decide))
 obtain ⟨x1, e1, a1, b1⟩ := open_i64 (by kernel_rfl) (f k 1 hk (by rw [hs]; decide))
 obtain ⟨x2, e2, a2, b2⟩ := open_i64 (by kernel_rfl) (f k 2 hk (by rw [hs]; decide))
 obtain ⟨x3, e3, a3, b3⟩ := open_i64 (by kernel_rfl) (f k 3 hk (by rw [hs]; decide))
 obtain ⟨x4, e4, a4, b4⟩ := open_i64 (by kernel_rfl) (f k 4 hk (by rw [hs]; decide))
 have e : hitAt (listC n mkHit c) k = ⟨⟨x0, x1, x2⟩, x3, x4⟩ := by
  simp [hitAt, listC, mkHit, List.getD, hk, e0, e1, e2, e3, e4, cvInt]
 rw [e]
 exact ⟨⟨a0, b0⟩, ⟨a1, b1⟩, ⟨a2, b2⟩, ⟨a3, b3⟩, a4, b4⟩
end Go.Proofs.YtfadkjcfjkmalaaGreatDoor