/- Texts of this claim, together. -/
import Derived.Test.YtlmdmpjfehpjeaaN8
import Derived.Test.YtlmdmpjfehpjeaaN5
import Derived.Test.YtlmdmpjfehpjeaaN6
import Derived.Test.YtlmdmpjfehpjeaaN7

set_option linter.unusedVariables false
set_option linter.unusedSimpArgs false
namespace Go.Proofs.Ytlmdmpjfehpjeaa
open Go.RowKit Ev
theorem coordT {tk d A i : Int} {r0 r1 P0 P1 L0 L1 : Int} (htk : 1 ≤ tk ∧ tk ≤ 20) (hd : -2000 ≤ d ∧ d ≤ 2000) (hA : -1010101 ≤ A ∧ A ≤ 1010101) (hr : (⟨r0, r1⟩ : Rg).bd 20) (hP : (⟨P0, P1⟩ : Rg).bd 1000000000) (hL : (⟨L0, L1⟩ : Rg).bd 1000000000000000) (hi : 0 ≤ i ∧ i < ((3 : Nat) : Int)) {K : Int → Int → Int → Int → Prop}
  (hK : ∀ a b c e, a = ((⟨P0, P1⟩ : Rg).plus ((restR tk ⟨r0, r1⟩ d A).times ⟨r0, r1⟩)).lo → b = ((⟨P0, P1⟩ : Rg).plus ((restR tk ⟨r0, r1⟩ d A).times ⟨r0, r1⟩)).hi → c = ((⟨L0, L1⟩ : Rg).plus (restR tk ⟨r0, r1⟩ d A).square).lo → e = ((⟨L0, L1⟩ : Rg).plus (restR tk ⟨r0, r1⟩ d A).square).hi →
   ((restR tk ⟨r0, r1⟩ d A).times ⟨r0, r1⟩).bd 404840400 → (restR tk ⟨r0, r1⟩ d A).square.bd 409739373680400 → K a b c e) :
  (0 ≤ i ∧ i < ((3 : Nat) : Int)) ∧ ((0 ≤ i ∧ i < ((3 : Nat) : Int)) ∧ (lt (IntKind.i64.wrap ((0 : Int) - A)) fun x5 => lt (IntKind.i64.wrap ((0 : Int) - A)) fun x6 => lt ((((⟨r0, r1⟩ : Rg) : Rg).times (⟨x5, x6⟩ : Rg)).lo) fun x7 => lt ((((⟨r0, r1⟩ : Rg) : Rg).times (⟨x5, x6⟩ : Rg)).hi) fun x8 =>
   ((-4000000000000000000 ≤ r0 * x5 ∧ r0 * x5 ≤ 4000000000000000000) ∧ (-4000000000000000000 ≤ r0 * x6 ∧ r0 * x6 ≤ 4000000000000000000) ∧ (-4000000000000000000 ≤ r1 * x5 ∧ r1 * x5 ≤ 4000000000000000000) ∧ (-4000000000000000000 ≤ r1 * x6 ∧ r1 * x6 ≤ 4000000000000000000)) ∧ ((0 ≤ i ∧ i < ((3 : Nat) : Int)) ∧
   (lt (IntKind.i64.wrap (tk * d)) fun x9 => (0 ≤ i ∧ i < ((3 : Nat) : Int)) ∧ (lt (IntKind.i64.wrap (tk * d)) fun x10 => lt ((((⟨x7, x8⟩ : Rg) : Rg).plusW (⟨x9, x10⟩ : Rg)).lo) fun x11 => lt ((((⟨x7, x8⟩ : Rg) : Rg).plusW (⟨x9, x10⟩ : Rg)).hi) fun x12 => lt ((((⟨x11, x12⟩ : Rg) : Rg).times (⟨r0, r1⟩ : Rg)).lo) fun x13 => lt ((((⟨x11, x12⟩ : Rg) : Rg).times (⟨r0, r1⟩ : Rg)).hi) fun x14 =>
   ((-4000000000000000000 ≤ x11 * r0 ∧ x11 * r0 ≤ 4000000000000000000) ∧ (-4000000000000000000 ≤ x11 * r1 ∧ x11 * r1 ≤ 4000000000000000000) ∧ (-4000000000000000000 ≤ x12 * r0 ∧ x12 * r0 ≤ 4000000000000000000) ∧ (-4000000000000000000 ≤ x12 * r1 ∧ x12 * r1 ≤ 4000000000000000000)) ∧
   (lt ((((⟨P0, P1⟩ : Rg) : Rg).plusW (⟨x13, x14⟩ : Rg)).lo) fun x15 => lt ((((⟨P0, P1⟩ : Rg) : Rg).plusW (⟨x13, x14⟩ : Rg)).hi) fun x16 => lt ((sqW x11 x12).lo) fun x17 => lt ((sqW x11 x12).hi) fun x18 => lt ((((⟨L0, L1⟩ : Rg) : Rg).plusW (⟨x17, x18⟩ : Rg)).lo) fun x19 => lt ((((⟨L0, L1⟩ : Rg) : Rg).plusW (⟨x17, x18⟩ : Rg)).hi) fun x20 => K x15 x16 x19 x20)))))) := by
 have hT := mul_rg (x := tk) (y := d) (A := 20) (B := 2000) (C := 40000) (by omega) hd (by decide)
 have hn : (⟨-A, -A⟩ : Rg).bd 1010101 := by unfold Rg.bd; simp only; omega
 have hR := Rg.times_bd hr hn (C := 20202020) (by decide)
 have hTD : (⟨tk * d, tk * d⟩ : Rg).bd 40000 := ⟨hT, hT⟩
 have hS : (restR tk ⟨r0, r1⟩ d A).bd 20242020 := Rg.plus_bd hR hTD (C := 20242020) (by decide)
 have hU := Rg.times_bd hS hr (C := 404840400) (by decide)
 have hV := (Rg.square_bd hS (C := 409739373680400) (by decide)).1
 have en : IntKind.i64.wrap ((0 : Int) - A) = -A := by rw [IntWalk.i64_in _ (by omega)]; omega
 have et : IntKind.i64.wrap (tk * d) = tk * d := IntWalk.i64_in _ (by omega)
 have b20 : ∀ {x y : Int} {C : Int}, (-1010101 ≤ y ∧ y ≤ 1010101) → (-20 ≤ x ∧ x ≤ 20) → -4000000000000000000 ≤ x * y ∧ x * y ≤ 4000000000000000000 := fun {x y C} h g => by
  have := mul_rg (x := x) (y := y) (A := 20) (B := 1010101) (C := 20202020) g h (by decide); omega
 have b21 : ∀ {x y : Int}, (-20242020 ≤ x ∧ x ≤ 20242020) → (-20 ≤ y ∧ y ≤ 20) → -4000000000000000000 ≤ x * y ∧ x * y ≤ 4000000000000000000 := fun {x y} g h => by
  have := mul_rg (x := x) (y := y) (A := 20242020) (B := 20) (C := 404840400) g h (by decide); omega
 refine ⟨hi, hi, ?_⟩
 rw [en, et]
 refine lt_i fun x5 h5 => lt_i fun x6 h6 => ?_
 subst h5; subst h6
 refine lt_i fun x7 h7 => lt_i fun x8 h8 => ⟨⟨b20 (C := 0) hn.1 hr.1, b20 (C := 0) hn.1 hr.1, b20 (C := 0) hn.1 hr.2, b20 (C := 0) hn.1 hr.2⟩, hi, lt_i fun x9 h9 => ⟨hi, lt_i fun x10 h10 => ?_⟩⟩
 subst h9; subst h10
 have eR : (⟨x7, x8⟩ : Rg) = (⟨r0, r1⟩ : Rg).times ⟨-A, -A⟩ := by rw [← h7, ← h8]
 rw [eR, plusW_eq hR hTD (by decide)]
 have eS : ((⟨r0, r1⟩ : Rg).times ⟨-A, -A⟩).plus ⟨tk * d, tk * d⟩ = restR tk ⟨r0, r1⟩ d A := rfl
 rw [eS]
 refine lt_i fun x11 h11 => lt_i fun x12 h12 => ?_
 subst h11; subst h12
 refine lt_i fun x13 h13 => lt_i fun x14 h14 => ⟨⟨b21 hS.1 hr.1, b21 hS.1 hr.2, b21 hS.2 hr.1, b21 hS.2 hr.2⟩, ?_⟩
 have eU : (⟨x13, x14⟩ : Rg) = (restR tk ⟨r0, r1⟩ d A).times ⟨r0, r1⟩ := by rw [← h13, ← h14]
 rw [eU, plusW_eq hP hU (by decide)]
 have e1 : sqW (restR tk ⟨r0, r1⟩ d A).lo (restR tk ⟨r0, r1⟩ d A).hi = (restR tk ⟨r0, r1⟩ d A).square := sqW_eq hS (C := 409739373680400) (by decide) (by decide)
 rw [e1]
 refine lt_i fun x15 h15 => lt_i fun x16 h16 => lt_i fun x17 h17 => lt_i fun x18 h18 => ?_
 have eV : (⟨x17, x18⟩ : Rg) = (restR tk ⟨r0, r1⟩ d A).square := by rw [← h17, ← h18]
 rw [eV, plusW_eq hL hV (by decide)]
 exact lt_i fun x19 h19 => lt_i fun x20 h20 => hK _ _ _ _ h15.symm h16.symm h19.symm h20.symm hU hV
def vc_track_ends_square (r0 r1 : Int) (post : DV → Prop) : Prop := lt (IntKind.i64.wrap (r0 * r0)) fun x1 => lt (IntKind.i64.wrap (r1 * r1)) fun x2 => cond (decide (r0 ≤ (0 : Int))) (cond (decide (r1 ≥ (0 : Int))) (lt ((if x2 > x1 then x2 else x1)) fun x3 => post (.t (.a [.v (.int .i64 0), .v (.int .i64 x3)]))) (lt ((if x2 < x1 then x2 else x1)) fun x4 => lt ((if x2 > x1 then x2 else x1)) fun x5 => post (.t (.a [.v (.int .i64 x4), .v (.int .i64 x5)])))) ((false = false) ∧ (lt ((if x2 < x1 then x2 else x1)) fun x6 => lt ((if x2 > x1 then x2 else x1)) fun x7 => post (.t (.a [.v (.int .i64 x6), .v (.int .i64 x7)]))))
def ann_track_ends_square : Ann := ⟨fun r => lookA r [(1, ([[], [0], [], [2], [0, 1, 2, 3], [], [5], [], [7], [5, 6, 7, 8], [0, 1, 2, 3, 4], [0, 1, 2, 3, 4, 5, 6, 7, 8, 9, 10]], [[], [], [], [], [], [], [], [], [], [], [], []]))], fun _ => none, fun _ => [], noIt, false, fun _ => none, fun _ => none⟩
theorem ev_track_ends_square (J : Inv) (r0 r1 : Int) (post : DV → Prop) : evFn Try.prog tab S20 ann_track_ends_square J Try.f130 [.t (.a [.v (.int .i64 r0), .v (.int .i64 r1)])] post = vc_track_ends_square r0 r1 post := by kernel_rfl
theorem fit_track_ends_square : okFn ann_track_ends_square Try.f130 = true := by kernel_rfl
theorem lp_track_ends_square (J : Inv) (post : DV → Prop) : AllG J (loopsFn Try.prog tab S20 ann_track_ends_square J Try.f130 post) = (True) := by kernel_rfl
theorem spec_track_ends_square (r0 r1 : Int) : vc_track_ends_square r0 r1 (fun r => LeD r (.t (.a [.v (.int .i64 ((sqW r0 r1).lo)), .v (.int .i64 ((sqW r0 r1).hi))]))) := by
 unfold vc_track_ends_square
 refine lt_i fun x1 h1 => lt_i fun x2 h2 => ?_
 subst h1; subst h2
 refine cond_i (fun h => ?_) (fun h => ?_)
 ·have h := of_decide_eq_true h
  refine cond_i (fun g => lt_i fun x hx => LeD.of ?_) (fun g => lt_i fun x hx => lt_i fun y hy => LeD.of ?_)
  ·have g := of_decide_eq_true g
   unfold sqW
   rw [if_pos ⟨h, g⟩, ← hx]
   congr 6
   simp only
   rw [mx_if]
  ·have g := of_decide_eq_false g
   unfold sqW
   rw [if_neg (fun q => g q.2), ← hx, ← hy]
   simp only [mn_if, mx_if]
 ·have h := of_decide_eq_false h
  refine ⟨rfl, lt_i fun x hx => lt_i fun y hy => LeD.of ?_⟩
  unfold sqW
  rw [if_neg (fun q => h q.1), ← hx, ← hy]
  simp only [mn_if, mx_if]
def con_track_ends_square : Con := fun args => match args with
 | [.t (.a [.v (.int .i64 r0), .v (.int .i64 r1)])] => some (.t (.a [.v (.int .i64 ((sqW r0 r1).lo)), .v (.int .i64 ((sqW r0 r1).hi))]), none, false)
 | _ => none
theorem ok_track_ends_square : Ok Try.prog 130 con_track_ends_square := by
 refine Ok.fn (ann := ann_track_ends_square) mixed tabOK VS20 ValidIt.no (fn := Try.f130) (by kernel_rfl) (by kernel_rfl) fit_track_ends_square fun args r pre fresh h hp => ?_
 unfold con_track_ends_square at h
 split at h
 ·rename_i r0 r1
  cases h
  refine ⟨rfl, fun _ _ _ => False, _, LeA.refl _, Nat.le_of_ble_eq_true (by kernel_rfl), ?_, ?_⟩
  ·rw [ev_track_ends_square]; exact spec_track_ends_square r0 r1
  ·rw [lp_track_ends_square]; trivial
 ·cases h
def S21 : Sum := addS S20 130 con_track_ends_square
theorem VS21 : Valid Try.prog S21 := Valid.add VS20 ok_track_ends_square
def vc_track_ends_plus (r0 r1 : Int) (s0 s1 : Int) (post : DV → Prop) : Prop := lt (IntKind.i64.wrap (r0 + s0)) fun x1 => lt (IntKind.i64.wrap (r1 + s1)) fun x2 => post (.t (.a [.v (.int .i64 x1), .v (.int .i64 x2)]))
def ann_track_ends_plus : Ann := ⟨fun _ => none, fun _ => none, fun _ => [], noIt, false, fun _ => none, fun _ => none⟩
theorem ev_track_ends_plus (J : Inv) (r0 r1 : Int) (s0 s1 : Int) (post : DV → Prop) : evFn Try.prog tab S21 ann_track_ends_plus J Try.f129 [.t (.a [.v (.int .i64 r0), .v (.int .i64 r1)]), .t (.a [.v (.int .i64 s0), .v (.int .i64 s1)])] post = vc_track_ends_plus r0 r1 s0 s1 post := by kernel_rfl
theorem fit_track_ends_plus : okFn ann_track_ends_plus Try.f129 = true := by kernel_rfl
theorem lp_track_ends_plus (J : Inv) (post : DV → Prop) : AllG J (loopsFn Try.prog tab S21 ann_track_ends_plus J Try.f129 post) = (True) := by kernel_rfl
theorem spec_track_ends_plus (r0 r1 : Int) (s0 s1 : Int) : vc_track_ends_plus r0 r1 s0 s1 (fun r => LeD r (.t (.a [.v (.int .i64 ((((⟨r0, r1⟩ : Rg) : Rg).plusW (⟨s0, s1⟩ : Rg)).lo)), .v (.int .i64 ((((⟨r0, r1⟩ : Rg) : Rg).plusW (⟨s0, s1⟩ : Rg)).hi))]))) := by
 unfold vc_track_ends_plus
 (repeat' with_reducible first | (refine lt_i ?_; intro _ _) | (refine cond_i ?_ ?_ <;> intro _) | (refine And.intro (by decide) ?_))
 subst_vars
 exact LeD.refl _
def con_track_ends_plus : Con := fun args => match args with
 | [.t (.a [.v (.int .i64 r0), .v (.int .i64 r1)]), .t (.a [.v (.int .i64 s0), .v (.int .i64 s1)])] => some (.t (.a [.v (.int .i64 ((((⟨r0, r1⟩ : Rg) : Rg).plusW (⟨s0, s1⟩ : Rg)).lo)), .v (.int .i64 ((((⟨r0, r1⟩ : Rg) : Rg).plusW (⟨s0, s1⟩ : Rg)).hi))]), none, false)
 | _ => none
theorem ok_track_ends_plus : Ok Try.prog 129 con_track_ends_plus := by
 refine Ok.fn (ann := ann_track_ends_plus) mixed tabOK VS21 ValidIt.no (fn := Try.f129) (by kernel_rfl) (by kernel_rfl) fit_track_ends_plus fun args r pre fresh h hp => ?_
 unfold con_track_ends_plus at h
 split at h
 ·rename_i r0 r1 s0 s1
  cases h
  refine ⟨rfl, fun _ _ _ => False, _, LeA.refl _, Nat.le_of_ble_eq_true (by kernel_rfl), ?_, ?_⟩
  ·rw [ev_track_ends_plus]; exact spec_track_ends_plus r0 r1 s0 s1
  ·rw [lp_track_ends_plus]; trivial
 ·cases h
def S22 : Sum := addS S21 129 con_track_ends_plus
theorem VS22 : Valid Try.prog S22 := Valid.add VS21 ok_track_ends_plus
def vc_track_model_squares (m0 m1 m2 m3 m4 m5 m6 m7 m8 m9 m10 m11 : Int) (b0 b1 b2 b3 b4 b5 : Int) (post : DV → Prop) : Prop := (0 ≤ (0 : Int) ∧ (0 : Int) < ((3 : Nat) : Int)) ∧ ((0 ≤ (0 : Int) ∧ (0 : Int) < ((3 : Nat) : Int)) ∧ (lt ((sqW b0 b3).lo) fun x1 => lt ((sqW b0 b3).hi) fun x2 => lt ((((⟨(0 : Int), (0 : Int)⟩ : Rg) : Rg).plusW (⟨x1, x2⟩ : Rg)).lo) fun x3 => lt ((((⟨(0 : Int), (0 : Int)⟩ : Rg) : Rg).plusW (⟨x1, x2⟩ : Rg)).hi) fun x4 => (0 ≤ (1 : Int) ∧ (1 : Int) < ((3 : Nat) : Int)) ∧ ((0 ≤ (1 : Int) ∧ (1 : Int) < ((3 : Nat) : Int)) ∧ (lt ((sqW b1 b4).lo) fun x5 => lt ((sqW b1 b4).hi) fun x6 => lt ((((⟨x3, x4⟩ : Rg) : Rg).plusW (⟨x5, x6⟩ : Rg)).lo) fun x7 => lt ((((⟨x3, x4⟩ : Rg) : Rg).plusW (⟨x5, x6⟩ : Rg)).hi) fun x8 => (0 ≤ (2 : Int) ∧ (2 : Int) < ((3 : Nat) : Int)) ∧ ((0 ≤ (2 : Int) ∧ (2 : Int) < ((3 : Nat) : Int)) ∧ (lt ((sqW b2 b5).lo) fun x9 => lt ((sqW b2 b5).hi) fun x10 => lt ((((⟨x7, x8⟩ : Rg) : Rg).plusW (⟨x9, x10⟩ : Rg)).lo) fun x11 => lt ((((⟨x7, x8⟩ : Rg) : Rg).plusW (⟨x9, x10⟩ : Rg)).hi) fun x12 => cond (decide (x12 ≥ m5)) (post (.tu [.a [.v (.int .i64 x11), .v (.int .i64 x12)], .c (.v (.bool (decide (x11 ≤ m6))))])) ((false = false) ∧ (post (.tu [.a [.v (.int .i64 x11), .v (.int .i64 x12)], .c (.v (.bool false))])))))))))
def ann_track_model_squares : Ann := ⟨fun r => lookA r [(5, ([[], [], [], [1, 2], [1, 2, 3], [], [], [5, 6], [5, 6, 7], [1, 2, 3, 4, 5, 6, 7, 8], [1, 2, 3, 4, 5, 6, 7, 8, 9], [0, 1, 2, 3, 4, 5, 6, 7, 8, 9, 10], [0, 1, 2, 3, 4, 5, 6, 7, 8, 9, 10, 11]], [[21, 22], [21, 22], [21, 22], [21, 22], [21, 22], [21, 22], [21, 22], [21, 22], [21, 22], [21, 22], [22], [], []])), (7, ([[], [], [1], [], [3], [3, 4], [3, 4, 5], [1, 2, 3, 4, 5, 6], [1, 2, 3, 4, 5, 6, 7], [1, 2, 3, 4, 5, 6, 7, 8], [1, 2, 3, 4, 5, 6, 7, 8, 9], [1, 2, 3, 4, 5, 6, 7, 8], [1, 2, 3, 4, 5, 6, 7, 8, 11], [1, 2, 3, 4, 5, 6, 7, 8, 11, 12], [1, 2, 3, 4, 5, 6, 7, 8, 11, 12, 13], [1, 2, 3, 4, 5, 6, 7, 8, 9, 10, 11, 12, 13, 14], [1, 2, 3, 4, 5, 6, 7, 8, 9, 10, 11, 12, 13, 14, 15], [0, 1, 2, 3, 4, 5, 6, 7, 8], [0, 1, 2, 3, 4, 5, 6, 7, 8, 9, 10, 11, 12, 13, 14, 15, 16, 17]], [[], [], [], [], [], [], [], [], [], [], [4], [], [], [], [4], [], [], [9999, 4], []]))], fun b => lookA b [(0, (some 4, some ⟨[2, 3, 4, 6, 8], [2, 3, 4, 6], []⟩))], fun _ => [], noIt, false, fun _ => none, fun _ => none⟩
theorem ev_track_model_squares (J : Inv) (m0 m1 m2 m3 m4 m5 m6 m7 m8 m9 m10 m11 : Int) (b0 b1 b2 b3 b4 b5 : Int) (post : DV → Prop) : evFn Try.prog tab S22 ann_track_model_squares J Try.f93 [.t (.a [.v (.int .i64 m0), .v (.int .i64 m1), .v (.int .i64 m2), .v (.int .i64 m3), .v (.int .i64 m4), .v (.int .i64 m5), .v (.int .i64 m6), .v (.int .i64 m7), .v (.int .i64 m8), .v (.int .i64 m9), .v (.int .i64 m10), .v (.int .i64 m11)]), .t (.a [.v (.int .i64 b0), .v (.int .i64 b1), .v (.int .i64 b2), .v (.int .i64 b3), .v (.int .i64 b4), .v (.int .i64 b5)])] post = vc_track_model_squares m0 m1 m2 m3 m4 m5 m6 m7 m8 m9 m10 m11 b0 b1 b2 b3 b4 b5 post := by kernel_rfl
theorem fit_track_model_squares : okFn ann_track_model_squares Try.f93 = true := by kernel_rfl
theorem lp_track_model_squares (J : Inv) (post : DV → Prop) : AllG J (loopsFn Try.prog tab S22 ann_track_model_squares J Try.f93 post) = (True) := by kernel_rfl
theorem spec_track_model_squares (m0 m1 m2 m3 m4 m5 m6 m7 m8 m9 m10 m11 : Int) (b0 b1 b2 b3 b4 b5 : Int) : vc_track_model_squares m0 m1 m2 m3 m4 m5 m6 m7 m8 m9 m10 m11 b0 b1 b2 b3 b4 b5 (fun r => LeD r (.tu [.a [.v (.int .i64 ((sqsW (⟨⟨b0, b1, b2⟩, ⟨b3, b4, b5⟩⟩ : TBox)).lo)), .v (.int .i64 ((sqsW (⟨⟨b0, b1, b2⟩, ⟨b3, b4, b5⟩⟩ : TBox)).hi))], .c (.v (.bool (canW (⟨m0, m1, m2, m3, m4, m5, m6, m7, m8, m9, m10, m11⟩ : TMod) (⟨⟨b0, b1, b2⟩, ⟨b3, b4, b5⟩⟩ : TBox))))])) := by
 unfold vc_track_model_squares
 (repeat' with_reducible first | (refine lt_i ?_; intro _ _) | (refine cond_i ?_ ?_ <;> intro _) | (refine And.intro (by decide) ?_))
 all_goals subst_vars
 all_goals refine LeD.of ?_
 all_goals unfold sqsW canW sqsW
 all_goals simp only [*]
 all_goals first | rfl | simp_all
def con_track_model_squares : Con := fun args => match args with
 | [.t (.a [.v (.int .i64 m0), .v (.int .i64 m1), .v (.int .i64 m2), .v (.int .i64 m3), .v (.int .i64 m4), .v (.int .i64 m5), .v (.int .i64 m6), .v (.int .i64 m7), .v (.int .i64 m8), .v (.int .i64 m9), .v (.int .i64 m10), .v (.int .i64 m11)]), .t (.a [.v (.int .i64 b0), .v (.int .i64 b1), .v (.int .i64 b2), .v (.int .i64 b3), .v (.int .i64 b4), .v (.int .i64 b5)])] => some (.tu [.a [.v (.int .i64 ((sqsW (⟨⟨b0, b1, b2⟩, ⟨b3, b4, b5⟩⟩ : TBox)).lo)), .v (.int .i64 ((sqsW (⟨⟨b0, b1, b2⟩, ⟨b3, b4, b5⟩⟩ : TBox)).hi))], .c (.v (.bool (canW (⟨m0, m1, m2, m3, m4, m5, m6, m7, m8, m9, m10, m11⟩ : TMod) (⟨⟨b0, b1, b2⟩, ⟨b3, b4, b5⟩⟩ : TBox))))], none, false)
 | _ => none
theorem ok_track_model_squares : Ok Try.prog 93 con_track_model_squares := by
 refine Ok.fn (ann := ann_track_model_squares) mixed tabOK VS22 ValidIt.no (fn := Try.f93) (by kernel_rfl) (by kernel_rfl) fit_track_model_squares fun args r pre fresh h hp => ?_
 unfold con_track_model_squares at h
 split at h
 ·rename_i m0 m1 m2 m3 m4 m5 m6 m7 m8 m9 m10 m11 b0 b1 b2 b3 b4 b5
  cases h
  refine ⟨rfl, fun _ _ _ => False, _, LeA.refl _, Nat.le_of_ble_eq_true (by kernel_rfl), ?_, ?_⟩
  ·rw [ev_track_model_squares]; exact spec_track_model_squares m0 m1 m2 m3 m4 m5 m6 m7 m8 m9 m10 m11 b0 b1 b2 b3 b4 b5
  ·rw [lp_track_model_squares]; trivial
 ·cases h
def S23 : Sum := addS S22 93 con_track_model_squares
theorem VS23 : Valid Try.prog S23 := Valid.add VS22 ok_track_model_squares
def vc_track_vector_minus (s0 s1 s2 : Int) (t0 t1 t2 : Int) (post : DV → Prop) : Prop := (0 ≤ (0 : Int) ∧ (0 : Int) < ((3 : Nat) : Int)) ∧ ((0 ≤ (0 : Int) ∧ (0 : Int) < ((3 : Nat) : Int)) ∧ (lt (IntKind.i64.wrap (s0 - t0)) fun x1 => (0 ≤ (1 : Int) ∧ (1 : Int) < ((3 : Nat) : Int)) ∧ ((0 ≤ (1 : Int) ∧ (1 : Int) < ((3 : Nat) : Int)) ∧ (lt (IntKind.i64.wrap (s1 - t1)) fun x2 => (0 ≤ (2 : Int) ∧ (2 : Int) < ((3 : Nat) : Int)) ∧ ((0 ≤ (2 : Int) ∧ (2 : Int) < ((3 : Nat) : Int)) ∧ (lt (IntKind.i64.wrap (s2 - t2)) fun x3 => post (.t (.a [.v (.int .i64 x1), .v (.int .i64 x2), .v (.int .i64 x3)]))))))))
def ann_track_vector_minus : Ann := ⟨fun _ => none, fun _ => none, fun _ => [], noIt, false, fun _ => none, fun _ => none⟩
theorem ev_track_vector_minus (J : Inv) (s0 s1 s2 : Int) (t0 t1 t2 : Int) (post : DV → Prop) : evFn Try.prog tab S23 ann_track_vector_minus J Try.f77 [.t (.a [.v (.int .i64 s0), .v (.int .i64 s1), .v (.int .i64 s2)]), .t (.a [.v (.int .i64 t0), .v (.int .i64 t1), .v (.int .i64 t2)])] post = vc_track_vector_minus s0 s1 s2 t0 t1 t2 post := by kernel_rfl
theorem fit_track_vector_minus : okFn ann_track_vector_minus Try.f77 = true := by kernel_rfl
theorem lp_track_vector_minus (J : Inv) (post : DV → Prop) : AllG J (loopsFn Try.prog tab S23 ann_track_vector_minus J Try.f77 post) = (True) := by kernel_rfl
theorem spec_track_vector_minus (s0 s1 s2 : Int) (t0 t1 t2 : Int) : vc_track_vector_minus s0 s1 s2 t0 t1 t2 (fun r => LeD r (.t (.a [.v (.int .i64 (wr (s0 - t0))), .v (.int .i64 (wr (s1 - t1))), .v (.int .i64 (wr (s2 - t2)))]))) := by
 unfold vc_track_vector_minus
 (repeat' with_reducible first | (refine lt_i ?_; intro _ _) | (refine cond_i ?_ ?_ <;> intro _) | (refine And.intro (by decide) ?_))
 subst_vars
 exact LeD.refl _
def con_track_vector_minus : Con := fun args => match args with
 | [.t (.a [.v (.int .i64 s0), .v (.int .i64 s1), .v (.int .i64 s2)]), .t (.a [.v (.int .i64 t0), .v (.int .i64 t1), .v (.int .i64 t2)])] => some (.t (.a [.v (.int .i64 (wr (s0 - t0))), .v (.int .i64 (wr (s1 - t1))), .v (.int .i64 (wr (s2 - t2)))]), none, false)
 | _ => none
theorem ok_track_vector_minus : Ok Try.prog 77 con_track_vector_minus := by
 refine Ok.fn (ann := ann_track_vector_minus) mixed tabOK VS23 ValidIt.no (fn := Try.f77) (by kernel_rfl) (by kernel_rfl) fit_track_vector_minus fun args r pre fresh h hp => ?_
 unfold con_track_vector_minus at h
 split at h
 ·rename_i s0 s1 s2 t0 t1 t2
  cases h
  refine ⟨rfl, fun _ _ _ => False, _, LeA.refl _, Nat.le_of_ble_eq_true (by kernel_rfl), ?_, ?_⟩
  ·rw [ev_track_vector_minus]; exact spec_track_vector_minus s0 s1 s2 t0 t1 t2
  ·rw [lp_track_vector_minus]; trivial
 ·cases h
def S24 : Sum := addS S23 77 con_track_vector_minus
theorem VS24 : Valid Try.prog S24 := Valid.add VS23 ok_track_vector_minus
def vc_track_model_slow (m0 m1 m2 m3 m4 m5 m6 m7 m8 m9 m10 m11 : Int) (post : DV → Prop) : Prop := lt (IntKind.i64.wrap (m7 * m4)) fun x1 => lt (IntKind.i64.wrap (x1 * m4)) fun x2 => post (.t (.c (.v (.int .i64 x2))))
def ann_track_model_slow : Ann := ⟨fun _ => none, fun _ => none, fun _ => [], noIt, false, fun _ => none, fun _ => none⟩
theorem ev_track_model_slow (J : Inv) (m0 m1 m2 m3 m4 m5 m6 m7 m8 m9 m10 m11 : Int) (post : DV → Prop) : evFn Try.prog tab S24 ann_track_model_slow J Try.f121 [.t (.a [.v (.int .i64 m0), .v (.int .i64 m1), .v (.int .i64 m2), .v (.int .i64 m3), .v (.int .i64 m4), .v (.int .i64 m5), .v (.int .i64 m6), .v (.int .i64 m7), .v (.int .i64 m8), .v (.int .i64 m9), .v (.int .i64 m10), .v (.int .i64 m11)])] post = vc_track_model_slow m0 m1 m2 m3 m4 m5 m6 m7 m8 m9 m10 m11 post := by kernel_rfl
theorem fit_track_model_slow : okFn ann_track_model_slow Try.f121 = true := by kernel_rfl
theorem lp_track_model_slow (J : Inv) (post : DV → Prop) : AllG J (loopsFn Try.prog tab S24 ann_track_model_slow J Try.f121 post) = (True) := by kernel_rfl
theorem spec_track_model_slow (m0 m1 m2 m3 m4 m5 m6 m7 m8 m9 m10 m11 : Int) : vc_track_model_slow m0 m1 m2 m3 m4 m5 m6 m7 m8 m9 m10 m11 (fun r => LeD r (.t (.c (.v (.int .i64 (wr (wr (m7 * m4) * m4))))))) := by
 unfold vc_track_model_slow
 refine lt_i fun x1 h1 => lt_i fun x2 h2 => ?_
 subst h1; subst h2
 exact LeD.refl _
def con_track_model_slow : Con := fun args => match args with
 | [.t (.a [.v (.int .i64 m0), .v (.int .i64 m1), .v (.int .i64 m2), .v (.int .i64 m3), .v (.int .i64 m4), .v (.int .i64 m5), .v (.int .i64 m6), .v (.int .i64 m7), .v (.int .i64 m8), .v (.int .i64 m9), .v (.int .i64 m10), .v (.int .i64 m11)])] => some (.t (.c (.v (.int .i64 (wr (wr (m7 * m4) * m4))))), none, false)
 | _ => none
theorem ok_track_model_slow : Ok Try.prog 121 con_track_model_slow := by
 refine Ok.fn (ann := ann_track_model_slow) mixed tabOK VS24 ValidIt.no (fn := Try.f121) (by kernel_rfl) (by kernel_rfl) fit_track_model_slow fun args r pre fresh h hp => ?_
 unfold con_track_model_slow at h
 split at h
 ·rename_i m0 m1 m2 m3 m4 m5 m6 m7 m8 m9 m10 m11
  cases h
  refine ⟨rfl, fun _ _ _ => False, _, LeA.refl _, Nat.le_of_ble_eq_true (by kernel_rfl), ?_, ?_⟩
  ·rw [ev_track_model_slow]; exact spec_track_model_slow m0 m1 m2 m3 m4 m5 m6 m7 m8 m9 m10 m11
  ·rw [lp_track_model_slow]; trivial
 ·cases h
def S25 : Sum := addS S24 121 con_track_model_slow
theorem VS25 : Valid Try.prog S25 := Valid.add VS24 ok_track_model_slow
def vc_track_model_answer (m0 m1 m2 m3 m4 m5 m6 m7 m8 m9 m10 m11 : Int) (b0 b1 b2 b3 b4 b5 : Int) (p0 p1 p2 p3 : Int) (post : DV → Prop) : Prop := lt (wr (p0 - m0)) fun x1 => lt (wr (p1 - m1)) fun x2 => lt (wr (p2 - m2)) fun x3 => lt (IntKind.i64.wrap (p3 - m3)) fun x4 => (0 ≤ (0 : Int) ∧ (0 : Int) < ((3 : Nat) : Int)) ∧ ((0 ≤ (0 : Int) ∧ (0 : Int) < ((3 : Nat) : Int)) ∧ (lt (IntKind.i64.wrap ((0 : Int) - x4)) fun x5 => lt (IntKind.i64.wrap ((0 : Int) - x4)) fun x6 => lt ((((⟨b0, b3⟩ : Rg) : Rg).times (⟨x5, x6⟩ : Rg)).lo) fun x7 => lt ((((⟨b0, b3⟩ : Rg) : Rg).times (⟨x5, x6⟩ : Rg)).hi) fun x8 => ((-4000000000000000000 ≤ b0 * x5 ∧ b0 * x5 ≤ 4000000000000000000) ∧ (-4000000000000000000 ≤ b0 * x6 ∧ b0 * x6 ≤ 4000000000000000000) ∧ (-4000000000000000000 ≤ b3 * x5 ∧ b3 * x5 ≤ 4000000000000000000) ∧ (-4000000000000000000 ≤ b3 * x6 ∧ b3 * x6 ≤ 4000000000000000000)) ∧ ((0 ≤ (0 : Int) ∧ (0 : Int) < ((3 : Nat) : Int)) ∧ (lt (IntKind.i64.wrap (m4 * x1)) fun x9 => (0 ≤ (0 : Int) ∧ (0 : Int) < ((3 : Nat) : Int)) ∧ (lt (IntKind.i64.wrap (m4 * x1)) fun x10 => lt ((((⟨x7, x8⟩ : Rg) : Rg).plusW (⟨x9, x10⟩ : Rg)).lo) fun x11 => lt ((((⟨x7, x8⟩ : Rg) : Rg).plusW (⟨x9, x10⟩ : Rg)).hi) fun x12 => lt ((((⟨x11, x12⟩ : Rg) : Rg).times (⟨b0, b3⟩ : Rg)).lo) fun x13 => lt ((((⟨x11, x12⟩ : Rg) : Rg).times (⟨b0, b3⟩ : Rg)).hi) fun x14 => ((-4000000000000000000 ≤ x11 * b0 ∧ x11 * b0 ≤ 4000000000000000000) ∧ (-4000000000000000000 ≤ x11 * b3 ∧ x11 * b3 ≤ 4000000000000000000) ∧ (-4000000000000000000 ≤ x12 * b0 ∧ x12 * b0 ≤ 4000000000000000000) ∧ (-4000000000000000000 ≤ x12 * b3 ∧ x12 * b3 ≤ 4000000000000000000)) ∧ (lt ((((⟨(0 : Int), (0 : Int)⟩ : Rg) : Rg).plusW (⟨x13, x14⟩ : Rg)).lo) fun x15 => lt ((((⟨(0 : Int), (0 : Int)⟩ : Rg) : Rg).plusW (⟨x13, x14⟩ : Rg)).hi) fun x16 => lt ((sqW x11 x12).lo) fun x17 => lt ((sqW x11 x12).hi) fun x18 => lt ((((⟨(0 : Int), (0 : Int)⟩ : Rg) : Rg).plusW (⟨x17, x18⟩ : Rg)).lo) fun x19 => lt ((((⟨(0 : Int), (0 : Int)⟩ : Rg) : Rg).plusW (⟨x17, x18⟩ : Rg)).hi) fun x20 => (0 ≤ (1 : Int) ∧ (1 : Int) < ((3 : Nat) : Int)) ∧ ((0 ≤ (1 : Int) ∧ (1 : Int) < ((3 : Nat) : Int)) ∧ (lt (IntKind.i64.wrap ((0 : Int) - x4)) fun x21 => lt (IntKind.i64.wrap ((0 : Int) - x4)) fun x22 => lt ((((⟨b1, b4⟩ : Rg) : Rg).times (⟨x21, x22⟩ : Rg)).lo) fun x23 => lt ((((⟨b1, b4⟩ : Rg) : Rg).times (⟨x21, x22⟩ : Rg)).hi) fun x24 => ((-4000000000000000000 ≤ b1 * x21 ∧ b1 * x21 ≤ 4000000000000000000) ∧ (-4000000000000000000 ≤ b1 * x22 ∧ b1 * x22 ≤ 4000000000000000000) ∧ (-4000000000000000000 ≤ b4 * x21 ∧ b4 * x21 ≤ 4000000000000000000) ∧ (-4000000000000000000 ≤ b4 * x22 ∧ b4 * x22 ≤ 4000000000000000000)) ∧ ((0 ≤ (1 : Int) ∧ (1 : Int) < ((3 : Nat) : Int)) ∧ (lt (IntKind.i64.wrap (m4 * x2)) fun x25 => (0 ≤ (1 : Int) ∧ (1 : Int) < ((3 : Nat) : Int)) ∧ (lt (IntKind.i64.wrap (m4 * x2)) fun x26 => lt ((((⟨x23, x24⟩ : Rg) : Rg).plusW (⟨x25, x26⟩ : Rg)).lo) fun x27 => lt ((((⟨x23, x24⟩ : Rg) : Rg).plusW (⟨x25, x26⟩ : Rg)).hi) fun x28 => lt ((((⟨x27, x28⟩ : Rg) : Rg).times (⟨b1, b4⟩ : Rg)).lo) fun x29 => lt ((((⟨x27, x28⟩ : Rg) : Rg).times (⟨b1, b4⟩ : Rg)).hi) fun x30 => ((-4000000000000000000 ≤ x27 * b1 ∧ x27 * b1 ≤ 4000000000000000000) ∧ (-4000000000000000000 ≤ x27 * b4 ∧ x27 * b4 ≤ 4000000000000000000) ∧ (-4000000000000000000 ≤ x28 * b1 ∧ x28 * b1 ≤ 4000000000000000000) ∧ (-4000000000000000000 ≤ x28 * b4 ∧ x28 * b4 ≤ 4000000000000000000)) ∧ (lt ((((⟨x15, x16⟩ : Rg) : Rg).plusW (⟨x29, x30⟩ : Rg)).lo) fun x31 => lt ((((⟨x15, x16⟩ : Rg) : Rg).plusW (⟨x29, x30⟩ : Rg)).hi) fun x32 => lt ((sqW x27 x28).lo) fun x33 => lt ((sqW x27 x28).hi) fun x34 => lt ((((⟨x19, x20⟩ : Rg) : Rg).plusW (⟨x33, x34⟩ : Rg)).lo) fun x35 => lt ((((⟨x19, x20⟩ : Rg) : Rg).plusW (⟨x33, x34⟩ : Rg)).hi) fun x36 => (0 ≤ (2 : Int) ∧ (2 : Int) < ((3 : Nat) : Int)) ∧ ((0 ≤ (2 : Int) ∧ (2 : Int) < ((3 : Nat) : Int)) ∧ (lt (IntKind.i64.wrap ((0 : Int) - x4)) fun x37 => lt (IntKind.i64.wrap ((0 : Int) - x4)) fun x38 => lt ((((⟨b2, b5⟩ : Rg) : Rg).times (⟨x37, x38⟩ : Rg)).lo) fun x39 => lt ((((⟨b2, b5⟩ : Rg) : Rg).times (⟨x37, x38⟩ : Rg)).hi) fun x40 => ((-4000000000000000000 ≤ b2 * x37 ∧ b2 * x37 ≤ 4000000000000000000) ∧ (-4000000000000000000 ≤ b2 * x38 ∧ b2 * x38 ≤ 4000000000000000000) ∧ (-4000000000000000000 ≤ b5 * x37 ∧ b5 * x37 ≤ 4000000000000000000) ∧ (-4000000000000000000 ≤ b5 * x38 ∧ b5 * x38 ≤ 4000000000000000000)) ∧ ((0 ≤ (2 : Int) ∧ (2 : Int) < ((3 : Nat) : Int)) ∧ (lt (IntKind.i64.wrap (m4 * x3)) fun x41 => (0 ≤ (2 : Int) ∧ (2 : Int) < ((3 : Nat) : Int)) ∧ (lt (IntKind.i64.wrap (m4 * x3)) fun x42 => lt ((((⟨x39, x40⟩ : Rg) : Rg).plusW (⟨x41, x42⟩ : Rg)).lo) fun x43 => lt ((((⟨x39, x40⟩ : Rg) : Rg).plusW (⟨x41, x42⟩ : Rg)).hi) fun x44 => lt ((((⟨x43, x44⟩ : Rg) : Rg).times (⟨b2, b5⟩ : Rg)).lo) fun x45 => lt ((((⟨x43, x44⟩ : Rg) : Rg).times (⟨b2, b5⟩ : Rg)).hi) fun x46 => ((-4000000000000000000 ≤ x43 * b2 ∧ x43 * b2 ≤ 4000000000000000000) ∧ (-4000000000000000000 ≤ x43 * b5 ∧ x43 * b5 ≤ 4000000000000000000) ∧ (-4000000000000000000 ≤ x44 * b2 ∧ x44 * b2 ≤ 4000000000000000000) ∧ (-4000000000000000000 ≤ x44 * b5 ∧ x44 * b5 ≤ 4000000000000000000)) ∧ (lt ((((⟨x31, x32⟩ : Rg) : Rg).plusW (⟨x45, x46⟩ : Rg)).lo) fun x47 => lt ((((⟨x31, x32⟩ : Rg) : Rg).plusW (⟨x45, x46⟩ : Rg)).hi) fun x48 => lt ((sqW x43 x44).lo) fun x49 => lt ((sqW x43 x44).hi) fun x50 => lt ((((⟨x35, x36⟩ : Rg) : Rg).plusW (⟨x49, x50⟩ : Rg)).lo) fun x51 => lt ((((⟨x35, x36⟩ : Rg) : Rg).plusW (⟨x49, x50⟩ : Rg)).hi) fun x52 => lt ((sqsW (⟨⟨b0, b1, b2⟩, ⟨b3, b4, b5⟩⟩ : TBox)).lo) fun x53 => lt ((sqsW (⟨⟨b0, b1, b2⟩, ⟨b3, b4, b5⟩⟩ : TBox)).hi) fun x54 => lt (canW (⟨m0, m1, m2, m3, m4, m5, m6, m7, m8, m9, m10, m11⟩ : TMod) (⟨⟨b0, b1, b2⟩, ⟨b3, b4, b5⟩⟩ : TBox)) fun x55 => lt ((if m5 > x53 then m5 else x53)) fun x56 => lt (wr (wr (m7 * m4) * m4)) fun x57 => lt (IntKind.i64.wrap (x56 - x57)) fun x58 => lt ((if m6 < x54 then m6 else x54)) fun x59 => lt (wr (wr (m7 * m4) * m4)) fun x60 => lt (IntKind.i64.wrap (x59 - x60)) fun x61 => cond (x52 == (0 : Int)) (cond (x52 == (0 : Int)) (post (.t (.c (.v (.int .i64 2))))) (cond (decide (x51 > (0 : Int))) (cond (decide (x47 > (0 : Int))) ((true = true) ∧ (post (.t (.c (.v (.int .i64 0)))))) (lt (IntKind.i64.wrap (x47 * x47)) fun x62 => lt (IntKind.i64.wrap (x58 * x51)) fun x63 => cond (decide (x62 < x63)) (post (.t (.c (.v (.int .i64 0))))) (post (.t (.c (.v (.int .i64 1))))))) ((false = false) ∧ (post (.t (.c (.v (.int .i64 1)))))))) (cond (decide (x48 ≤ (0 : Int))) (lt (IntKind.i64.wrap (x48 * x48)) fun x64 => lt (IntKind.i64.wrap (x61 * x52)) fun x65 => cond (decide (x64 ≥ x65)) (post (.t (.c (.v (.int .i64 2))))) (cond (decide (x51 > (0 : Int))) (cond (decide (x47 > (0 : Int))) ((true = true) ∧ (post (.t (.c (.v (.int .i64 0)))))) (lt (IntKind.i64.wrap (x47 * x47)) fun x66 => lt (IntKind.i64.wrap (x58 * x51)) fun x67 => cond (decide (x66 < x67)) (post (.t (.c (.v (.int .i64 0))))) (post (.t (.c (.v (.int .i64 1))))))) ((false = false) ∧ (post (.t (.c (.v (.int .i64 1)))))))) ((false = false) ∧ (cond (decide (x51 > (0 : Int))) (cond (decide (x47 > (0 : Int))) ((true = true) ∧ (post (.t (.c (.v (.int .i64 0)))))) (lt (IntKind.i64.wrap (x47 * x47)) fun x68 => lt (IntKind.i64.wrap (x58 * x51)) fun x69 => cond (decide (x68 < x69)) (post (.t (.c (.v (.int .i64 0))))) (post (.t (.c (.v (.int .i64 1))))))) ((false = false) ∧ (post (.t (.c (.v (.int .i64 1)))))))))))))))))))))))))))
def ann_track_model_answer : Ann := ⟨fun r => lookA r [(1, ([[], [0], [], [2], [2, 3], [0, 1, 2, 3, 4], [], [6], [], [8], [8, 9], [6, 7, 8, 9, 10], [], [0, 1, 2, 3, 4, 5, 12], [0, 1, 2, 3, 4, 5, 6, 7, 8, 9, 10, 11, 12, 13]], [[23, 7], [23, 7], [23, 7], [23, 7], [23, 7], [7], [23, 7], [7, 23], [23, 7], [23, 7], [7, 23], [23, 7], [23], [9999, 7], []])), (6, ([[], [], [0, 1], [0, 1, 2], [], [], [4, 5], [4, 5, 6], [0, 1, 2, 3, 4, 5, 6, 7], [], [0, 1, 2, 3, 4, 5, 6, 7, 8, 9]], [[12], [12], [12], [12], [12], [12], [12], [12], [12], [], []])), (8, ([[], [], [1], [1, 2], [], [4], [4, 5], [1, 2, 3, 4, 5, 6], [], [8], [8, 9], [], [11], [11, 12], [8, 9, 10, 11, 12, 13], [1, 2, 3, 4, 5, 6, 7, 8, 9, 10, 11, 12, 13, 14], [0, 1, 2, 3, 4, 5, 6, 7, 8, 9, 10, 11, 12, 13, 14, 15], [], [0, 1, 2, 3, 4, 5, 6, 7, 8, 9, 10, 11, 12, 13, 14, 15, 16, 17]], [[65, 14], [65, 14], [65, 14], [65, 14], [65, 14], [65, 14], [65, 14], [65, 14], [65, 14], [65, 14], [65, 14], [65, 14], [65, 14], [65, 14], [65, 14], [65, 14], [14], [65], []])), (9, ([[], [], [], [1, 2], [0, 1, 2, 3], [], [], [0, 1, 2, 3, 4, 6], [0, 1, 2, 3, 4, 5, 6, 7], [0, 1, 2, 3, 4, 5, 6, 7, 8], [0, 1, 2, 3, 4, 5, 6, 7, 8, 9]], [[69, 70, 73, 74], [69, 70, 73, 74], [69, 70, 73, 74], [70, 73, 74], [73, 74], [69, 70, 73, 74], [69, 70, 73, 74], [74], [], [], []])), (12, ([[], [0], [], [2], [2, 3], [2, 3, 4], [0, 1, 2, 3, 4, 5], [], [7], [0, 1, 2, 3, 4, 5, 6, 7, 8], [], [10], [], [12], [12, 13], [12, 13, 14], [10, 11, 12, 13, 14, 15], [], [7, 8, 17], [7, 8, 10, 11, 12, 13, 14, 15, 16, 17, 18], [0, 1, 2, 3, 4, 5, 6, 7, 8, 9, 10, 11, 12, 13, 14, 15, 16, 17, 18, 19], [], [0, 1, 2, 3, 4, 5, 6, 7, 8, 9, 10, 11, 12, 13, 14, 15, 16, 17, 18, 19, 20, 21]], [[90, 100, 17], [90, 100, 17], [90, 100, 17], [90, 100, 17], [90, 100, 17], [90, 100, 17], [90, 100, 17], [90, 100, 17], [100, 17], [100, 17], [90, 100, 17], [90, 100, 17], [90, 100, 17], [90, 100, 17], [90, 100, 17], [90, 100, 17], [90, 100, 17], [90, 100, 17], [17], [17], [17], [90, 100], []]))], fun b => lookA b [(0, (some 4, some ⟨[3, 4, 7, 8, 9, 10, 30], [3, 4, 7, 9, 10], []⟩))], fun _ => [], noIt, false, fun _ => none, fun _ => none⟩
theorem ev_track_model_answer (J : Inv) (m0 m1 m2 m3 m4 m5 m6 m7 m8 m9 m10 m11 : Int) (b0 b1 b2 b3 b4 b5 : Int) (p0 p1 p2 p3 : Int) (post : DV → Prop) : evFn Try.prog tab S25 ann_track_model_answer J Try.f94 [.t (.a [.v (.int .i64 m0), .v (.int .i64 m1), .v (.int .i64 m2), .v (.int .i64 m3), .v (.int .i64 m4), .v (.int .i64 m5), .v (.int .i64 m6), .v (.int .i64 m7), .v (.int .i64 m8), .v (.int .i64 m9), .v (.int .i64 m10), .v (.int .i64 m11)]), .t (.a [.v (.int .i64 b0), .v (.int .i64 b1), .v (.int .i64 b2), .v (.int .i64 b3), .v (.int .i64 b4), .v (.int .i64 b5)]), .t (.a [.v (.int .i64 p0), .v (.int .i64 p1), .v (.int .i64 p2), .v (.int .i64 p3)])] post = vc_track_model_answer m0 m1 m2 m3 m4 m5 m6 m7 m8 m9 m10 m11 b0 b1 b2 b3 b4 b5 p0 p1 p2 p3 post := by kernel_rfl
theorem fit_track_model_answer : okFn ann_track_model_answer Try.f94 = true := by kernel_rfl
theorem lp_track_model_answer (J : Inv) (post : DV → Prop) : AllG J (loopsFn Try.prog tab S25 ann_track_model_answer J Try.f94 post) = (True) := by kernel_rfl
set_option maxHeartbeats 8000000 in
set_option maxRecDepth 100000 in
theorem spec_track_model_answer (m0 m1 m2 m3 m4 m5 m6 m7 m8 m9 m10 m11 : Int) (b0 b1 b2 b3 b4 b5 : Int) (p0 p1 p2 p3 : Int) (hp : ((⟨m0, m1, m2, m3, m4, m5, m6, m7, m8, m9, m10, m11⟩ : TMod)).Ok ∧ ((⟨⟨b0, b1, b2⟩, ⟨b3, b4, b5⟩⟩ : TBox)).lo.inS 20 = true ∧ ((⟨⟨b0, b1, b2⟩, ⟨b3, b4, b5⟩⟩ : TBox)).hi.inS 20 = true ∧ ((⟨m0, m1, m2, m3, m4, m5, m6, m7, m8, m9, m10, m11⟩ : TMod)).canBe (⟨⟨b0, b1, b2⟩, ⟨b3, b4, b5⟩⟩ : TBox) ∧ (⟨p0, p1, p2⟩ : V3).inS 1000 = true ∧ -1000101 ≤ p3 ∧ p3 ≤ 1000100) : vc_track_model_answer m0 m1 m2 m3 m4 m5 m6 m7 m8 m9 m10 m11 b0 b1 b2 b3 b4 b5 p0 p1 p2 p3 (fun r => LeD r (.t (.c (.v (.int .i64 (((⟨m0, m1, m2, m3, m4, m5, m6, m7, m8, m9, m10, m11⟩ : TMod)).ans (⟨⟨b0, b1, b2⟩, ⟨b3, b4, b5⟩⟩ : TBox) ⟨p0, p1, p2⟩ p3)))))) := by
 obtain ⟨ho, hl, hh, hc, hp, ht1, ht2⟩ := hp
 obtain ⟨a1, a2, a3⟩ := inS_iff.1 hl
 obtain ⟨c1, c2, c3⟩ := inS_iff.1 hh
 obtain ⟨d1, d2, d3⟩ := inS_iff.1 hp
 simp only at a1 a2 a3 c1 c2 c3 d1 d2 d3
 have hA : -1010101 ≤ p3 - m3 ∧ p3 - m3 ≤ 1010101 := by have := ho.tm; simp only at this; omega
 obtain ⟨_, _, _, _, _, _, _, bP, bL, bl0, bl1⟩ := stg3 ho hl hh hp ⟨ht1, ht2⟩
 have P0 : (⟨0, 0⟩ : Rg).bd 0 := by unfold Rg.bd; simp
 have L0 := P0
 obtain ⟨f1, f2, f3, f4⟩ := fast_bd ho hl hh hc
 unfold vc_track_model_answer
 refine lt_i fun x1 h1 => lt_i fun x2 h2 => lt_i fun x3 h3 => lt_i fun x4 h4 => ?_
 have g1 := ho.px; have g2 := ho.py; have g3 := ho.pz
 simp only at g1 g2 g3
 replace h1 : IntKind.i64.wrap (p0 - m0) = x1 := h1
 replace h2 : IntKind.i64.wrap (p1 - m1) = x2 := h2
 replace h3 : IntKind.i64.wrap (p2 - m2) = x3 := h3
 rw [IntWalk.i64_in _ (by omega)] at h1 h2 h3 h4
 rw [← h1, ← h2, ← h3, ← h4]
 clear h1 h2 h3 h4 g1 g2 g3
 refine coordT ho.tk (by have := ho.px; simp only at this; omega) hA ⟨a1, c1⟩ (bw (by decide) P0) (bw (by decide) L0) (by decide) fun y1 y2 y3 y4 q1 q2 q3 q4 U1 V1 => ?_
 have P1 : Rg.bd ⟨y1, y2⟩ 404840400 := by subst q1 q2; exact Rg.plus_bd P0 U1 (by decide)
 have L1 : Rg.bd ⟨y3, y4⟩ 409739373680400 := by subst q3 q4; exact Rg.plus_bd L0 V1 (by decide)
 refine coordT ho.tk (by have := ho.py; simp only at this; omega) hA ⟨a2, c2⟩ (bw (by decide) P1) (bw (by decide) L1) (by decide) fun z1 z2 z3 z4 w1 w2 w3 w4 U2 V2 => ?_
 have P2 : Rg.bd ⟨z1, z2⟩ 809680800 := by subst w1 w2; exact Rg.plus_bd P1 U2 (by decide)
 have L2 : Rg.bd ⟨z3, z4⟩ 819478747360800 := by subst w3 w4; exact Rg.plus_bd L1 V2 (by decide)
 refine coordT ho.tk (by have := ho.pz; simp only at this; omega) hA ⟨a3, c3⟩ (bw (by decide) P2) (bw (by decide) L2) (by decide) fun x45 x46 x47 x48 e1 e2 e3 e4 _ _ => ?_
 subst w1 w2 w3 w4
 subst q1 q2 q3 q4
 replace e1 : x45 = ((⟨m0, m1, m2, m3, m4, m5, m6, m7, m8, m9, m10, m11⟩ : TMod).prodR (⟨⟨b0, b1, b2⟩, ⟨b3, b4, b5⟩⟩ : TBox) (⟨p0, p1, p2⟩ : V3) p3).lo := e1
 replace e2 : x46 = ((⟨m0, m1, m2, m3, m4, m5, m6, m7, m8, m9, m10, m11⟩ : TMod).prodR (⟨⟨b0, b1, b2⟩, ⟨b3, b4, b5⟩⟩ : TBox) (⟨p0, p1, p2⟩ : V3) p3).hi := e2
 replace e3 : x47 = ((⟨m0, m1, m2, m3, m4, m5, m6, m7, m8, m9, m10, m11⟩ : TMod).leftR (⟨⟨b0, b1, b2⟩, ⟨b3, b4, b5⟩⟩ : TBox) (⟨p0, p1, p2⟩ : V3) p3).lo := e3
 replace e4 : x48 = ((⟨m0, m1, m2, m3, m4, m5, m6, m7, m8, m9, m10, m11⟩ : TMod).leftR (⟨⟨b0, b1, b2⟩, ⟨b3, b4, b5⟩⟩ : TBox) (⟨p0, p1, p2⟩ : V3) p3).hi := e4
 refine lt_i fun x53 h53 => lt_i fun x54' h54 => lt_i fun _ _ => lt_i fun x56 h56 => lt_i fun x57 h57 => lt_i fun x52 h58 => lt_i fun x59 h59 => lt_i fun x60 h60 => lt_i fun x54 h61 => ?_
 have k1 := ho.tk; have k2 := ho.li
 have hsl := ho.slo; have hsp := ho.slp
 simp only at k1 k2
 have k3 := mul_rg (x := m7) (y := m4) (A := 100) (B := 20) (C := 2000) (by omega) (by omega) (by decide)
 have k4 := mul_rg (x := m7 * m4) (y := m4) (A := 2000) (B := 20) (C := 40000) k3 (by omega) (by decide)
 have es : wr (wr (m7 * m4) * m4) = (⟨m0, m1, m2, m3, m4, m5, m6, m7, m8, m9, m10, m11⟩ : TMod).slow := by
  have s1 : wr (m7 * m4) = m7 * m4 := IntWalk.i64_in _ (by omega)
  rw [s1]
  exact IntWalk.i64_in _ (by omega)
 rw [es] at h57 h60
 rw [sqsW_eq hl hh] at h53 h54
 rw [← h53, mx_if] at h56
 rw [← h54, mn_if] at h59
 have e52 : x52 = ((⟨m0, m1, m2, m3, m4, m5, m6, m7, m8, m9, m10, m11⟩ : TMod).fast (⟨⟨b0, b1, b2⟩, ⟨b3, b4, b5⟩⟩ : TBox)).lo := by rw [← f3, ← h58, ← h56, ← h57]
 have e54 : x54 = ((⟨m0, m1, m2, m3, m4, m5, m6, m7, m8, m9, m10, m11⟩ : TMod).fast (⟨⟨b0, b1, b2⟩, ⟨b3, b4, b5⟩⟩ : TBox)).hi := by rw [← f4, ← h61, ← h59, ← h60]
 have eA : (⟨m0, m1, m2, m3, m4, m5, m6, m7, m8, m9, m10, m11⟩ : TMod).ans (⟨⟨b0, b1, b2⟩, ⟨b3, b4, b5⟩⟩ : TBox) (⟨p0, p1, p2⟩ : V3) p3 = ansR ⟨x45, x46⟩ ⟨x47, x48⟩ ⟨x52, x54⟩ := by
  unfold TMod.ans; rw [e1, e2, e3, e4, e52, e54]
 rw [← e52] at f1
 rw [← e54] at f2
 obtain ⟨⟨y1, y2⟩, ⟨y3, y4⟩⟩ := bP
 obtain ⟨⟨z1, z2⟩, ⟨z3, z4⟩⟩ := bL
 rw [← e1] at y1 y2
 rw [← e2] at y3 y4
 rw [← e3] at z1 z2
 rw [← e4] at z3 z4
 rw [eA]
 clear eA e1 e2 e3 e4 e52 e54 es h53 h54 h56 h57 h58 h59 h60 h61
 have g1 := mul_rg (x := x46) (y := x46) (A := 1214521200) (B := 1214521200) (C := 2000000000000000000) (by omega) (by omega) (by decide)
 have g2 := mul_rg (x := x54) (y := x48) (A := 1200) (B := 1229218121041200) (C := 2000000000000000000) (by omega) (by omega) (by decide)
 have g3 := mul_rg (x := x45) (y := x45) (A := 1214521200) (B := 1214521200) (C := 2000000000000000000) (by omega) (by omega) (by decide)
 have g4 := mul_rg (x := x52) (y := x47) (A := 1200) (B := 1229218121041200) (C := 2000000000000000000) (by omega) (by omega) (by decide)
 have w1 : IntKind.i64.wrap (x46 * x46) = x46 * x46 := IntWalk.i64_in _ (by omega)
 have w2 : IntKind.i64.wrap (x54 * x48) = x54 * x48 := IntWalk.i64_in _ (by omega)
 have w3 : IntKind.i64.wrap (x45 * x45) = x45 * x45 := IntWalk.i64_in _ (by omega)
 have w4 : IntKind.i64.wrap (x52 * x47) = x52 * x47 := IntWalk.i64_in _ (by omega)
 rw [w1, w2, w3, w4]
 unfold ansR
 simp only
 generalize x46 * x46 = X1 at *
 generalize x54 * x48 = X2 at *
 generalize x45 * x45 = X3 at *
 generalize x52 * x47 = X4 at *
 (repeat' with_reducible first | (refine lt_i ?_; intro _ _) | (refine cond_i ?_ ?_ <;> intro _) | (refine And.intro ?_ ?_))
 all_goals first
  | decide
  | (refine leI ?_; simp only [beq_iff_eq, beq_eq_false_iff_ne, ne_eq, decide_eq_true_eq, decide_eq_false_iff_not] at *; (repeat' split) <;> omega)
def con_track_model_answer : Con := fun args => match args with
 | [.t (.a [.v (.int .i64 m0), .v (.int .i64 m1), .v (.int .i64 m2), .v (.int .i64 m3), .v (.int .i64 m4), .v (.int .i64 m5), .v (.int .i64 m6), .v (.int .i64 m7), .v (.int .i64 m8), .v (.int .i64 m9), .v (.int .i64 m10), .v (.int .i64 m11)]), .t (.a [.v (.int .i64 b0), .v (.int .i64 b1), .v (.int .i64 b2), .v (.int .i64 b3), .v (.int .i64 b4), .v (.int .i64 b5)]), .t (.a [.v (.int .i64 p0), .v (.int .i64 p1), .v (.int .i64 p2), .v (.int .i64 p3)])] => some (.t (.c (.v (.int .i64 (((⟨m0, m1, m2, m3, m4, m5, m6, m7, m8, m9, m10, m11⟩ : TMod)).ans (⟨⟨b0, b1, b2⟩, ⟨b3, b4, b5⟩⟩ : TBox) ⟨p0, p1, p2⟩ p3)))), some (((⟨m0, m1, m2, m3, m4, m5, m6, m7, m8, m9, m10, m11⟩ : TMod)).Ok ∧ ((⟨⟨b0, b1, b2⟩, ⟨b3, b4, b5⟩⟩ : TBox)).lo.inS 20 = true ∧ ((⟨⟨b0, b1, b2⟩, ⟨b3, b4, b5⟩⟩ : TBox)).hi.inS 20 = true ∧ ((⟨m0, m1, m2, m3, m4, m5, m6, m7, m8, m9, m10, m11⟩ : TMod)).canBe (⟨⟨b0, b1, b2⟩, ⟨b3, b4, b5⟩⟩ : TBox) ∧ (⟨p0, p1, p2⟩ : V3).inS 1000 = true ∧ -1000101 ≤ p3 ∧ p3 ≤ 1000100), false)
 | _ => none
theorem ok_track_model_answer : Ok Try.prog 94 con_track_model_answer := by
 refine Ok.fn (ann := ann_track_model_answer) mixed tabOK VS25 ValidIt.no (fn := Try.f94) (by kernel_rfl) (by kernel_rfl) fit_track_model_answer fun args r pre fresh h hp => ?_
 unfold con_track_model_answer at h
 split at h
 ·rename_i m0 m1 m2 m3 m4 m5 m6 m7 m8 m9 m10 m11 b0 b1 b2 b3 b4 b5 p0 p1 p2 p3
  cases h
  refine ⟨rfl, fun _ _ _ => False, _, LeA.refl _, Nat.le_of_ble_eq_true (by kernel_rfl), ?_, ?_⟩
  ·rw [ev_track_model_answer]; exact spec_track_model_answer m0 m1 m2 m3 m4 m5 m6 m7 m8 m9 m10 m11 b0 b1 b2 b3 b4 b5 p0 p1 p2 p3 hp
  ·rw [lp_track_model_answer]; trivial
 ·cases h
def S26 : Sum := addS S25 94 con_track_model_answer
theorem VS26 : Valid Try.prog S26 := Valid.add VS25 ok_track_model_answer
theorem track_answer (m : TMod) (b : TBox) (p : V3) (t : Int) (w : World) (ho : m.Ok) (hl : b.lo.inS 20 = true) (hh : b.hi.inS 20 = true) (hc : m.canBe b) (hp : p.inS 1000 = true) (ht : -1000101 ≤ t ∧ t ≤ 1000100) :
  Calls Try.prog 94 #[m.v, b.v, .agg #[.int .i64 p.x, .int .i64 p.y, .int .i64 p.z, .int .i64 t]] w fun e w' => e = .returned (.int .i64 (m.ans b p t)) ∧ Below w.heap.size w w' := by
 obtain ⟨m0, m1, m2, m3, m4, m5, m6, m7, m8, m9, m10, m11⟩ := m
 obtain ⟨⟨b0, b1, b2⟩, ⟨b3, b4, b5⟩⟩ := b
 obtain ⟨p0, p1, p2⟩ := p
 have h := (ok_track_model_answer [.t (.a [.v (.int .i64 m0), .v (.int .i64 m1), .v (.int .i64 m2), .v (.int .i64 m3), .v (.int .i64 m4), .v (.int .i64 m5), .v (.int .i64 m6), .v (.int .i64 m7), .v (.int .i64 m8), .v (.int .i64 m9), .v (.int .i64 m10), .v (.int .i64 m11)]), .t (.a [.v (.int .i64 b0), .v (.int .i64 b1), .v (.int .i64 b2), .v (.int .i64 b3), .v (.int .i64 b4), .v (.int .i64 b5)]), .t (.a [.v (.int .i64 p0), .v (.int .i64 p1), .v (.int .i64 p2), .v (.int .i64 t)])] _ _ _ rfl ⟨ho, hl, hh, hc, hp, ht⟩).2 w (fun _ => True) [TMod.v ⟨m0, m1, m2, m3, m4, m5, m6, m7, m8, m9, m10, m11⟩, TBox.v ⟨⟨b0, b1, b2⟩, ⟨b3, b4, b5⟩⟩, .agg #[.int .i64 p0, .int .i64 p1, .int .i64 p2, .int .i64 t]] ⟨dvV_rel rfl, dvV_rel rfl, dvV_rel rfl, trivial⟩
 refine Calls.mono h ?_
 rintro e w' ⟨v, rfl, e2, e3⟩
 have e4 : v = _ := e2.1
 exact ⟨by rw [e4], e3⟩
end Go.Proofs.Ytlmdmpjfehpjeaa
set_option linter.unusedVariables false
set_option linter.unusedSimpArgs false
namespace Go.Proofs.Ytlmdmpjfehpjeaa
open Go.RowKit
theorem ans_val (m : TMod) (b : TBox) (p : V3) (t : Int) : m.ans b p t = 0 ∨ m.ans b p t = 1 ∨ m.ans b p t = 2 := by
 unfold TMod.ans ansR
 split
 ·omega
 ·split <;> omega
theorem ownR_bd {e l a b : Int} (ha : 0 ≤ a ∧ a ≤ 10000) (hb : 0 ≤ b ∧ b ≤ 10000) : (0 ≤ (ownR e l a b).lo ∧ (ownR e l a b).lo ≤ 10000) ∧ (0 ≤ (ownR e l a b).hi ∧ (ownR e l a b).hi ≤ 10000) := by
 unfold ownR
 simp only
 constructor
 ·(repeat' split) <;> omega
 ·(repeat' split) <;> omega
theorem scores_take (m : TMod) (b : TBox) {l : List THit} {k : Nat} (h : k < l.length) : m.scores b (l.take (k + 1)) = (m.scores b (l.take k)).plus (m.hitR b (hitAt l k)) := by
 rw [hitAt_take h]; unfold TMod.scores; rw [List.foldl_append]; rfl
theorem hit_prod {m : TMod} {h : THit} (ho : m.Ok) (hh : h.Ok) : (0 ≤ h.w * m.mi ∧ h.w * m.mi ≤ 10000) ∧ (0 ≤ h.w * m.no ∧ h.w * m.no ≤ 10000) := by
 have h1 := mul_rg (x := h.w) (y := m.mi) (A := 100) (B := 100) (C := 10000) (by have := hh.w; omega) (by have := ho.mi; omega) (by decide)
 have h2 := mul_rg (x := h.w) (y := m.no) (A := 100) (B := 100) (C := 10000) (by have := hh.w; omega) (by have := ho.no; omega) (by decide)
 have h3 := Int.mul_nonneg hh.w.1 ho.mi.1
 have h4 := Int.mul_nonneg hh.w.1 ho.no.1
 omega
theorem scores_bd {m : TMod} {b : TBox} {l : List THit} (ho : m.Ok) (hok : ∀ i, i < l.length → (hitAt l i).Ok) : ∀ k, k ≤ l.length → (0 ≤ (m.scores b (l.take k)).lo ∧ (m.scores b (l.take k)).lo ≤ 10000 * k) ∧ (0 ≤ (m.scores b (l.take k)).hi ∧ (m.scores b (l.take k)).hi ≤ 10000 * k) := by
 intro k
 induction k with
 | zero => intro _; simp [TMod.scores]
 | succ k ih =>
  intro hk
  have h1 := ih (by omega)
  obtain ⟨g1, g2⟩ := hit_prod ho (hok k (by omega))
  have h2 := ownR_bd (e := m.ans b (hitAt l k).p ((hitAt l k).t + m.ea)) (l := m.ans b (hitAt l k).p ((hitAt l k).t - m.la - 1)) g1 g2
  rw [scores_take m b (by omega)]
  unfold TMod.hitR Rg.plus
  simp only
  push_cast
  omega
set_option maxRecDepth 100000 in
set_option maxHeartbeats 16000000 in
theorem track_scores (m : TMod) (b : TBox) (l : List THit) (v : Value) (w : World) (h : HitsAt w v l) (hl : l.length ≤ 12) (hok : ∀ i, i < l.length → (hitAt l i).Ok) (ho : m.Ok) (hlo : b.lo.inS 20 = true) (hhi : b.hi.inS 20 = true) (hc : m.canBe b) :
  Calls Try.prog 96 #[m.v, b.v, v] w fun e w' => e = .returned (m.scores b l).v ∧ Below w.heap.size w w' := by
 obtain ⟨ao, cap, rfl, h1, h2, h3⟩ := h.opn
 unfold maxLen at h2
 have HEN : Hid (∀ k, k < l.length → ∀ W, Calls Try.prog 128 #[m.v, (hitAt l k).v] W fun e w' => e = .returned (.tuple #[.agg #[.int .i64 (hitAt l k).p.x, .int .i64 (hitAt l k).p.y, .int .i64 (hitAt l k).p.z, .int .i64 ((hitAt l k).t + m.ea)], .agg #[.int .i64 (hitAt l k).p.x, .int .i64 (hitAt l k).p.y, .int .i64 (hitAt l k).p.z, .int .i64 ((hitAt l k).t - m.la - 1)]]) ∧ Below W.heap.size W w') := hid (fun k hk W => track_ends m _ W ho (hok k hk))
 have HA1 : Hid (∀ k, k < l.length → ∀ W, Calls Try.prog 94 #[m.v, b.v, .agg #[.int .i64 (hitAt l k).p.x, .int .i64 (hitAt l k).p.y, .int .i64 (hitAt l k).p.z, .int .i64 ((hitAt l k).t + m.ea)]] W fun e w' => e = .returned (.int .i64 (m.ans b (hitAt l k).p ((hitAt l k).t + m.ea))) ∧ Below W.heap.size W w') := hid (fun k hk W => track_answer m b _ _ W ho hlo hhi hc (hok k hk).p (by have h1 := (hok k hk).t; have h2 := ho.ea; omega))
 have HA2 : Hid (∀ k, k < l.length → ∀ W, Calls Try.prog 94 #[m.v, b.v, .agg #[.int .i64 (hitAt l k).p.x, .int .i64 (hitAt l k).p.y, .int .i64 (hitAt l k).p.z, .int .i64 ((hitAt l k).t - m.la - 1)]] W fun e w' => e = .returned (.int .i64 (m.ans b (hitAt l k).p ((hitAt l k).t - m.la - 1))) ∧ Below W.heap.size W w') := hid (fun k hk W => track_answer m b _ _ W ho hlo hhi hc (hok k hk).p (by have h1 := (hok k hk).t; have h2 := ho.la; omega))
 have HST : Hid (∀ k, k < l.length → m.scores b (l.take (k + 1)) = (m.scores b (l.take k)).plus (m.hitR b (hitAt l k))) := hid (fun k hk => scores_take m b hk)
 have HBD : Hid (∀ k, k ≤ l.length → (0 ≤ (m.scores b (l.take k)).lo ∧ (m.scores b (l.take k)).lo ≤ 10000 * k) ∧ (0 ≤ (m.scores b (l.take k)).hi ∧ (m.scores b (l.take k)).hi ≤ 10000 * k)) := hid (scores_bd ho hok)
 have HPR : Hid (∀ k, k < l.length → (0 ≤ (hitAt l k).w * m.mi ∧ (hitAt l k).w * m.mi ≤ 10000) ∧ (0 ≤ (hitAt l k).w * m.no ∧ (hitAt l k).w * m.no ≤ 10000)) := hid (fun k hk => hit_prod ho (hok k hk))
 have HS0 : Hid (m.scores b (l.take 0) = ⟨0, 0⟩) := hid (by simp [TMod.scores])
 have HSN : Hid (m.scores b (l.take l.length) = m.scores b l) := hid (by rw [List.take_length])
 have HHR : Hid (∀ k, m.hitR b (hitAt l k) = ownR (m.ans b (hitAt l k).p ((hitAt l k).t + m.ea)) (m.ans b (hitAt l k).p ((hitAt l k).t - m.la - 1)) ((hitAt l k).w * m.mi) ((hitAt l k).w * m.no)) := hid (fun k => rfl)
 have HAV : Hid (∀ p t, m.ans b p t = 0 ∨ m.ans b p t = 1 ∨ m.ans b p t = 2) := hid (ans_val m b)
 generalize hSC : m.scores b l = SC at HSN ⊢
 clear hSC
 generalize hFK : (fun k => m.scores b (l.take k)) = FK
 have HFK : Hid (∀ k, m.scores b (l.take k) = FK k) := hid (fun k => by rw [← hFK])
 simp only [HFK.out] at HST HBD HS0 HSN
 clear hFK HFK
 generalize hHK : (fun k => m.hitR b (hitAt l k)) = HK
 have HHK : Hid (∀ k, m.hitR b (hitAt l k) = HK k) := hid (fun k => by rw [← hHK])
 simp only [HHK.out] at HST HHR
 clear hHK HHK
 generalize hAN : m.ans b = AN at HA1 HA2 HHR HAV
 clear hAN h hok ho hlo hhi hc
 obtain ⟨px, py, pz, tm, tk, lo, hi, li, ea, la, no, mi⟩ := m
 obtain ⟨⟨lx, ly, lz⟩, ⟨hx, hy, hz⟩⟩ := b
 unfold TMod.v TBox.v at *
 simp only at *
 obtain ⟨W0, hW0⟩ : ∃ W0, W0 = (((w.alloc (.cells #[.int .i64 px, .int .i64 py, .int .i64 pz, .int .i64 tm, .int .i64 tk, .int .i64 lo, .int .i64 hi, .int .i64 li, .int .i64 ea, .int .i64 la, .int .i64 no, .int .i64 mi] 134)).alloc (.cells #[.int .i64 lx, .int .i64 ly, .int .i64 lz, .int .i64 hx, .int .i64 hy, .int .i64 hz] 75)).alloc (.cells #[.int .i64 0, .int .i64 0] 157)).alloc (.cells #[.int .i64 0, .int .i64 0] 157) := ⟨_, rfl⟩
 have hbW0 : Below w.heap.size w W0 := by rw [hW0]; exact BelowA
 obtain ⟨hz0, q0, q1, q2, q3⟩ := al4 w _ _ _ _ _ _ _ _ W0 hW0
 have Q0 := hid q0
 have Q1 := hid q1
 have Q2 := hid q2
 have Q3 := hid q3
 have hzW0 := hbW0.size
 clear q0 q1 q2 q3
 go_enter Try.func96, Try.ntmps96
 go_wp2_with fail
 rw [← hW0]
 clear hW0
 go_loopw [19] (fun i wr => ∃ (k : Nat) (ol oh : Int), k ≤ l.length ∧ i = .int .i64 k ∧ Hid (wr.heap[w.heap.size + 1 + 1 + 1]? = some (.cells #[.int .i64 ol, .int .i64 oh] 157 (0, 0))) ∧ Hid (FK k = ⟨ol, oh⟩) ∧ Below (w.heap.size + 1 + 1 + 1) W0 wr) (fun i _ => l.length - (intOf i).toNat)
 case atStart => exact ⟨0, 0, 0, Nat.zero_le _, rfl, Q3, HS0, Below.refl _ _⟩
 case round =>
  obtain ⟨k, ol, oh, hk, rfl, HR, HF, hbel⟩ := hrel
  have hzr := hbel.size
  have R0 := hid ((hbel.block w.heap.size (by omega)).trans Q0.out)
  have R1 := hid ((hbel.block (w.heap.size + 1) (by omega)).trans Q1.out)
  have R2 := hid ((hbel.block (w.heap.size + 1 + 1) (by omega)).trans Q2.out)
  have hbx : Below w.heap.size w wr := hbW0.trans (hbel.mono (by omega))
  have HBX := hid hbx
  by_cases hlt : k < l.length
  ·obtain ⟨bb, off, rfl, hb, hcc⟩ := h3 k hlt
   obtain ⟨c0, c1, c2, c3, c4⟩ := hcc k hlt
   have hcb : ∀ o, wr.cell? ⟨bb, o, none⟩ = w.cell? ⟨bb, o, none⟩ := fun o => hbx.cell (p := ⟨bb, o, none⟩) hb
   rw [← hcb] at c0 c1 c2 c3 c4
   have hbw : bb < wr.heap.size := by omega
   have HE := hid (HEN.out k hlt)
   have HC1 := hid (HA1.out k hlt)
   have HC2 := hid (HA2.out k hlt)
   have HP := HPR.out k hlt
   have HN : Hid (FK (k + 1) = (⟨ol, oh⟩ : Rg).plus (HK k)) := hid (by rw [HST.out k hlt, HF.out])
   have HB := HBD.out k hk
   rw [HF.out] at HB
   simp only at HB
   have HO := hid (HHR.out k)
   have hE1 := HAV.out (hitAt l k).p ((hitAt l k).t + ea)
   have hE2 := HAV.out (hitAt l k).p ((hitAt l k).t - la - 1)
   generalize hitAt l k = x at *
   generalize AN x.p (x.t + ea) = E1 at *
   generalize AN x.p (x.t - la - 1) = E2 at *
   generalize x.t + ea = TE at *
   generalize x.t - la - 1 = TL at *
   obtain ⟨MI, hMI⟩ : ∃ MI, x.w * mi = MI := ⟨_, rfl⟩
   obtain ⟨NO, hNO⟩ : ∃ NO, x.w * no = NO := ⟨_, rfl⟩
   have kM : IntKind.i64.wrap (x.w * mi) = MI := by rw [hMI]; exact IntWalk.i64_in _ (by rw [hMI] at HP; omega)
   have kN : IntKind.i64.wrap (x.w * no) = NO := by rw [hNO]; exact IntWalk.i64_in _ (by rw [hNO] at HP; omega)
   rw [hMI, hNO] at HP HO
   have hOB := ownR_bd (e := E1) (l := E2) HP.1 HP.2
   rw [← HO.out] at hOB
   generalize HK k = OW at HO HN hOB
   obtain ⟨NX, hNX⟩ : ∃ NX, FK (k + 1) = NX := ⟨_, rfl⟩
   rw [hNX] at HN
   have HNX := hid hNX
   clear hNX
   have HPL : Hid (∀ x y, x = OW.lo → y = OW.hi → ∀ W, Calls Try.prog 129 #[.agg #[.int .i64 ol, .int .i64 oh], .agg #[.int .i64 x, .int .i64 y]] W fun e w' => e = .returned NX.v ∧ Below W.heap.size W w') := hid (fun x y h1 h2 W => by rw [h1, h2, HN.out]; exact track_plus ⟨ol, oh⟩ OW W (by simp only; omega) (by simp only; omega) (by omega) (by omega))
   have HOL : Hid (OW.lo = if E1 = 0 ∧ E2 = 2 then min MI NO else if E1 = 0 then MI else if E2 = 2 then NO else 0) := hid (by rw [HO.out]; rfl)
   have HOH : Hid (OW.hi = if E2 ≠ 0 then max (if E1 ≠ 2 then MI else 0) NO else if E1 ≠ 2 then MI else 0) := hid (by rw [HO.out]; rfl)
   obtain ⟨⟨x0, x1, x2⟩, t, u⟩ := x
   obtain ⟨nl, nh⟩ := NX
   simp only [THit.v, Rg.v] at *
   clear hcc h3 hcb HEN HA1 HA2 HST HBD HPR HHR HAV HO HN hMI hNO hOB HB
   obtain ⟨m0, m1, m2, m3, m4, m5, m6, m7, m8, m9, m10, m11, ml⟩ := tw_cells (R0.out)
   obtain ⟨b0, b1, b2, b3, b4, b5, hlb⟩ := six_row R1.out
   go_wp2_with (go_at_call 128; ((with_reducible refine (HE.out _).mono ?_); rintro _ w2 ⟨rfl, hb2⟩))
   have hz2 : wr.heap.size < w2.heap.size := Nat.lt_of_lt_of_le (by simp) hb2.size
   have hbr2 : Below wr.heap.size wr w2 := by exact BelowA
   have RH := hid ((hb2.block wr.heap.size (by simp)).trans (heap_alloc_new wr _))
   obtain ⟨X, hX⟩ : ∃ X, X = (w2.alloc (.cells #[.int .i64 x0, .int .i64 x1, .int .i64 x2, .int .i64 TE] 28)).alloc (.cells #[.int .i64 x0, .int .i64 x1, .int .i64 x2, .int .i64 TL] 28) := ⟨_, rfl⟩
   have hb2X : Below w2.heap.size w2 X := by rw [hX]; exact BelowA
   obtain ⟨rA, rB, hlA, hlB⟩ := al2 w2 _ _ _ _ X hX
   rw [← hX]
   clear hX m0 m1 m2 m3 m4 m5 m6 m7 m8 m9 m10 m11 ml b0 b1 b2 b3 b4 b5 hlb c0 c1 c2 c3 c4
   have hbrX : Below wr.heap.size wr X := hbr2.trans (hb2X.mono hbr2.size)
   have XA := hid rA
   have XB := hid rB
   have XH := hid ((hb2X.block wr.heap.size hz2).trans RH.out)
   have X0 := hid ((hbrX.block w.heap.size (by omega)).trans R0.out)
   have X1 := hid ((hbrX.block (w.heap.size + 1) (by omega)).trans R1.out)
   obtain ⟨m0, m1, m2, m3, m4, m5, m6, m7, m8, m9, m10, m11, ml⟩ := tw_cells (X0.out)
   obtain ⟨y0, y1, y2, y3, y4, hly⟩ := five_row XH.out
   clear rA rB
   refine wp_mixC (fun wc => Below (X.heap.size) X wc) 13 [.q [0, 1, 2, 3, 4, 5, 6, 7, 8, 9, 10, 11, 12]] [.q [13]] (by kernel_rfl) (by kernel_rfl) ((Below.refl _ _).drew) ?_
   intro Q' hQ'
   (rw [wpMixC]; simp only [pick, List.drop_succ_cons, List.drop_zero, List.head?_cons, Option.toList_some, List.cons_append, List.nil_append])
   (repeat (first | go_big_quiet_skip | (go_big_quiet_want; refine quiet_simple rfl ?_; go_big_quiet_op; go_big_quiet_on) | (go_big_quiet_want; refine quiet_cellB (ty := 3) rfl rfl (by kernel_rfl) (by assumption) (by first | omega | (simp; omega)) ?_; simp only [Act.put, List.setIfInBounds_toArray, List.set_cons_succ, List.set_cons_zero]; go_big_quiet_on)))
   (try refine wpQuiet_nil ?_)
   (rw [wpMixC])
   (rw [wpMix]; simp only [pick, List.drop_succ_cons, List.drop_zero, List.head?_cons, Option.toList_some, List.cons_append, List.nil_append])
   (repeat (first | (go_big_quiet_step (fail)) | (quiet_step (fail))))
   (try refine wpQuiet_nil ?_)
   (rw [wpMix])
   (refine hQ' _ _ ?_)
   go_wp2_with fail
   obtain ⟨X', hX'⟩ : ∃ X', X' = X.drew := ⟨_, rfl⟩
   have hbXX : Below X.heap.size X X' := by rw [hX']; exact BelowA
   have hzXX : X'.heap.size = X.heap.size := by rw [hX']; rfl
   rw [← hX']
   clear hX' m0 m1 m2 m3 m4 m5 m6 m7 m8 m9 m10 m11 ml y0 y1 y2 y3 y4 hly
   obtain ⟨m0, m1, m2, m3, m4, m5, m6, m7, m8, m9, m10, m11, ml⟩ := tw_cells ((hbXX.block w.heap.size (Array.getElem?_eq_some_iff.1 X0.out).1).trans X0.out)
   obtain ⟨b0, b1, b2, b3, b4, b5, hlb⟩ := six_row ((hbXX.block (w.heap.size + 1) (Array.getElem?_eq_some_iff.1 X1.out).1).trans X1.out)
   obtain ⟨n0, n1, n2, n3, hln⟩ := four_row ((hbXX.block w2.heap.size hlA).trans XA.out)
   obtain ⟨o0, o1, o2, o3, hlo⟩ := four_row ((hbXX.block (w2.heap.size + 1) hlB).trans XB.out)
   have hbrX' : Below wr.heap.size wr X' := hbrX.trans (hbXX.mono hbrX.size)
   have HBX' := hid hbrX'
   have hzX' := hbrX'.size
   clear hb2 hbr2 hb2X hbrX hbXX hbrX' hbx
   refine wp_mixC (fun wc => Below (X'.heap.size) X' wc) 9 [.q [0, 1, 2, 4, 5, 6], .f [3, 7], .q [8]] [.q [9]] (by kernel_rfl) (by kernel_rfl) ((Below.refl _ _).drew) ?_
   intro Q' hQ'
   (rw [wpMixC]; simp only [pick, List.drop_succ_cons, List.drop_zero, List.head?_cons, Option.toList_some, List.cons_append, List.nil_append])
   (repeat (first | go_big_quiet_skip | (go_big_quiet_want; refine quiet_simple rfl ?_; go_big_quiet_op; go_big_quiet_on) | (go_big_quiet_want; refine quiet_agg4B (ty := 28) rfl rfl (by kernel_rfl) (by assumption) (by assumption) (by assumption) (by assumption) (by first | omega | (simp; omega)) ?_; simp only [Act.put, List.setIfInBounds_toArray, List.set_cons_succ, List.set_cons_zero]; go_big_quiet_on) | (go_big_quiet_want; refine quiet_agg6B (ty := 75) rfl rfl (by kernel_rfl) (by assumption) (by assumption) (by assumption) (by assumption) (by assumption) (by assumption) (by first | omega | (simp; omega)) ?_; simp only [Act.put, List.setIfInBounds_toArray, List.set_cons_succ, List.set_cons_zero]; go_big_quiet_on) | (go_big_quiet_want; refine quiet_agg12B (ty := 134) rfl rfl (by kernel_rfl) (by assumption) (by assumption) (by assumption) (by assumption) (by assumption) (by assumption) (by assumption) (by assumption) (by assumption) (by assumption) (by assumption) (by assumption) (by first | omega | (simp; omega)) ?_; simp only [Act.put, List.setIfInBounds_toArray, List.set_cons_succ, List.set_cons_zero]; go_big_quiet_on)))
   (try refine wpQuiet_nil ?_)
   (rw [wpMixC]; simp only [pick, List.drop_succ_cons, List.drop_zero, List.head?_cons, Option.toList_some, List.cons_append, List.nil_append])
   (rw [wpSteps]; go_wp2_with ((first | (go_at_call 94; ((with_reducible refine (HC1.out _).mono ?_); rintro _ w3 ⟨rfl, hb3⟩)) | (go_at_call 94; ((with_reducible refine (HC2.out _).mono ?_); rintro _ w4 ⟨rfl, hb4⟩)))); rw [contF]; refine ⟨?_, ?_⟩; (next => exact BelowA))
   (rw [wpSteps]; go_wp2_with ((first | (go_at_call 94; ((with_reducible refine (HC1.out _).mono ?_); rintro _ w3 ⟨rfl, hb3⟩)) | (go_at_call 94; ((with_reducible refine (HC2.out _).mono ?_); rintro _ w4 ⟨rfl, hb4⟩)))); rw [contF]; refine ⟨?_, ?_⟩; (next => exact BelowA))
   (rw [wpSteps])
   (rw [wpMixC]; simp only [pick, List.drop_succ_cons, List.drop_zero, List.head?_cons, Option.toList_some, List.cons_append, List.nil_append])
   (repeat (first | go_big_quiet_skip | (go_big_quiet_want; refine quiet_simple rfl ?_; go_big_quiet_op; go_big_quiet_on) | (go_big_quiet_want; refine quiet_agg4B (ty := 28) rfl rfl (by kernel_rfl) (by assumption) (by assumption) (by assumption) (by assumption) (by first | omega | (simp; omega)) ?_; simp only [Act.put, List.setIfInBounds_toArray, List.set_cons_succ, List.set_cons_zero]; go_big_quiet_on) | (go_big_quiet_want; refine quiet_agg6B (ty := 75) rfl rfl (by kernel_rfl) (by assumption) (by assumption) (by assumption) (by assumption) (by assumption) (by assumption) (by first | omega | (simp; omega)) ?_; simp only [Act.put, List.setIfInBounds_toArray, List.set_cons_succ, List.set_cons_zero]; go_big_quiet_on) | (go_big_quiet_want; refine quiet_agg12B (ty := 134) rfl rfl (by kernel_rfl) (by assumption) (by assumption) (by assumption) (by assumption) (by assumption) (by assumption) (by assumption) (by assumption) (by assumption) (by assumption) (by assumption) (by assumption) (by first | omega | (simp; omega)) ?_; simp only [Act.put, List.setIfInBounds_toArray, List.set_cons_succ, List.set_cons_zero]; go_big_quiet_on)))
   (try refine wpQuiet_nil ?_)
   (rw [wpMixC])
   (rw [wpMix]; simp only [pick, List.drop_succ_cons, List.drop_zero, List.head?_cons, Option.toList_some, List.cons_append, List.nil_append])
   (repeat (first | (go_big_quiet_step (fail)) | (quiet_step (fail))))
   (try refine wpQuiet_nil ?_)
   (rw [wpMix])
   (refine hQ' _ _ ?_)
   have hbX4 : Below X'.heap.size X' w4 := by exact BelowA
   have hbr4 : Below wr.heap.size wr w4 := HBX'.out.trans (hbX4.mono HBX'.out.size)
   have hz4 := hbr4.size
   obtain ⟨s0, s1, fs0, fs1, hls⟩ := two_cells ((hbr4.block (w.heap.size + 1 + 1 + 1) (by omega)).trans HR.out)
   clear fs0 fs1 hb3 hb4 hbX4 m0 m1 m2 m3 m4 m5 m6 m7 m8 m9 m10 m11 ml b0 b1 b2 b3 b4 b5 hlb n0 n1 n2 n3 hln o0 o1 o2 o3 hlo
   rcases hE1 with rfl | rfl | rfl
   all_goals rcases hE2 with rfl | rfl | rfl
   all_goals
    go_wp2_with (go_at_call 129; refine (HPL.out _ _ (by have h := HOL.out; simp at h; omega) (by have h := HOH.out; simp at h; omega) _).mono ?_; rintro _ w5 ⟨rfl, hb5⟩; have hb05 : Below wr.heap.size wr w5 := (by exact BelowA); have HB05 := hid hb05; have HR5 := hid ((hb05.block (w.heap.size + 1 + 1 + 1) (by omega)).trans HR.out); obtain ⟨g0, g1, fg0, fg1, hlg⟩ := two_cells HR5.out)
    all_goals
     go_roundw
     case rel => exact ⟨k + 1, nl, nh, by omega, by go_num, hid (two_set HR5.out), HNX, (hbel.trans (HB05.out.mono (by omega))).trans (((Below.refl _ _).setCell (by simp) _).setCell (by simp) _)⟩
     case measure => simp [intOf]; omega
  ·have hkl : k = l.length := by omega
   subst hkl
   have HV : Hid (SC = ⟨ol, oh⟩) := hid (by rw [← HSN.out]; exact HF.out)
   obtain ⟨g0, g1, fg0, fg1, hlg⟩ := two_cells R2.out
   have hro := HR.out
   obtain ⟨s0, s1, fs0, fs1, hls⟩ := two_cells hro
   clear hro
   go_wp2_with fail
   ((try simp only [Exit.inBlock, Exit.then]); refine bodyPost_ret (v := .agg #[.int .i64 ol, .int .i64 oh]) ?_ rfl ?_; (next => simp [results, Try.results96, go_sem, hlg, g0, g1]))
   exact ⟨by rw [HV.out]; rfl, by exact BelowA⟩
end Go.Proofs.Ytlmdmpjfehpjeaa
set_option linter.unusedVariables false
set_option linter.unusedSimpArgs false
namespace Go.Proofs.Ytlmdmpjfehpjeaa
open Go.RowKit
def TMod.inE (m : TMod) (b : TBox) (l : List THit) : Int := firstNZ [firstNZ [firstNZ [m.err, b.err], hitsE l], unl (m.canB b) 12]
theorem inE_ok {m : TMod} {b : TBox} {l : List THit} (h : m.inE b l = 0) : m.Ok ∧ b.err = 0 ∧ m.canBe b ∧ hitsE l = 0 := by
 unfold TMod.inE at h
 obtain ⟨h1, h2⟩ := two_zero h
 obtain ⟨h3, h4⟩ := two_zero h1
 obtain ⟨h5, h6⟩ := two_zero h3
 rw [unl_zero (by decide)] at h2
 exact ⟨err_ok h5, h6, canB_iff.1 h2, h4⟩
set_option maxRecDepth 100000 in
set_option maxHeartbeats 8000000 in
theorem track_ScoresIn (m : TMod) (b : TBox) (l : List THit) (v : Value) (w : World) (h : HitsAt w v l) (hl : b.lo.inS 20 = true) (hh : b.hi.inS 20 = true) :
  Calls Try.prog 38 #[m.v, b.v, v] w fun e w' => (m.inE b l = 0 → e = .returned (.tuple #[(m.scores b l).v, .int .i64 0])) ∧ (m.inE b l ≠ 0 → e = .returned (.tuple #[.agg #[.int .i64 0, .int .i64 0], .int .i64 (m.inE b l)])) ∧ Below w.heap.size w w' := by
 have HO : Hid (∀ W, Below w.heap.size w W → Calls Try.prog 95 #[m.v, b.v, v] W fun e w' => e = .returned (.tuple #[m.v, .int .i64 (firstNZ [firstNZ [m.err, b.err], hitsE l])]) ∧ Below W.heap.size W w') := hid (fun W hb => track_openHits m b l v W (h.below hb))
 have HS : Hid (∀ W, Calls Try.prog 93 #[m.v, b.v] W fun e w' => e = .returned (.tuple #[b.squares.v, .bool (m.canB b)]) ∧ Below W.heap.size W w') := hid (fun W => track_squares m b W hl hh)
 have HFI : Hid (∀ v w, IntsAt w v [firstNZ [firstNZ [m.err, b.err], hitsE l], unl (m.canB b) 12] → Calls Try.prog 69 #[v] w fun e w' => e = .returned (.int .i64 (m.inE b l)) ∧ w = w') := hid (fun v w h => track_first _ v w h)
 have HR : Hid (m.inE b l = 0 → ∀ W, Below w.heap.size w W → Calls Try.prog 96 #[m.v, b.v, v] W fun e w' => e = .returned (m.scores b l).v ∧ Below W.heap.size W w') := hid (fun h0 W hb => by
  obtain ⟨o1, o2, o3, o4⟩ := inE_ok h0
  obtain ⟨g1, g2⟩ := hitsE_ok o4
  exact track_scores m b l v W (h.below hb) g1 g2 o1 hl hh o3)
 obtain ⟨ao, cap, rfl, _, _, _⟩ := h.opn
 clear h hl hh
 generalize m.inE b l = E1 at HFI HR ⊢
 generalize firstNZ [firstNZ [m.err, b.err], hitsE l] = E0 at HO HFI
 generalize m.canB b = CB at HS HFI
 generalize b.squares = SQ at HS
 generalize m.scores b l = SC at HR ⊢
 obtain ⟨px, py, pz, tm, tk, lo, hi, li, ea, la, no, mi⟩ := m
 obtain ⟨⟨lx, ly, lz⟩, ⟨hx, hy, hz⟩⟩ := b
 obtain ⟨sl, sh⟩ := SQ
 obtain ⟨rl, rh⟩ := SC
 unfold TMod.v TBox.v Rg.v at *
 simp only at *
 obtain ⟨W0, hW0⟩ : ∃ W0, W0 = ((w.alloc (.cells #[.int .i64 px, .int .i64 py, .int .i64 pz, .int .i64 tm, .int .i64 tk, .int .i64 lo, .int .i64 hi, .int .i64 li, .int .i64 ea, .int .i64 la, .int .i64 no, .int .i64 mi] 26)).alloc (.cells #[.int .i64 lx, .int .i64 ly, .int .i64 lz, .int .i64 hx, .int .i64 hy, .int .i64 hz] 75)).alloc (.cells #[.int .i64 0, .int .i64 0] 24) := ⟨_, rfl⟩
 have hbW0 : Below w.heap.size w W0 := by rw [hW0]; exact BelowA
 obtain ⟨q0, q1, q2⟩ := al3 w _ _ _ _ _ _ W0 hW0
 have l1 := (Array.getElem?_eq_some_iff.1 q1).1
 have l2 := (Array.getElem?_eq_some_iff.1 q2).1
 have Q1 := hid q1
 have Q2 := hid q2
 have hzW0 := hbW0.size
 clear q0 q1 q2
 have hcase : E1 = 0 ∨ E1 ≠ 0 := by omega
 rcases hcase with h1 | h1
 ·subst h1
  have HR2 := hid (HR.out rfl)
  go_enter Try.func38, Try.ntmps38
  go_wp2_with (first | (go_at_call 95; rw [← hW0]; refine (HO.out _ hbW0).mono ?_; rintro _ w1 ⟨rfl, hb1⟩; have hz1 := hb1.size; obtain ⟨b0, b1, b2, b3, b4, b5, hlb⟩ := six_row ((hb1.block (w.heap.size + 1) l1).trans Q1.out)) | (go_at_call 93; obtain ⟨WB, hWB⟩ : ∃ WB, WB = w1.alloc (.cells #[.int .i64 px, .int .i64 py, .int .i64 pz, .int .i64 tm, .int .i64 tk, .int .i64 lo, .int .i64 hi, .int .i64 li, .int .i64 ea, .int .i64 la, .int .i64 no, .int .i64 mi] 134) := ⟨_, rfl⟩; rw [← hWB]; have hbWB : Below w1.heap.size w1 WB := (by rw [hWB]; exact BelowA); have r0 : WB.heap[w1.heap.size]? = some (.cells #[.int .i64 px, .int .i64 py, .int .i64 pz, .int .i64 tm, .int .i64 tk, .int .i64 lo, .int .i64 hi, .int .i64 li, .int .i64 ea, .int .i64 la, .int .i64 no, .int .i64 mi] 134 (0, 0)) := (by rw [hWB]; exact heap_alloc_new w1 _); clear hWB; refine (HS.out _).mono ?_; rintro _ w2 ⟨rfl, hb2⟩; have hb02 : Below W0.heap.size W0 w2 := (hb1.trans (hbWB.mono hz1)).trans (hb2.mono (Nat.le_trans hz1 hbWB.size)); have HB02 := hid hb02; have R0 := hid ((hb2.block w1.heap.size (Array.getElem?_eq_some_iff.1 r0).1).trans r0); clear b0 b1 b2 b3 b4 b5 hlb; obtain ⟨b0, b1, b2, b3, b4, b5, hlb⟩ := six_row ((hb02.block (w.heap.size + 1) l1).trans Q1.out); obtain ⟨m0, m1, m2, m3, m4, m5, m6, m7, m8, m9, m10, m11, ml⟩ := tw_cells (R0.out); have ml' : w1.heap.size < w2.heap.size + 1 := Nat.lt_succ_of_lt ml; have hlb' : w.heap.size + 1 < w2.heap.size + 1 := Nat.lt_succ_of_lt hlb; obtain ⟨g0, g1, fg0, fg1, hlg⟩ := two_cells ((hb02.block (w.heap.size + 1 + 1) l2).trans Q2.out); have hlg' : w.heap.size + 1 + 1 < w2.heap.size + 1 := Nat.lt_succ_of_lt hlg; have hbf : Below w.heap.size w w2 := hbW0.trans (hb02.mono hzW0)) | (go_at_call 72; refine (track_unless _ _ _).mono ?_; rintro _ _ ⟨rfl, rfl⟩) | (go_at_call 69; refine (HFI.out _ _ (intsAt_new _ _ _ _ _ rfl (by simp) (by first | rfl | simp))).mono ?_; rintro _ _ ⟨rfl, rfl⟩) | (go_at_call 96; have hbw : Below w2.heap.size w2 ((w2.alloc (.cells #[.int .i64 sl, .int .i64 sh] 157)).alloc (.cells #[.int .i64 E0, .int .i64 (unl CB 12)] 30)) := (by exact BelowA); have hbw2 := hbf.trans (hbw.mono hbf.size); refine (HR2.out _ hbw2).mono ?_; rintro _ w3 ⟨rfl, hb3⟩; have hb23 : Below w2.heap.size w2 w3 := hbw.trans (hb3.mono hbw.size); have hb03 := HB02.out.trans (hb23.mono HB02.out.size); have hbE : Below w.heap.size w w3 := hbW0.trans (hb03.mono hzW0); clear g0 g1 fg0 fg1 hlg hlg'; obtain ⟨g0, g1, fg0, fg1, hlg⟩ := two_cells ((hb03.block (w.heap.size + 1 + 1) l2).trans Q2.out)))
  ((try simp only [Exit.inBlock, Exit.then]); refine bodyPost_ret (v := .tuple #[.agg #[.int .i64 rl, .int .i64 rh], .int .i64 0]) ?_ rfl ?_; (next => simp [results, Try.results38, go_sem, hlg, g0, g1]))
  exact ⟨fun _ => rfl, fun h => absurd rfl h, by exact BelowA⟩
 ·have hne : (E1 != 0) = true := by simpa using h1
  have HN := hid h1
  clear h1
  go_enter Try.func38, Try.ntmps38
  go_wp2_with (first | (go_at_call 95; rw [← hW0]; refine (HO.out _ hbW0).mono ?_; rintro _ w1 ⟨rfl, hb1⟩; have hz1 := hb1.size; obtain ⟨b0, b1, b2, b3, b4, b5, hlb⟩ := six_row ((hb1.block (w.heap.size + 1) l1).trans Q1.out)) | (go_at_call 93; obtain ⟨WB, hWB⟩ : ∃ WB, WB = w1.alloc (.cells #[.int .i64 px, .int .i64 py, .int .i64 pz, .int .i64 tm, .int .i64 tk, .int .i64 lo, .int .i64 hi, .int .i64 li, .int .i64 ea, .int .i64 la, .int .i64 no, .int .i64 mi] 134) := ⟨_, rfl⟩; rw [← hWB]; have hbWB : Below w1.heap.size w1 WB := (by rw [hWB]; exact BelowA); have r0 : WB.heap[w1.heap.size]? = some (.cells #[.int .i64 px, .int .i64 py, .int .i64 pz, .int .i64 tm, .int .i64 tk, .int .i64 lo, .int .i64 hi, .int .i64 li, .int .i64 ea, .int .i64 la, .int .i64 no, .int .i64 mi] 134 (0, 0)) := (by rw [hWB]; exact heap_alloc_new w1 _); clear hWB; refine (HS.out _).mono ?_; rintro _ w2 ⟨rfl, hb2⟩; have hb02 : Below W0.heap.size W0 w2 := (hb1.trans (hbWB.mono hz1)).trans (hb2.mono (Nat.le_trans hz1 hbWB.size)); have HB02 := hid hb02; have R0 := hid ((hb2.block w1.heap.size (Array.getElem?_eq_some_iff.1 r0).1).trans r0); clear b0 b1 b2 b3 b4 b5 hlb; obtain ⟨b0, b1, b2, b3, b4, b5, hlb⟩ := six_row ((hb02.block (w.heap.size + 1) l1).trans Q1.out); obtain ⟨m0, m1, m2, m3, m4, m5, m6, m7, m8, m9, m10, m11, ml⟩ := tw_cells (R0.out); have ml' : w1.heap.size < w2.heap.size + 1 := Nat.lt_succ_of_lt ml; have hlb' : w.heap.size + 1 < w2.heap.size + 1 := Nat.lt_succ_of_lt hlb; obtain ⟨g0, g1, fg0, fg1, hlg⟩ := two_cells ((hb02.block (w.heap.size + 1 + 1) l2).trans Q2.out); have hlg' : w.heap.size + 1 + 1 < w2.heap.size + 1 := Nat.lt_succ_of_lt hlg; have hbf : Below w.heap.size w w2 := hbW0.trans (hb02.mono hzW0)) | (go_at_call 72; refine (track_unless _ _ _).mono ?_; rintro _ _ ⟨rfl, rfl⟩) | (go_at_call 69; refine (HFI.out _ _ (intsAt_new _ _ _ _ _ rfl (by simp) (by first | rfl | simp))).mono ?_; rintro _ _ ⟨rfl, rfl⟩))
  ((try simp only [Exit.inBlock, Exit.then]); refine bodyPost_ret (v := .tuple #[.agg #[.int .i64 0, .int .i64 0], .int .i64 E1]) ?_ rfl ?_; (next => simp [results, Try.results38, go_sem, hlg, hlg', g0, g1]))
  exact ⟨fun h => absurd h HN.out, fun _ => rfl, by exact BelowA⟩
end Go.Proofs.Ytlmdmpjfehpjeaa
set_option linter.unusedVariables false
set_option linter.unusedSimpArgs false
namespace Go.Proofs.Ytlmdmpjfehpjeaa
def dig (n : Nat) : List Int := if h : n = 0 then [] else ((n % 1000000000 : Nat) : Int) :: dig (n / 1000000000)
termination_by n
decreasing_by omega
def sg (z : Int) : Int := if z < 0 then -1 else if z = 0 then 0 else 1
end Go.Proofs.Ytlmdmpjfehpjeaa
set_option linter.unusedVariables false
set_option linter.unusedSimpArgs false
namespace Go.Proofs.Ytlmdmpjfehpjeaa
open Go.RowKit
def DigIn (w : World) (v : Value) (l : List Int) (N : Nat → Prop) : Prop := SlIn w v l.length 1 (fun i _ => .int .i64 (nth l i)) N
theorem DigIn.ints {w : World} {v : Value} {l : List Int} {N : Nat → Prop} (h : DigIn w v l N) : IntsAt w v l := SlIn.sl h
theorem DigIn.keep {w w' : World} {v : Value} {l : List Int} {N N' : Nat → Prop} (h : DigIn w v l N) (hs : w.heap.size ≤ w'.heap.size) (hk : ∀ b, b < w.heap.size → N b → w'.heap[b]? = w.heap[b]? ∧ N' b) : DigIn w' v l N' := SlIn.keep h hs hk
theorem DigIn.mono {w w' : World} {v : Value} {l : List Int} {N N' : Nat → Prop} (h : DigIn w v l N) (hb : Below w.heap.size w w') (hk : ∀ b, b < w.heap.size → N b → N' b) : DigIn w' v l N' :=
 DigIn.keep h hb.size fun b hlt hN => ⟨hb.block b hlt, hk b hlt hN⟩
theorem IntsAt.dig {w : World} {v : Value} {l : List Int} (h : IntsAt w v l) : DigIn w v l (fun b => b < w.heap.size) := by
 obtain ⟨ao, cap, rfl, h1, h2, h3, h4⟩ := h
 exact ⟨ao, cap, rfl, h1, h2, fun h0 => by obtain ⟨b, off, e, hlt, hc⟩ := h3 h0; exact ⟨b, off, e, hlt, hlt, hc⟩, h4⟩
def WideAt (w : World) (v : Value) (z : Int) (N : Nat → Prop) : Prop := ∃ ao cap, v = .agg #[.int .i64 (sg z), .slice ao (dig z.natAbs).length cap] ∧ DigIn w (.slice ao (dig z.natAbs).length cap) (dig z.natAbs) N
theorem WideAt.keep {w w' : World} {v : Value} {z : Int} {N N' : Nat → Prop} (h : WideAt w v z N) (hs : w.heap.size ≤ w'.heap.size) (hk : ∀ b, b < w.heap.size → N b → w'.heap[b]? = w.heap[b]? ∧ N' b) : WideAt w' v z N' := by
 obtain ⟨ao, cap, rfl, h1⟩ := h
 exact ⟨ao, cap, rfl, h1.keep hs hk⟩
theorem WideAt.mono {w w' : World} {v : Value} {z : Int} {N N' : Nat → Prop} (h : WideAt w v z N) (hb : Below w.heap.size w w') (hk : ∀ b, b < w.heap.size → N b → N' b) : WideAt w' v z N' :=
 WideAt.keep h hb.size fun b hlt hN => ⟨hb.block b hlt, hk b hlt hN⟩
end Go.Proofs.Ytlmdmpjfehpjeaa
set_option linter.unusedVariables false
set_option linter.unusedSimpArgs false
namespace Go.Proofs.Ytlmdmpjfehpjeaa
open Go.RowKit
end Go.Proofs.Ytlmdmpjfehpjeaa
set_option linter.unusedVariables false
set_option linter.unusedSimpArgs false
namespace Go.Proofs.Ytlmdmpjfehpjeaa
open Go.RowKit
end Go.Proofs.Ytlmdmpjfehpjeaa
set_option linter.unusedVariables false
set_option linter.unusedSimpArgs false
namespace Go.Proofs.Ytlmdmpjfehpjeaa
open Go.RowKit
theorem DigIn.shape {w : World} {v : Value} {l : List Int} {N : Nat → Prop} (h : DigIn w v l N) : ∃ ao cap, v = .slice ao l.length cap := by
 obtain ⟨ao, cap, rfl, _⟩ := h
 exact ⟨ao, cap, rfl⟩
end Go.Proofs.Ytlmdmpjfehpjeaa
set_option linter.unusedVariables false
set_option linter.unusedSimpArgs false
namespace Go.Proofs.Ytlmdmpjfehpjeaa
open Go.RowKit
end Go.Proofs.Ytlmdmpjfehpjeaa
set_option linter.unusedVariables false
set_option linter.unusedSimpArgs false
namespace Go.Proofs.Ytlmdmpjfehpjeaa
open Go.RowKit
theorem WideAt.shape {w : World} {v : Value} {z : Int} {N : Nat → Prop} (h : WideAt w v z N) : ∃ ao n cap, v = .agg #[.int .i64 (sg z), .slice ao n cap] := by
 obtain ⟨ao, cap, rfl, _⟩ := h
 exact ⟨ao, _, cap, rfl⟩
end Go.Proofs.Ytlmdmpjfehpjeaa
set_option linter.unusedVariables false
set_option linter.unusedSimpArgs false
namespace Go.Proofs.Ytlmdmpjfehpjeaa
open Go.RowKit
end Go.Proofs.Ytlmdmpjfehpjeaa
set_option linter.unusedVariables false
set_option linter.unusedSimpArgs false
namespace Go.Proofs.Ytlmdmpjfehpjeaa
end Go.Proofs.Ytlmdmpjfehpjeaa
set_option linter.unusedVariables false
set_option linter.unusedSimpArgs false
namespace Go.Proofs.Ytlmdmpjfehpjeaa
open Go.RowKit
end Go.Proofs.Ytlmdmpjfehpjeaa
set_option linter.unusedVariables false
set_option linter.unusedSimpArgs false
namespace Go.Proofs.Ytlmdmpjfehpjeaa
open Go.RowKit
def RatAt (w : World) (v : Value) (n d : Int) (N : Nat → Prop) : Prop := ∃ a b c e, v = .agg #[a, b, c, e] ∧ WideAt w (.agg #[a, b]) n N ∧ WideAt w (.agg #[c, e]) d N
theorem RatAt.mono {w w' : World} {v : Value} {n d : Int} {N N' : Nat → Prop} (h : RatAt w v n d N) (hb : Below w.heap.size w w') (hk : ∀ b, b < w.heap.size → N b → N' b) : RatAt w' v n d N' := by
 obtain ⟨a, b, c, e, rfl, h1, h2⟩ := h
 exact ⟨a, b, c, e, rfl, h1.mono hb hk, h2.mono hb hk⟩
theorem RatAt.shape {w : World} {v : Value} {n d : Int} {N : Nat → Prop} (h : RatAt w v n d N) : ∃ ao k cap bo m cap2, v = .agg #[.int .i64 (sg n), .slice ao k cap, .int .i64 (sg d), .slice bo m cap2] ∧ WideAt w (.agg #[.int .i64 (sg n), .slice ao k cap]) n N ∧ WideAt w (.agg #[.int .i64 (sg d), .slice bo m cap2]) d N := by
 obtain ⟨a, b, c, e, rfl, ⟨ao, cap, h1, h2⟩, ⟨bo, cap2, h3, h4⟩⟩ := h
 cases h1; cases h3
 exact ⟨ao, _, cap, bo, _, cap2, rfl, ⟨ao, cap, rfl, h2⟩, ⟨bo, cap2, rfl, h4⟩⟩
def rN (n d : Int) : Int := n / (Int.gcd n d : Int)
def rD (n d : Int) : Int := d / (Int.gcd n d : Int)
theorem r_spec {n d : Int} (hd : 0 < d) : 0 < (Int.gcd n d : Int) ∧ (Int.gcd n d : Int) * rN n d = n ∧ (Int.gcd n d : Int) * rD n d = d ∧ 0 < rD n d ∧ (rN n d).natAbs ≤ n.natAbs ∧ (rD n d).natAbs ≤ d.natAbs := by
 have hg : 0 < Int.gcd n d := Nat.pos_of_ne_zero (fun h => by rw [Int.gcd_eq_zero_iff] at h; omega)
 have h1 : (Int.gcd n d : Int) * rN n d = n := Int.mul_ediv_cancel' (Int.gcd_dvd_left ..)
 have h2 : (Int.gcd n d : Int) * rD n d = d := Int.mul_ediv_cancel' (Int.gcd_dvd_right ..)
 have h3 : ∀ x y : Int, (Int.gcd n d : Int) * x = y → x.natAbs ≤ y.natAbs := by
  intro x y e
  rw [← e, Int.natAbs_mul]
  exact Nat.le_mul_of_pos_left _ (by omega)
 refine ⟨by omega, h1, h2, ?_, h3 _ _ h1, h3 _ _ h2⟩
 rcases Int.lt_trichotomy 0 (rD n d) with h | h | h
 ·exact h
 ·rw [← h] at h2; omega
 ·have := Int.mul_neg_of_pos_of_neg (show 0 < (Int.gcd n d : Int) by omega) h; omega
end Go.Proofs.Ytlmdmpjfehpjeaa
set_option linter.unusedVariables false
set_option linter.unusedSimpArgs false
namespace Go.Proofs.Ytlmdmpjfehpjeaa
end Go.Proofs.Ytlmdmpjfehpjeaa
set_option linter.unusedVariables false
set_option linter.unusedSimpArgs false
namespace Go.Proofs.Ytlmdmpjfehpjeaa
instance : DecidableEq V3 := fun a b => decidable_of_iff (a.x = b.x ∧ a.y = b.y ∧ a.z = b.z) (by
 obtain ⟨a1, a2, a3⟩ := a; obtain ⟨b1, b2, b3⟩ := b; simp [V3.mk.injEq])
theorem lagrange (a b : V3) : 0 ≤ a.dot a * b.dot b - a.dot b * a.dot b := by
 have e : a.dot a * b.dot b - a.dot b * a.dot b = (a.x * b.y - a.y * b.x) * (a.x * b.y - a.y * b.x) + (a.x * b.z - a.z * b.x) * (a.x * b.z - a.z * b.x) + (a.y * b.z - a.z * b.y) * (a.y * b.z - a.z * b.y) := by
  unfold V3.dot; grind
 have h1 := sq_nn (a.x * b.y - a.y * b.x)
 have h2 := sq_nn (a.x * b.z - a.z * b.x)
 have h3 := sq_nn (a.y * b.z - a.z * b.y)
 omega
end Go.Proofs.Ytlmdmpjfehpjeaa
set_option linter.unusedVariables false
set_option linter.unusedSimpArgs false
namespace Go.Proofs.Ytlmdmpjfehpjeaa
open Go.RowKit
theorem track_divisor (a b : Int) (w : World) (h : 0 ≤ a) (h' : a ≤ 9223372036854775807) (hb : 0 < b) (hb' : b ≤ 9223372036854775807) :
  Calls Try.prog 79 #[.int .i64 a, .int .i64 b] w fun e w' => e = .returned (.int .i64 (Int.gcd a b : Nat)) ∧ Below w.heap.size w w' := by
 obtain ⟨g, hg⟩ : ∃ g, g = Int.gcd a b := ⟨_, rfl⟩
 have HG := hid hg
 clear hg
 go_enter Try.func79, Try.ntmps79
 go_wp2_with fail
 go_loopw [0, 1] (fun x y wr => ∃ p q : Int, x = .int .i64 p ∧ y = .int .i64 q ∧ Hid (g = Int.gcd p q) ∧ -9223372036854775808 ≤ p ∧ p ≤ 9223372036854775807 ∧ -9223372036854775807 ≤ q ∧ q ≤ 9223372036854775807 ∧ (q = 0 → -9223372036854775807 ≤ p) ∧ ∃ m, wr = w.drewN m) (fun _ y _ => (intOf y).natAbs)
 case atStart => exact ⟨a, b, rfl, rfl, HG, by omega, h', by omega, hb', by omega, 0, rfl⟩
 case round =>
  obtain ⟨p, q, rfl, rfl, hG, p1, p2, q1, q2, hq, m, rfl⟩ := hrel
  by_cases hz : q = 0
  ·subst hz
   go_wp2_with fail
   all_goals
    go_ret
    refine ⟨ret_int ?_, Below.drewN m (Below.refl _ _)⟩
    rw [HG.out.symm, hG.out, Int.gcd_zero_right]
    omega
  ·have hz' : (q != 0) = true := by simpa using hz
   have HT := hid (tmod_abs p q hz)
   have HT2 := hid (gcd_tmod p q)
   go_wp2_with fail
   go_quiet (fail)
   go_wp2
   go_roundw
   case rel => exact ⟨q, p.tmod q, rfl, rfl, hid (by rw [HT2.out]; exact hG.out), by omega, by omega, by have := HT.out; omega, by have := HT.out; omega, by omega, m + nq, by simp⟩
   case measure => simp only [intOf]; exact HT.out
def TMod.off (m : TMod) (p : V3) : V3 := ⟨p.x - m.px, p.y - m.py, p.z - m.pz⟩
def TMod.num (m : TMod) (s p : V3) : Int := (m.off p).dot (m.off p) * s.dot s - (m.off p).dot s * (m.off p).dot s
theorem row_n {Q : Prop} {w w1 : World} {a : Array Value} {t : TypeId} (hb : Below (w.alloc (.cells a t)).heap.size (w.alloc (.cells a t)) w1) (k : w1.heap[w.heap.size]? = some (.cells a t (0, 0)) → Q) : Q := k ((hb.block _ (by simp)).trans (heap_alloc_new w _))
theorem off_in {m : TMod} {p : V3} (ho : m.Ok) (hp : p.inS 1000 = true) : (m.off p).inS 2000 = true := by
 rw [inS_iff] at *
 have h1 := ho.px; have h2 := ho.py; have h3 := ho.pz
 unfold TMod.off; simp only; omega
theorem near_nums {m : TMod} {s p : V3} (ho : m.Ok) (hs : s.inS 20 = true) (hpm : m.permit s) (hp : p.inS 1000 = true) :
  s.sm s ∧ (m.off p).sm s ∧ (m.off p).sm (m.off p) ∧ (1 ≤ s.dot s ∧ s.dot s ≤ 1200) ∧ (0 ≤ (m.off p).dot (m.off p) ∧ (m.off p).dot (m.off p) ≤ 12000000) ∧ (-120000 ≤ (m.off p).dot s ∧ (m.off p).dot s ≤ 120000) ∧
  (0 ≤ (m.off p).dot (m.off p) * s.dot s ∧ (m.off p).dot (m.off p) * s.dot s ≤ 14400000000) ∧ (0 ≤ (m.off p).dot s * (m.off p).dot s ∧ (m.off p).dot s * (m.off p).dot s ≤ 14400000000) ∧ (0 ≤ m.num s p ∧ m.num s p ≤ 14400000000) := by
 have hw := off_in ho hp
 have h1 := dot_sz hs hs (by omega) (by omega)
 have h2 := dot_sz hw hs (by omega) (by omega)
 have h3 := dot_sz hw hw (by omega) (by omega)
 have hS := hpm.1
 have hS2 := hpm.2
 have hl := ho.lo
 have hh := ho.hi
 have hn := V3.dot_self (m.off p)
 have hb : -120000 ≤ (m.off p).dot s ∧ (m.off p).dot s ≤ 120000 := by unfold V3.dot; omega
 have hc : (m.off p).dot (m.off p) ≤ 12000000 := by unfold V3.dot; omega
 have hbb := mul_rg hb hb (C := 14400000000) (by decide)
 have hac := mul_rg (x := (m.off p).dot (m.off p)) (y := s.dot s) (A := 12000000) (B := 1200) (C := 14400000000) (by omega) (by omega) (by decide)
 have hbn := sq_nn ((m.off p).dot s)
 have han := Int.mul_nonneg hn (show 0 ≤ s.dot s by omega)
 have hlg := lagrange (m.off p) s
 refine ⟨?_, ?_, ?_, by omega, ⟨hn, hc⟩, hb, ⟨han, by omega⟩, ⟨hbn, by omega⟩, ⟨hlg, by unfold TMod.num; omega⟩⟩
 all_goals (unfold V3.sm; omega)
theorem r_pos {n d : Int} (hn : 0 ≤ n) (hd : 0 < d) : 0 ≤ rN n d ∧ rN n d ≤ n ∧ 1 ≤ rD n d ∧ rD n d ≤ d ∧ 1 ≤ (Int.gcd n d : Int) ∧ (Int.gcd n d : Int) ≤ d ∧ n.tdiv (Int.gcd n d) = rN n d ∧ d.tdiv (Int.gcd n d) = rD n d := by
 obtain ⟨h1, h2, h3, h4, h5, h6⟩ := r_spec (n := n) hd
 have hg : (Int.gcd n d : Int) ≤ d := Int.le_of_dvd hd (Int.gcd_dvd_right ..)
 have hN : 0 ≤ rN n d := Int.ediv_nonneg hn (by omega)
 exact ⟨hN, by omega, by omega, by omega, by omega, hg, Int.tdiv_eq_ediv_of_nonneg hn, Int.tdiv_eq_ediv_of_nonneg (by omega)⟩
set_option maxRecDepth 100000 in
set_option maxHeartbeats 8000000 in
theorem track_NearestTo (m : TMod) (s p : V3) (w : World) :
    Calls Try.prog 17 #[m.v, s.v, p.v] w fun e w' => (firstNZ [m.both s, plE p] = 0 → rN (m.num s p) (s.dot s) ≤ 1000000000 → e = .returned (.tuple #[.agg #[.int .i64 (rN (m.num s p) (s.dot s)), .int .i64 (rD (m.num s p) (s.dot s))], .int .i64 0])) ∧ (firstNZ [m.both s, plE p] = 0 → ¬ rN (m.num s p) (s.dot s) ≤ 1000000000 → e = .returned (.tuple #[.agg #[.int .i64 0, .int .i64 0], .int .i64 8])) ∧ (firstNZ [m.both s, plE p] ≠ 0 → e = .returned (.tuple #[.agg #[.int .i64 0, .int .i64 0], .int .i64 (firstNZ [m.both s, plE p])])) ∧ Below w.heap.size w w' := by
  have HO : Hid (∀ W, Calls Try.prog 73 #[m.v, s.v] W fun e w' => e = .returned (.tuple #[m.v, s.v, .int .i64 (m.both s)]) ∧ Below W.heap.size W w') := hid (fun W => track_openStep m s W)
  have HM : Hid (∀ W, Calls Try.prog 70 #[p.v] W fun e w' => e = .returned (.int .i64 (plE p)) ∧ Below W.heap.size W w') := hid (fun W => track_placeErr p W)
  have HFI : Hid (∀ v w, IntsAt w v [m.both s, plE p] → Calls Try.prog 69 #[v] w fun e w' => e = .returned (.int .i64 (firstNZ [m.both s, plE p])) ∧ w = w') := hid (fun v w h => track_first _ v w h)
  by_cases h1 : firstNZ [m.both s, plE p] = 0
  · obtain ⟨h2, h3⟩ := two_zero h1
    obtain ⟨o1, o2, o3, o4⟩ := both_ok h2
    have o5 := plE_ok h3
    obtain ⟨n1, n2, n3, nS, nd, na, nds, naa, nn⟩ := near_nums o1 o2 o3 o5
    obtain ⟨u1, u2, u3, u4, u5, u6, u7, u8⟩ := r_pos nn.1 (show 0 < s.dot s by omega)
    have hpl : m.pl.inS 100000000 = true := inS_iff.2 (by have h1 := o1.px; have h2 := o1.py; have h3 := o1.pz; unfold TMod.pl; simp only; omega)
    have hpp : p.inS 100000000 = true := inS_iff.2 (by have := inS_iff.1 o5; omega)
    have HMI : Hid (∀ W, Calls Try.prog 77 #[p.v, m.pl.v] W fun e w' => e = .returned (m.off p).v ∧ Below W.heap.size W w') := hid (fun W => track_minus p m.pl W hpp hpl)
    have HD1 : Hid (∀ W, Calls Try.prog 78 #[s.v, s.v] W fun e w' => e = .returned (.int .i64 (s.dot s)) ∧ Below W.heap.size W w') := hid (fun W => track_dot s s W n1)
    have HD2 : Hid (∀ W, Calls Try.prog 78 #[(m.off p).v, s.v] W fun e w' => e = .returned (.int .i64 ((m.off p).dot s)) ∧ Below W.heap.size W w') := hid (fun W => track_dot _ s W n2)
    have HD3 : Hid (∀ W, Calls Try.prog 78 #[(m.off p).v, (m.off p).v] W fun e w' => e = .returned (.int .i64 ((m.off p).dot (m.off p))) ∧ Below W.heap.size W w') := hid (fun W => track_dot _ _ W n3)
    have HDV : Hid (∀ W, Calls Try.prog 79 #[.int .i64 (m.num s p), .int .i64 (s.dot s)] W fun e w' => e = .returned (.int .i64 (Int.gcd (m.num s p) (s.dot s) : Nat)) ∧ Below W.heap.size W w') := hid (fun W => track_divisor _ _ W nn.1 (by omega) (by omega) (by omega))
    obtain ⟨X, Y, k1, k2, k3⟩ : ∃ X Y, IntKind.i64.wrap ((m.off p).dot (m.off p) * s.dot s) = X ∧ IntKind.i64.wrap ((m.off p).dot s * (m.off p).dot s) = Y ∧ IntKind.i64.wrap (X - Y) = m.num s p := ⟨_, _, IntWalk.i64_in _ (by omega), IntWalk.i64_in _ (by omega), IntWalk.i64_in _ (by unfold TMod.num at nn; omega)⟩
    rw [h1] at HFI
    have H1 := hid h1
    generalize hE1 : firstNZ [m.both s, plE p] = E1 at H1 ⊢
    generalize m.both s = EB at HO HFI
    generalize plE p = EM at HM HFI
    generalize (Int.gcd (m.num s p) (s.dot s)) = G at HDV u5 u6 u7 u8
    generalize m.off p = V at HMI HD2 HD3 k1 k2
    generalize rN (m.num s p) (s.dot s) = RN at u1 u2 u7 ⊢
    generalize rD (m.num s p) (s.dot s) = RD at u3 u4 u8 ⊢
    generalize m.num s p = NU at HDV k3 nn u2 u7
    generalize s.dot s = S at HD1 HDV k1 u4 u6 u8 nS
    generalize V.dot V = VV at HD3 k1
    generalize V.dot s = VS at HD2 k2
    obtain ⟨px, py, pz, tm, tk, lo, hi, li, ea, la, no, mi⟩ := m
    obtain ⟨sx, sy, sz⟩ := s
    obtain ⟨qx, qy, qz⟩ := p
    obtain ⟨vx, vy, vz⟩ := V
    unfold TMod.v V3.v at *
    simp only [TMod.pl] at *
    clear hE1 h1 h2 h3 o1 o2 o3 o4 o5 n1 n2 n3 nd na nds naa hpl hpp
    have hG0 : (G : Int) ≠ 0 := by omega
    obtain ⟨W0, hW0⟩ : ∃ W0, W0 = (((w.alloc (.cells #[.int .i64 px, .int .i64 py, .int .i64 pz, .int .i64 tm, .int .i64 tk, .int .i64 lo, .int .i64 hi, .int .i64 li, .int .i64 ea, .int .i64 la, .int .i64 no, .int .i64 mi] 26)).alloc (.cells #[.int .i64 sx, .int .i64 sy, .int .i64 sz] 22)).alloc (.cells #[.int .i64 qx, .int .i64 qy, .int .i64 qz] 22)).alloc (.cells #[.int .i64 0, .int .i64 0] 37) := ⟨_, rfl⟩
    have hbW0 : Below w.heap.size w W0 := by rw [hW0]; exact BelowA
    obtain ⟨hz0, q0, q1, q2, q3⟩ := al4 w _ _ _ _ _ _ _ _ W0 hW0
    have Q2 := hid q2
    have Q3 := hid q3
    clear q0 q1 q2 q3
    go_enter Try.func17, Try.ntmps17
    go_wp2_with (first | (go_at_call 73; rw [← hW0]; refine (HO.out _).mono ?_; rintro _ w1 ⟨rfl, hb1⟩; have hz1 := hb1.size; obtain ⟨c0, c1, c2, fc0, fc1, fc2, hl2⟩ := three_cells ((hb1.block (w.heap.size + 1 + 1) (by omega)).trans Q2.out); have hl2' : w.heap.size + 1 + 1 < w1.heap.size + 1 := Nat.lt_succ_of_lt hl2) | (go_at_call 70; obtain ⟨WB, hWB⟩ : ∃ WB, WB = (w1.alloc (.cells #[.int .i64 px, .int .i64 py, .int .i64 pz, .int .i64 tm, .int .i64 tk, .int .i64 lo, .int .i64 hi, .int .i64 li, .int .i64 ea, .int .i64 la, .int .i64 no, .int .i64 mi] 134)).alloc (.cells #[.int .i64 sx, .int .i64 sy, .int .i64 sz] 135) := ⟨_, rfl⟩; rw [← hWB]; have hbWB : Below w1.heap.size w1 WB := (by rw [hWB]; exact BelowA); obtain ⟨r0, r1, hr0, hr1⟩ := al2 w1 _ _ _ _ WB hWB; clear hWB; refine (HM.out _).mono ?_; rintro _ w2 ⟨rfl, hb2⟩; have hb12 : Below W0.heap.size W0 w2 := (hb1.trans (hbWB.mono hz1)).trans (hb2.mono (Nat.le_trans hz1 hbWB.size)); have HB12 := hid hb12; have R0 := hid ((hb2.block w1.heap.size hr0).trans r0); have R1 := hid ((hb2.block (w1.heap.size + 1) hr1).trans r1); have hml : w1.heap.size + 1 < w2.heap.size := Nat.lt_of_lt_of_le hr1 hb2.size; clear r0 r1 c0 c1 c2 fc0 fc1 fc2 hl2 hl2'; have hbf : Below w.heap.size w w2 := hbW0.trans (hb12.mono (by have := hbW0.size; omega)); obtain ⟨g0, g1, fg0, fg1, hgl⟩ := two_cells ((hb12.block (w.heap.size + 1 + 1 + 1) (by omega)).trans Q3.out)) | (go_at_call 69; refine (HFI.out _ _ (intsAt_new _ _ _ _ _ rfl (by simp) (by first | rfl | simp))).mono ?_; rintro _ _ ⟨rfl, rfl⟩))
    obtain ⟨W3, hW3⟩ : ∃ W3, W3 = w2.alloc (.cells #[.int .i64 EB, .int .i64 EM] 30) := ⟨_, rfl⟩
    have hb23 : Below w2.heap.size w2 W3 := by rw [hW3]; exact BelowA
    rw [← hW3]
    clear hW3 g0 g1 fg0 fg1 hgl
    have hz23 := hb23.size
    have HB03 : Hid (Below W0.heap.size W0 W3) := hid (hb12.trans (hb23.mono hb12.size))
    have x0 := (hb23.block w1.heap.size (by omega)).trans R0.out
    have x1 := (hb23.block (w1.heap.size + 1) hml).trans R1.out
    have x2 := (HB03.out.block (w.heap.size + 1 + 1) (by omega)).trans Q2.out
    obtain ⟨m0, m1, m2, m3, m4, m5, m6, m7, m8, m9, m10, m11, ml⟩ := tw_cells (x0)
    obtain ⟨s0, s1, s2, fs0, fs1, fs2, hls⟩ := three_cells x1
    obtain ⟨p0, p1, p2, fp0, fp1, fp2, hlp⟩ := three_cells x2
    have X1 := hid x1
    clear x0 x1 x2 fs0 fs1 fs2 fp0 fp1 fp2 m3 m4 m5 m6 m7 m8 m9 m10 m11 hb1 hb2 hbWB hb12 hb23
    refine wp_mixG (fun wc => Below (W3.heap.size) W3 wc) 10 [0, 1, 2, 3, 5, 6] [4, 7] 8 [.f [9]] [.q [10]] #[true, true, true, true, true, true, true, true, true, false, false] (by kernel_rfl) (by kernel_rfl) ((Below.refl _ _).drew) ?_
    intro Q' hQ'
    simp only [pick, List.drop_succ_cons, List.drop_zero, List.head?_cons, Option.toList_some, List.cons_append, List.nil_append]
    (repeat (first | go_big_quiet_skip | (go_big_quiet_want; refine quiet_simple rfl ?_; go_big_quiet_op; go_big_quiet_on) | (go_big_quiet_want; refine quiet_agg3B (ty := 22) rfl rfl (by kernel_rfl) (by assumption) (by assumption) (by assumption) (by first | omega | (simp; omega)) ?_; simp only [Act.put, List.setIfInBounds_toArray, List.set_cons_succ, List.set_cons_zero]; go_big_quiet_on) | (go_big_quiet_want; refine quiet_agg3B (ty := 135) rfl rfl (by kernel_rfl) (by assumption) (by assumption) (by assumption) (by first | omega | (simp; omega)) ?_; simp only [Act.put, List.setIfInBounds_toArray, List.set_cons_succ, List.set_cons_zero]; go_big_quiet_on)))
    (try refine wpQuiet_nil ?_)
    (rw [wpFlt])
    (refine ⟨?_, ?_⟩)
    (go_wp2_with ((go_at_call 77; refine (HMI.out _).mono ?_; rintro _ w4 ⟨rfl, hb4⟩; have hz4 : W3.heap.size ≤ w4.heap.size := (by have := hb4.size; first | exact this | (simp at this; omega)); (try (refine row_k hb4 (fun hrow => ?_); obtain ⟨f0, f1, f2, ff0, ff1, ff2, hlf⟩ := three_cells hrow)))); rw [contF]; refine ⟨?_, ?_⟩; (next => exact BelowA))
    rotate_left
    (simp only [List.cons_append, List.nil_append])
    (rw [wpSteps]; (go_wp2_with (fail); rw [contF]; refine ⟨?_, ?_⟩; (next => exact BelowA)))
    (rw [wpSteps]; (go_wp2_with ((go_at_call 77; refine (HMI.out _).mono ?_; rintro _ w4 ⟨rfl, hb4⟩; have hz4 : W3.heap.size ≤ w4.heap.size := (by have := hb4.size; first | exact this | (simp at this; omega)); (try (refine row_k hb4 (fun hrow => ?_); obtain ⟨f0, f1, f2, ff0, ff1, ff2, hlf⟩ := three_cells hrow)))); rw [contF]; refine ⟨?_, ?_⟩; (next => exact BelowA)))
    (rw [wpSteps]; (go_wp2_with ((go_at_call 78; refine (HD1.out _).mono ?_; rintro _ w5 ⟨rfl, hb5⟩; (first | (refine row_n hb5 (fun hrow => ?_); obtain ⟨f0, f1, f2, ff0, ff1, ff2, hlf⟩ := three_cells hrow) | (have hrow' := (hb5.block _ hlf).trans hrow; clear hrow f0 f1 f2 ff0 ff1 ff2; have hrow := hrow'; obtain ⟨f0, f1, f2, ff0, ff1, ff2, hlf'⟩ := three_cells hrow) | skip))); rw [contF]; refine ⟨?_, ?_⟩; (next => exact BelowA)))
    (rw [wpSteps])
    rotate_right
    (rw [wpFlt])
    (refine ⟨?_, ?_⟩)
    (go_wp2_with ((go_at_call 78; refine (HD1.out _).mono ?_; rintro _ w5 ⟨rfl, hb5⟩; (first | (refine row_n hb5 (fun hrow => ?_); obtain ⟨f0, f1, f2, ff0, ff1, ff2, hlf⟩ := three_cells hrow) | (have hrow' := (hb5.block _ hlf).trans hrow; clear hrow f0 f1 f2 ff0 ff1 ff2; have hrow := hrow'; obtain ⟨f0, f1, f2, ff0, ff1, ff2, hlf'⟩ := three_cells hrow) | skip))); rw [contF]; refine ⟨?_, ?_⟩; (next => exact BelowA))
    rotate_left
    (simp only [List.cons_append, List.nil_append])
    (rw [wpSteps]; (go_wp2_with (fail); rw [contF]; refine ⟨?_, ?_⟩; (next => exact BelowA)))
    (rw [wpSteps]; (go_wp2_with ((go_at_call 78; refine (HD1.out _).mono ?_; rintro _ w5 ⟨rfl, hb5⟩; (first | (refine row_n hb5 (fun hrow => ?_); obtain ⟨f0, f1, f2, ff0, ff1, ff2, hlf⟩ := three_cells hrow) | (have hrow' := (hb5.block _ hlf).trans hrow; clear hrow f0 f1 f2 ff0 ff1 ff2; have hrow := hrow'; obtain ⟨f0, f1, f2, ff0, ff1, ff2, hlf'⟩ := three_cells hrow) | skip))); rw [contF]; refine ⟨?_, ?_⟩; (next => exact BelowA)))
    (rw [wpSteps])
    rotate_right
    (rw [wpFlt, wpSteps]; (go_wp2_with (fail); rw [contF]; refine ⟨?_, ?_⟩; (next => exact BelowA)))
    (rw [wpSteps])
    all_goals (rw [wpMixC]; simp only [pick, List.drop_succ_cons, List.drop_zero, List.head?_cons, Option.toList_some, List.cons_append, List.nil_append])
    all_goals (rw [wpSteps]; (go_wp2_with (fail); rw [contF]; refine ⟨?_, ?_⟩; (next => exact BelowA)))
    all_goals (rw [wpSteps])
    all_goals (rw [wpMixC])
    all_goals (rw [wpMix]; simp only [pick, List.drop_succ_cons, List.drop_zero, List.head?_cons, Option.toList_some, List.cons_append, List.nil_append])
    all_goals (repeat (first | (go_big_quiet_step (fail)) | (quiet_step (fail))))
    all_goals (try refine wpQuiet_nil ?_)
    all_goals (rw [wpMix])
    all_goals (refine hQ' _ _ ?_)
    all_goals first
    | (have hb45 : Below W3.heap.size W3 w5 := by exact BelowA
       obtain ⟨W, hW⟩ : ∃ W, W = w5.alloc (.cells #[.int .i64 vx, .int .i64 vy, .int .i64 vz] 135) := ⟨_, rfl⟩
       have hrow : W.heap[w5.heap.size]? = some (.cells #[.int .i64 vx, .int .i64 vy, .int .i64 vz] 135 (0, 0)) := by rw [hW]; exact heap_alloc_new w5 _
       have hbb : Below W3.heap.size W3 W := by rw [hW]; exact BelowA
       rw [← hW]
       obtain ⟨g, hg⟩ : ∃ g, g = w5.heap.size := ⟨_, rfl⟩
       rw [← hg] at hrow ⊢
       clear hW)
    | (have hb45 : Below W3.heap.size W3 w5 := by exact BelowA
       obtain ⟨W, hW⟩ : ∃ W, W = ((w5.setCell ⟨w4.heap.size, 0, none⟩ (.int .i64 vx)).setCell ⟨w4.heap.size, 1, none⟩ (.int .i64 vy)).setCell ⟨w4.heap.size, 2, none⟩ (.int .i64 vz) := ⟨_, rfl⟩
       have hrow : W.heap[w4.heap.size]? = some (.cells #[.int .i64 vx, .int .i64 vy, .int .i64 vz] 135 (0, 0)) := by rw [hW]; exact heap_setCell_same _ _ 2 _ _ (.int .i64 vz) (heap_setCell_same _ _ 1 _ _ (.int .i64 vy) (heap_setCell_same _ _ 0 _ _ (.int .i64 vx) hrow))
       have hbb : Below W3.heap.size W3 W := by rw [hW]; exact BelowA
       rw [← hW]
       obtain ⟨g, hg⟩ : ∃ g, g = w4.heap.size := ⟨_, rfl⟩
       rw [← hg] at hrow ⊢
       clear hW)
    | (have hb45 : Below W3.heap.size W3 w5 := by exact BelowA
       obtain ⟨W, hW⟩ : ∃ W, W = ((w5.setCell ⟨W3.heap.size, 0, none⟩ (.int .i64 vx)).setCell ⟨W3.heap.size, 1, none⟩ (.int .i64 vy)).setCell ⟨W3.heap.size, 2, none⟩ (.int .i64 vz) := ⟨_, rfl⟩
       have hrow : W.heap[W3.heap.size]? = some (.cells #[.int .i64 vx, .int .i64 vy, .int .i64 vz] 135 (0, 0)) := by rw [hW]; exact heap_setCell_same _ _ 2 _ _ (.int .i64 vz) (heap_setCell_same _ _ 1 _ _ (.int .i64 vy) (heap_setCell_same _ _ 0 _ _ (.int .i64 vx) hrow))
       have hbb : Below W3.heap.size W3 W := by rw [hW]; exact BelowA
       rw [← hW]
       obtain ⟨g, hg⟩ : ∃ g, g = W3.heap.size := ⟨_, rfl⟩
       rw [← hg] at hrow ⊢
       clear hW)
    all_goals
      clear hg
      have x1 := (hbb.block (w1.heap.size + 1) hls).trans X1.out
      clear m0 m1 m2 p0 p1 p2 s0 s1 s2 hls hlp
      obtain ⟨s0, s1, s2, fs0, fs1, fs2, hls⟩ := three_cells x1
      obtain ⟨v0, v1, v2, fv0, fv1, fv2, hlg⟩ := three_cells hrow
      clear x1 fs0 fs1 fs2 fv0 fv1 fv2
      go_wp2_with fail
      have HBB := hid hbb
      have HX : Hid (Below W0.heap.size W0 W) := hid (HB03.out.trans (hbb.mono HB03.out.size))
      refine wp_mixC (fun wc => Below (W.heap.size) W wc) 13 [.q [0, 1, 3, 5, 6, 8, 9], .f [2], .q [4], .f [7, 10], .q [11, 12]] [.q [13]] (by kernel_rfl) (by kernel_rfl) ((Below.refl _ _).drew) ?_
      intro Q' hQ'
      (rw [wpMixC]; simp only [pick, List.drop_succ_cons, List.drop_zero, List.head?_cons, Option.toList_some, List.cons_append, List.nil_append])
      (repeat (first | go_big_quiet_skip | (go_big_quiet_want; refine quiet_simple rfl ?_; go_big_quiet_op; go_big_quiet_on) | (go_big_quiet_want; refine quiet_agg3B (ty := 135) rfl rfl (by kernel_rfl) (by assumption) (by assumption) (by assumption) (by first | omega | (simp; omega)) ?_; simp only [Act.put, List.setIfInBounds_toArray, List.set_cons_succ, List.set_cons_zero]; go_big_quiet_on)))
      (try refine wpQuiet_nil ?_)
      (rw [wpMixC]; simp only [pick, List.drop_succ_cons, List.drop_zero, List.head?_cons, Option.toList_some, List.cons_append, List.nil_append])
      (rw [wpSteps]; go_wp2_with ((first | (go_at_call 78; ((with_reducible refine (HD3.out _).mono ?_); rintro _ w6 ⟨rfl, hb6⟩)) | (go_at_call 78; ((with_reducible refine (HD2.out _).mono ?_); rintro _ w7 ⟨rfl, hb7⟩)))); rw [contF]; refine ⟨?_, ?_⟩; (next => exact BelowA))
      (rw [wpSteps])
      (rw [wpMixC]; simp only [pick, List.drop_succ_cons, List.drop_zero, List.head?_cons, Option.toList_some, List.cons_append, List.nil_append])
      (repeat (first | go_big_quiet_skip | (go_big_quiet_want; refine quiet_simple rfl ?_; go_big_quiet_op; go_big_quiet_on) | (go_big_quiet_want; refine quiet_agg3B (ty := 135) rfl rfl (by kernel_rfl) (by assumption) (by assumption) (by assumption) (by first | omega | (simp; omega)) ?_; simp only [Act.put, List.setIfInBounds_toArray, List.set_cons_succ, List.set_cons_zero]; go_big_quiet_on)))
      (try refine wpQuiet_nil ?_)
      (rw [wpMixC]; simp only [pick, List.drop_succ_cons, List.drop_zero, List.head?_cons, Option.toList_some, List.cons_append, List.nil_append])
      (rw [wpSteps]; go_wp2_with ((first | (go_at_call 78; ((with_reducible refine (HD3.out _).mono ?_); rintro _ w6 ⟨rfl, hb6⟩)) | (go_at_call 78; ((with_reducible refine (HD2.out _).mono ?_); rintro _ w7 ⟨rfl, hb7⟩)))); rw [contF]; refine ⟨?_, ?_⟩; (next => exact BelowA))
      (rw [wpSteps]; go_wp2_with ((first | (go_at_call 78; ((with_reducible refine (HD3.out _).mono ?_); rintro _ w6 ⟨rfl, hb6⟩)) | (go_at_call 78; ((with_reducible refine (HD2.out _).mono ?_); rintro _ w7 ⟨rfl, hb7⟩)))); rw [contF]; refine ⟨?_, ?_⟩; (next => exact BelowA))
      (rw [wpSteps])
      (rw [wpMixC]; simp only [pick, List.drop_succ_cons, List.drop_zero, List.head?_cons, Option.toList_some, List.cons_append, List.nil_append])
      (repeat (first | go_big_quiet_skip | (go_big_quiet_want; refine quiet_simple rfl ?_; go_big_quiet_op; go_big_quiet_on) | (go_big_quiet_want; refine quiet_agg3B (ty := 135) rfl rfl (by kernel_rfl) (by assumption) (by assumption) (by assumption) (by first | omega | (simp; omega)) ?_; simp only [Act.put, List.setIfInBounds_toArray, List.set_cons_succ, List.set_cons_zero]; go_big_quiet_on)))
      (try refine wpQuiet_nil ?_)
      (rw [wpMixC])
      (rw [wpMix]; simp only [pick, List.drop_succ_cons, List.drop_zero, List.head?_cons, Option.toList_some, List.cons_append, List.nil_append])
      (repeat (first | (go_big_quiet_step (fail)) | (quiet_step (fail))))
      (try refine wpQuiet_nil ?_)
      (rw [wpMix])
      (refine hQ' _ _ ?_)
      by_cases hN : RN ≤ 1000000000
      · have HN := hid hN
        have hN2 : ¬ 1000000000 < RN := by omega
        go_wp2_with (go_at_call 79; refine (HDV.out _).mono ?_; rintro _ w8 ⟨rfl, hb8⟩)
        have hb8' : Below W.heap.size W w8 := by exact BelowA
        have hbe : Below W0.heap.size W0 w8 := HX.out.trans (hb8'.mono HX.out.size)
        have hbE : Below w.heap.size w w8 := hbW0.trans (hbe.mono (by omega))
        have y3 := (hbe.block (w.heap.size + 1 + 1 + 1) (by omega)).trans Q3.out
        obtain ⟨g0, g1, fg0, fg1, hgl⟩ := two_cells y3
        clear y3 hb8' hbe hb6 hb7 hb8
        refine wp_mixC (fun wc => Below ((w.heap.size)) w8 wc) 7 [.q [0, 1, 2, 3, 4, 5, 6]] [.f [7], .q [8]] (by kernel_rfl) (by kernel_rfl) ((Below.refl _ _).drew) ?_
        intro Q' hQ'
        (rw [wpMixC]; simp only [pick, List.drop_succ_cons, List.drop_zero, List.head?_cons, Option.toList_some, List.cons_append, List.nil_append])
        (repeat (first | go_big_quiet_skip | (go_big_quiet_want; refine quiet_simple rfl ?_; go_big_quiet_op; go_big_quiet_on)))
        (try refine wpQuiet_nil ?_)
        (rw [wpMixC])
        (rw [wpMix]; simp only [pick, List.drop_succ_cons, List.drop_zero, List.head?_cons, Option.toList_some, List.cons_append, List.nil_append])
        (go_wp2_with ((first | fail)); rw [contF])
        (rw [wpMix]; simp only [pick, List.drop_succ_cons, List.drop_zero, List.head?_cons, Option.toList_some, List.cons_append, List.nil_append])
        (repeat (first | (go_big_quiet_step (fail)) | (quiet_step (fail))))
        (try refine wpQuiet_nil ?_)
        (rw [wpMix])
        (refine hQ' _ _ ?_)
        go_wp2_with fail
        ((try simp only [Exit.inBlock, Exit.then]); refine bodyPost_ret (v := .tuple #[.agg #[.int .i64 RN, .int .i64 RD], .int .i64 0]) ?_ rfl ?_; (next => simp [results, Try.results17, go_sem, hgl, g0, g1]))
        refine ⟨?_, ?_, ?_, by exact BelowA⟩
        all_goals (intros; first | rfl | (exfalso; have hx := H1.out; have hy := HN.out; omega))
      · have HN := hid hN
        have hN2 : 1000000000 < RN := by omega
        go_wp2_with (go_at_call 79; refine (HDV.out _).mono ?_; rintro _ w8 ⟨rfl, hb8⟩; have hb8' : Below W.heap.size W w8 := (by exact BelowA); have hbe : Below W0.heap.size W0 w8 := HX.out.trans (hb8'.mono HX.out.size); have hbE : Below w.heap.size w w8 := hbW0.trans (hbe.mono (by omega)); have y3 := (hbe.block (w.heap.size + 1 + 1 + 1) (by omega)).trans Q3.out; obtain ⟨g0, g1, fg0, fg1, hgl⟩ := two_cells y3; clear y3 hb8' hbe hb6 hb7 hb8)
        ((try simp only [Exit.inBlock, Exit.then]); refine bodyPost_ret (v := .tuple #[.agg #[.int .i64 0, .int .i64 0], .int .i64 8]) ?_ rfl ?_; (next => simp [results, Try.results17, go_sem, hgl, g0, g1]))
        refine ⟨?_, ?_, ?_, by exact BelowA⟩
        all_goals (intros; first | rfl | (exfalso; have hx := H1.out; have hy := HN.out; omega))
  · have hne : (firstNZ [m.both s, plE p] != 0) = true := by simpa using h1
    have HN := hid h1
    clear h1
    generalize firstNZ [m.both s, plE p] = E1 at HFI HN hne ⊢
    generalize m.both s = EB at HO HFI
    generalize plE p = EM at HM HFI
    generalize rN (m.num s p) (s.dot s) = RN
    generalize rD (m.num s p) (s.dot s) = RD
    obtain ⟨px, py, pz, tm, tk, lo, hi, li, ea, la, no, mi⟩ := m
    obtain ⟨sx, sy, sz⟩ := s
    obtain ⟨qx, qy, qz⟩ := p
    unfold TMod.v V3.v at *
    simp only at *
    obtain ⟨W0, hW0⟩ : ∃ W0, W0 = (((w.alloc (.cells #[.int .i64 px, .int .i64 py, .int .i64 pz, .int .i64 tm, .int .i64 tk, .int .i64 lo, .int .i64 hi, .int .i64 li, .int .i64 ea, .int .i64 la, .int .i64 no, .int .i64 mi] 26)).alloc (.cells #[.int .i64 sx, .int .i64 sy, .int .i64 sz] 22)).alloc (.cells #[.int .i64 qx, .int .i64 qy, .int .i64 qz] 22)).alloc (.cells #[.int .i64 0, .int .i64 0] 37) := ⟨_, rfl⟩
    have hbW0 : Below w.heap.size w W0 := by rw [hW0]; exact BelowA
    obtain ⟨hz0, q0, q1, q2, q3⟩ := al4 w _ _ _ _ _ _ _ _ W0 hW0
    have Q2 := hid q2
    have Q3 := hid q3
    clear q0 q1 q2 q3
    go_enter Try.func17, Try.ntmps17
    go_wp2_with (first | (go_at_call 73; rw [← hW0]; refine (HO.out _).mono ?_; rintro _ w1 ⟨rfl, hb1⟩; have hz1 := hb1.size; obtain ⟨c0, c1, c2, fc0, fc1, fc2, hl2⟩ := three_cells ((hb1.block (w.heap.size + 1 + 1) (by omega)).trans Q2.out); have hl2' : w.heap.size + 1 + 1 < w1.heap.size + 1 := Nat.lt_succ_of_lt hl2) | (go_at_call 70; obtain ⟨WB, hWB⟩ : ∃ WB, WB = (w1.alloc (.cells #[.int .i64 px, .int .i64 py, .int .i64 pz, .int .i64 tm, .int .i64 tk, .int .i64 lo, .int .i64 hi, .int .i64 li, .int .i64 ea, .int .i64 la, .int .i64 no, .int .i64 mi] 134)).alloc (.cells #[.int .i64 sx, .int .i64 sy, .int .i64 sz] 135) := ⟨_, rfl⟩; rw [← hWB]; have hbWB : Below w1.heap.size w1 WB := (by rw [hWB]; exact BelowA); obtain ⟨r0, r1, hr0, hr1⟩ := al2 w1 _ _ _ _ WB hWB; clear hWB; refine (HM.out _).mono ?_; rintro _ w2 ⟨rfl, hb2⟩; have hb12 : Below W0.heap.size W0 w2 := (hb1.trans (hbWB.mono hz1)).trans (hb2.mono (Nat.le_trans hz1 hbWB.size)); have HB12 := hid hb12; have R0 := hid ((hb2.block w1.heap.size hr0).trans r0); have R1 := hid ((hb2.block (w1.heap.size + 1) hr1).trans r1); have hml : w1.heap.size + 1 < w2.heap.size := Nat.lt_of_lt_of_le hr1 hb2.size; clear r0 r1 c0 c1 c2 fc0 fc1 fc2 hl2 hl2'; have hbf : Below w.heap.size w w2 := hbW0.trans (hb12.mono (by have := hbW0.size; omega)); obtain ⟨g0, g1, fg0, fg1, hgl⟩ := two_cells ((hb12.block (w.heap.size + 1 + 1 + 1) (by omega)).trans Q3.out)) | (go_at_call 69; refine (HFI.out _ _ (intsAt_new _ _ _ _ _ rfl (by simp) (by first | rfl | simp))).mono ?_; rintro _ _ ⟨rfl, rfl⟩))
    ((try simp only [Exit.inBlock, Exit.then]); refine bodyPost_ret (v := .tuple #[.agg #[.int .i64 0, .int .i64 0], .int .i64 E1]) ?_ rfl ?_; (next => simp [results, Try.results17, go_sem, hgl, g0, g1]))
    exact ⟨fun h => absurd h HN.out, fun h => absurd h HN.out, fun _ => rfl, by exact BelowA⟩
end Go.Proofs.Ytlmdmpjfehpjeaa
set_option linter.unusedVariables false
set_option linter.unusedSimpArgs false
namespace Go.Proofs.Ytlmdmpjfehpjeaa
open Go.RowKit
def exM : TMod := ⟨0, 0, 0, 0, 1, 25, 50, 9, 0, 0, 1, 2⟩
def exS : V3 := ⟨5, 0, 0⟩
def exB : TBox := ⟨⟨5, 0, 0⟩, ⟨5, 0, 0⟩⟩
def exH : List THit := [⟨⟨0, 12, 0⟩, 4, 1⟩, ⟨⟨5, 0, 0⟩, 0, 3⟩]
theorem ex_both : exM.both exS = 0 := by decide
theorem ex_ok : exM.Ok ∧ exS.inS 20 = true ∧ exM.permit exS ∧ exM.slow < exS.dot exS := both_ok ex_both
theorem ex_first : exM.first exS ⟨0, 12, 0⟩ = 4 := by
 have h := reached_iff exM exS ⟨0, 12, 0⟩ ex_ok.1.slp ex_ok.2.2.2 (n := 4) (by decide) (by decide)
 exact first_of exM exS ⟨0, 12, 0⟩ h (by decide) (by decide)
theorem ex_near : rN (exM.num exS ⟨7, 12, 0⟩) (exS.dot exS) = 144 ∧ rD (exM.num exS ⟨7, 12, 0⟩) (exS.dot exS) = 1 := by
 have e1 : exM.num exS ⟨7, 12, 0⟩ = 3600 := by decide
 have e2 : exS.dot exS = 25 := by decide
 rw [e1, e2]; exact ⟨by decide, by decide⟩
theorem ex_score : exM.score exS exH = 6 := by decide
theorem ex_hits : hitsE exH = 0 := by decide
theorem ex_in : exM.inE exB exH = 0 := by decide
theorem ex_scores : (exM.scores exB exH).lo = 6 ∧ (exM.scores exB exH).hi = 6 := ⟨by decide, by decide⟩
set_option maxRecDepth 100000 in
set_option maxHeartbeats 4000000 in
theorem law_Model (w : World) : Calls Try.prog 66 #[] w fun e w' => e = .returned exM.v ∧ Below w.heap.size w w' := by
 have HV : Hid (exM.v = .agg #[.int .i64 0, .int .i64 0, .int .i64 0, .int .i64 0, .int .i64 1, .int .i64 25, .int .i64 50, .int .i64 9, .int .i64 0, .int .i64 0, .int .i64 1, .int .i64 2]) := hid rfl
 generalize exM.v = V at HV ⊢
 go_enter Try.func66, Try.ntmps66
 go_wp2_with fail
 ((try simp only [Exit.inBlock, Exit.then]); refine bodyPost_ret (v := .agg #[.int .i64 0, .int .i64 0, .int .i64 0, .int .i64 0, .int .i64 1, .int .i64 25, .int .i64 50, .int .i64 9, .int .i64 0, .int .i64 0, .int .i64 1, .int .i64 2]) ?_ rfl ?_; (next => simp [results, Try.results66, go_sem]))
 exact ⟨by rw [HV.out], by exact BelowA⟩
theorem hits_new (w : World) (t : TypeId) : HitsAt (w.alloc (.cells #[.int .i64 0, .int .i64 12, .int .i64 0, .int .i64 4, .int .i64 1, .int .i64 5, .int .i64 0, .int .i64 0, .int .i64 0, .int .i64 3] t)) (.slice (some ⟨w.heap.size, 0, none⟩) 2 2) exH := by
 have q := heap_alloc_new w (.cells #[.int .i64 0, .int .i64 12, .int .i64 0, .int .i64 4, .int .i64 1, .int .i64 5, .int .i64 0, .int .i64 0, .int .i64 0, .int .i64 3] t)
 refine ⟨_, _, rfl, Nat.le_refl _, by simp [maxLen], fun _ => ⟨w.heap.size, 0, rfl, by simp, fun i j hi hj => ?_⟩, fun h => by cases h⟩
 rw [cell_of_row _ _ _ _ _ (0, 0) q]
 have hi2 : i < 2 := hi
 rcases (by omega : i = 0 ∨ i = 1) with rfl | rfl
 all_goals rcases (by omega : j = 0 ∨ j = 1 ∨ j = 2 ∨ j = 3 ∨ j = 4) with rfl | rfl | rfl | rfl | rfl
 all_goals rfl
set_option maxRecDepth 100000 in
set_option maxHeartbeats 4000000 in
theorem law_Hits (w : World) : Calls Try.prog 67 #[] w fun e w' => ∃ ao cap, e = .returned (.slice ao 2 cap) ∧ HitsAt w' (.slice ao 2 cap) exH ∧ Below w.heap.size w w' := by
 have HV := hid (hits_new w 92)
 generalize exH = L at HV ⊢
 go_enter Try.func67, Try.ntmps67
 go_wp2_with fail
 ((try simp only [Exit.inBlock, Exit.then]); refine bodyPost_ret (v := .slice (some ⟨w.heap.size, 0, none⟩) 2 2) ?_ rfl ?_; (next => simp [results, Try.results67, go_sem]))
 exact ⟨_, _, rfl, HV.out, by exact BelowA⟩
set_option maxRecDepth 100000 in
set_option maxHeartbeats 8000000 in
theorem law_awake5 (w : World) : Calls Try.prog 13 #[] w fun e w' => e = .returned (.bool true) ∧ Below w.heap.size w w' := by
 have e0 : firstNZ [exM.both exS, plE ⟨0, 12, 0⟩] = 0 := by decide
 have e1 : firstNZ [exM.both exS, plE ⟨7, 12, 0⟩] = 0 := by decide
 have e2 : firstNZ [exM.both exS, hitsE exH] = 0 := by rw [ex_both, ex_hits]; rfl
 have HM := hid law_Model
 have HH := hid law_Hits
 have HF : Hid (∀ W, Calls Try.prog 16 #[exM.v, .agg #[.int .i64 5, .int .i64 0, .int .i64 0], .agg #[.int .i64 0, .int .i64 12, .int .i64 0]] W fun e w' => e = .returned (.tuple #[.int .i64 4, .int .i64 0]) ∧ Below W.heap.size W w') := hid (fun W => by
  refine (track_FirstAt exM exS ⟨0, 12, 0⟩ W).mono ?_
  rintro e w' ⟨h1, _, _, h4⟩
  rw [ex_first] at h1
  exact ⟨h1 e0 (by decide), h4⟩)
 have HN : Hid (∀ W, Calls Try.prog 17 #[exM.v, .agg #[.int .i64 5, .int .i64 0, .int .i64 0], .agg #[.int .i64 7, .int .i64 12, .int .i64 0]] W fun e w' => e = .returned (.tuple #[.agg #[.int .i64 144, .int .i64 1], .int .i64 0]) ∧ Below W.heap.size W w') := hid (fun W => by
  refine (track_NearestTo exM exS ⟨7, 12, 0⟩ W).mono ?_
  rintro e w' ⟨h1, _, _, h4⟩
  rw [ex_near.1, ex_near.2] at h1
  exact ⟨h1 e1 (by decide), h4⟩)
 have HS : Hid (∀ v W, HitsAt W v exH → Calls Try.prog 32 #[exM.v, .agg #[.int .i64 5, .int .i64 0, .int .i64 0], v] W fun e w' => e = .returned (.tuple #[.int .i64 6, .int .i64 0]) ∧ Below W.heap.size W w') := hid (fun v W h => by
  refine (track_ScoreOf exM exS exH v W h).mono ?_
  rintro e w' ⟨h1, _, h4⟩
  rw [ex_score] at h1
  exact ⟨h1 e2, h4⟩)
 have HI : Hid (∀ v W, HitsAt W v exH → Calls Try.prog 38 #[exM.v, .agg #[.int .i64 5, .int .i64 0, .int .i64 0, .int .i64 5, .int .i64 0, .int .i64 0], v] W fun e w' => e = .returned (.tuple #[.agg #[.int .i64 6, .int .i64 6], .int .i64 0]) ∧ Below W.heap.size W w') := hid (fun v W h => by
  refine (track_ScoresIn exM exB exH v W h (by decide) (by decide)).mono ?_
  rintro e w' ⟨h1, _, h4⟩
  have h5 := h1 ex_in
  unfold Rg.v at h5
  rw [ex_scores.1, ex_scores.2] at h5
  exact ⟨h5, h4⟩)
 have hVM : Hid (exM.v = .agg #[.int .i64 0, .int .i64 0, .int .i64 0, .int .i64 0, .int .i64 1, .int .i64 25, .int .i64 50, .int .i64 9, .int .i64 0, .int .i64 0, .int .i64 1, .int .i64 2]) := hid rfl
 rw [hVM.out] at HF HN HS HI
 have HM' : Hid (∀ W, Calls Try.prog 66 #[] W fun e w' => e = .returned (.agg #[.int .i64 0, .int .i64 0, .int .i64 0, .int .i64 0, .int .i64 1, .int .i64 25, .int .i64 50, .int .i64 9, .int .i64 0, .int .i64 0, .int .i64 1, .int .i64 2]) ∧ Below W.heap.size W w') := hid (by rw [← hVM.out]; exact law_Model)
 generalize exH = L at HH HS HI
 clear e0 e1 e2 HM hVM
 go_enter Try.func13, Try.ntmps13
 go_wp2_with fail
 refine (HM'.out _).mono ?_
 rintro _ w1 ⟨rfl, hb1⟩
 go_wp2_with fail
 refine (HF.out _).mono ?_
 rintro _ w2 ⟨rfl, hb2⟩
 go_wp2_with fail
 refine (HM'.out _).mono ?_
 rintro _ w3 ⟨rfl, hb3⟩
 go_wp2_with fail
 refine (HN.out _).mono ?_
 rintro _ w4 ⟨rfl, hb4⟩
 obtain ⟨X, hX⟩ : ∃ X, X = w4.alloc (.cells #[.int .i64 144, .int .i64 1] 37) := ⟨_, rfl⟩
 have hb04 : Below w.heap.size w w4 := by exact BelowA
 have hbX : Below w4.heap.size w4 X := by rw [hX]; exact BelowA
 have RX := hid (show X.heap[w4.heap.size]? = some (.cells #[.int .i64 144, .int .i64 1] 37 (0, 0)) by rw [hX]; exact heap_alloc_new w4 _)
 have hlX := (Array.getElem?_eq_some_iff.1 RX.out).1
 have HB0X := hid (hb04.trans (hbX.mono hb04.size))
 clear hb1 hb2 hb3 hb4 hb04
 go_wp2_with fail
 rw [← hX]
 clear hX
 refine (HM'.out _).mono ?_
 rintro _ w5 ⟨rfl, hb5⟩
 go_wp2_with fail
 refine (HH.out _).mono ?_
 rintro _ w6 ⟨ao, cap, rfl, hv, hb6⟩
 have HV := hid hv
 clear hv
 go_wp2_with fail
 refine (HS.out _ _ HV.out).mono ?_
 rintro _ w7 ⟨rfl, hb7⟩
 go_wp2_with fail
 refine (HM'.out _).mono ?_
 rintro _ w8 ⟨rfl, hb8⟩
 go_wp2_with fail
 refine (HH.out _).mono ?_
 rintro _ w9 ⟨ao2, cap2, rfl, hv, hb9⟩
 have HV2 := hid hv
 clear hv
 go_wp2_with fail
 refine (HI.out _ _ HV2.out).mono ?_
 rintro _ w10 ⟨rfl, hb10⟩
 have hbXe : Below X.heap.size X w10 := by exact BelowA
 have hbe : Below w.heap.size w w10 := HB0X.out.trans (hbXe.mono HB0X.out.size)
 obtain ⟨c0, c1, fc0, fc1, hlc⟩ := two_cells ((hbXe.block w4.heap.size hlX).trans RX.out)
 clear hb5 hb6 hb7 hb8 hb9 hb10 hbXe hbX
 go_wp2_with fail
 go_ret
 exact ⟨rfl, by exact BelowA⟩
end Go.Proofs.Ytlmdmpjfehpjeaa