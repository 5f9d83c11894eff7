/- Texts of this claim, together. -/
import Derived.Test.YtfadkjcfjkmalaaTW9

set_option linter.unusedVariables false
set_option linter.unusedSimpArgs false
namespace Go.Proofs.Ytfadkjcfjkmalaa
open Go.RowKit Ev
def sqW (lo hi : Int) : Rg := if lo ≤ 0 ∧ hi ≥ 0 then ⟨0, max (wr (lo * lo)) (wr (hi * hi))⟩ else ⟨min (wr (lo * lo)) (wr (hi * hi)), max (wr (lo * lo)) (wr (hi * hi))⟩
def Rg.plusW (r s : Rg) : Rg := ⟨wr (r.lo + s.lo), wr (r.hi + s.hi)⟩
def sqsW (b : TBox) : Rg := ((Rg.plusW ⟨0, 0⟩ (sqW b.lo.x b.hi.x)).plusW (sqW b.lo.y b.hi.y)).plusW (sqW b.lo.z b.hi.z)
def canW (m : TMod) (b : TBox) : Bool := decide ((sqsW b).hi ≥ m.lo) && decide ((sqsW b).lo ≤ m.hi)
theorem bw {r : Rg} {A B : Int} (h : A ≤ B) (g : r.bd A) : r.bd B := by unfold Rg.bd at *; omega
theorem sqW_eq {r : Rg} {A C : Int} (h : r.bd A) (hC : A * A ≤ C) (hm : C ≤ 4000000000000000000) : sqW r.lo r.hi = r.square := by
 have m1 := mul_rg h.1 h.1 hC
 have m2 := mul_rg h.2 h.2 hC
 have e1 : wr (r.lo * r.lo) = r.lo * r.lo := IntWalk.i64_in _ (by omega)
 have e2 : wr (r.hi * r.hi) = r.hi * r.hi := IntWalk.i64_in _ (by omega)
 unfold sqW Rg.square
 rw [e1, e2]
theorem plusW_eq {r s : Rg} {A B : Int} (h : r.bd A) (g : s.bd B) (hm : A + B ≤ 8000000000000000000) : r.plusW s = r.plus s := by
 unfold Rg.bd at h g
 have e1 : wr (r.lo + s.lo) = r.lo + s.lo := IntWalk.i64_in _ (by omega)
 have e2 : wr (r.hi + s.hi) = r.hi + s.hi := IntWalk.i64_in _ (by omega)
 unfold Rg.plusW Rg.plus
 rw [e1, e2]
theorem sqsW_eq {b : TBox} (hl : b.lo.inS 20 = true) (hh : b.hi.inS 20 = true) : sqsW b = b.squares := by
 obtain ⟨a1, a2, a3⟩ := inS_iff.1 hl
 obtain ⟨b1, b2, b3⟩ := inS_iff.1 hh
 have r1 : b.rx.bd 20 := ⟨a1, b1⟩
 have r2 : b.ry.bd 20 := ⟨a2, b2⟩
 have r3 : b.rz.bd 20 := ⟨a3, b3⟩
 have s1 := (Rg.square_bd r1 (C := 400) (by decide)).1
 have s2 := (Rg.square_bd r2 (C := 400) (by decide)).1
 have s3 := (Rg.square_bd r3 (C := 400) (by decide)).1
 have z : (⟨0, 0⟩ : Rg).bd 0 := by unfold Rg.bd; simp
 have p1 := Rg.plus_bd z s1 (C := 400) (by decide)
 have p2 := Rg.plus_bd p1 s2 (C := 800) (by decide)
 have e1 : sqW b.lo.x b.hi.x = b.rx.square := sqW_eq r1 (C := 400) (by decide) (by decide)
 have e2 : sqW b.lo.y b.hi.y = b.ry.square := sqW_eq r2 (C := 400) (by decide) (by decide)
 have e3 : sqW b.lo.z b.hi.z = b.rz.square := sqW_eq r3 (C := 400) (by decide) (by decide)
 unfold sqsW TBox.squares
 rw [e1, e2, e3, plusW_eq z s1 (by decide), plusW_eq p1 s2 (by decide), plusW_eq p2 s3 (by decide)]
theorem canW_eq {m : TMod} {b : TBox} (hl : b.lo.inS 20 = true) (hh : b.hi.inS 20 = true) : canW m b = m.canB b := by
 unfold canW TMod.canB
 rw [sqsW_eq hl hh]
theorem coordT {tk d A i : Int} {r0 r1 P0 P1 L0 L1 : Int} (htk : 1 ≤ tk ∧ tk ≤ 20) (hd : -2000 ≤ d ∧ d ≤ 2000) (hA : -1010101 ≤ A ∧ A ≤ 1010101) (hr : (⟨r0, r1⟩ : Rg).bd 20) (hP : (⟨P0, P1⟩ : Rg).bd 1000000000) (hL : (⟨L0, L1⟩ : Rg).bd 1000000000000000) (hi : 0 ≤ i ∧ i < ((3 : Nat) : Int)) {K : Int → Int → Int → Int → Prop}
  (hK : ∀ a b c e, a = ((⟨P0, P1⟩ : Rg).plus ((restR tk ⟨r0, r1⟩ d A).times ⟨r0, r1⟩)).lo → b = ((⟨P0, P1⟩ : Rg).plus ((restR tk ⟨r0, r1⟩ d A).times ⟨r0, r1⟩)).hi → c = ((⟨L0, L1⟩ : Rg).plus (restR tk ⟨r0, r1⟩ d A).square).lo → e = ((⟨L0, L1⟩ : Rg).plus (restR tk ⟨r0, r1⟩ d A).square).hi →
   ((restR tk ⟨r0, r1⟩ d A).times ⟨r0, r1⟩).bd 404840400 → (restR tk ⟨r0, r1⟩ d A).square.bd 409739373680400 → K a b c e) :
  (0 ≤ i ∧ i < ((3 : Nat) : Int)) ∧ ((0 ≤ i ∧ i < ((3 : Nat) : Int)) ∧ (lt (IntKind.i64.wrap ((0 : Int) - A)) fun x5 => lt (IntKind.i64.wrap ((0 : Int) - A)) fun x6 => lt ((((⟨r0, r1⟩ : Rg) : Rg).times (⟨x5, x6⟩ : Rg)).lo) fun x7 => lt ((((⟨r0, r1⟩ : Rg) : Rg).times (⟨x5, x6⟩ : Rg)).hi) fun x8 =>
   ((-4000000000000000000 ≤ r0 * x5 ∧ r0 * x5 ≤ 4000000000000000000) ∧ (-4000000000000000000 ≤ r0 * x6 ∧ r0 * x6 ≤ 4000000000000000000) ∧ (-4000000000000000000 ≤ r1 * x5 ∧ r1 * x5 ≤ 4000000000000000000) ∧ (-4000000000000000000 ≤ r1 * x6 ∧ r1 * x6 ≤ 4000000000000000000)) ∧ ((0 ≤ i ∧ i < ((3 : Nat) : Int)) ∧
   (lt (IntKind.i64.wrap (tk * d)) fun x9 => (0 ≤ i ∧ i < ((3 : Nat) : Int)) ∧ (lt (IntKind.i64.wrap (tk * d)) fun x10 => lt ((((⟨x7, x8⟩ : Rg) : Rg).plusW (⟨x9, x10⟩ : Rg)).lo) fun x11 => lt ((((⟨x7, x8⟩ : Rg) : Rg).plusW (⟨x9, x10⟩ : Rg)).hi) fun x12 => lt ((((⟨x11, x12⟩ : Rg) : Rg).times (⟨r0, r1⟩ : Rg)).lo) fun x13 => lt ((((⟨x11, x12⟩ : Rg) : Rg).times (⟨r0, r1⟩ : Rg)).hi) fun x14 =>
   ((-4000000000000000000 ≤ x11 * r0 ∧ x11 * r0 ≤ 4000000000000000000) ∧ (-4000000000000000000 ≤ x11 * r1 ∧ x11 * r1 ≤ 4000000000000000000) ∧ (-4000000000000000000 ≤ x12 * r0 ∧ x12 * r0 ≤ 4000000000000000000) ∧ (-4000000000000000000 ≤ x12 * r1 ∧ x12 * r1 ≤ 4000000000000000000)) ∧
   (lt ((((⟨P0, P1⟩ : Rg) : Rg).plusW (⟨x13, x14⟩ : Rg)).lo) fun x15 => lt ((((⟨P0, P1⟩ : Rg) : Rg).plusW (⟨x13, x14⟩ : Rg)).hi) fun x16 => lt ((sqW x11 x12).lo) fun x17 => lt ((sqW x11 x12).hi) fun x18 => lt ((((⟨L0, L1⟩ : Rg) : Rg).plusW (⟨x17, x18⟩ : Rg)).lo) fun x19 => lt ((((⟨L0, L1⟩ : Rg) : Rg).plusW (⟨x17, x18⟩ : Rg)).hi) fun x20 => K x15 x16 x19 x20)))))) := by
 have hT := mul_rg (x := tk) (y := d) (A := 20) (B := 2000) (C := 40000) (by omega) hd (by decide)
 have hn : (⟨-A, -A⟩ : Rg).bd 1010101 := by unfold Rg.bd; simp only; omega
 have hR := Rg.times_bd hr hn (C := 20202020) (by decide)
 have hTD : (⟨tk * d, tk * d⟩ : Rg).bd 40000 := ⟨hT, hT⟩
 have hS : (restR tk ⟨r0, r1⟩ d A).bd 20242020 := Rg.plus_bd hR hTD (C := 20242020) (by decide)
 have hU := Rg.times_bd hS hr (C := 404840400) (by decide)
 have hV := (Rg.square_bd hS (C := 409739373680400) (by decide)).1
 have en : IntKind.i64.wrap ((0 : Int) - A) = -A := by rw [IntWalk.i64_in _ (by omega)]; omega
 have et : IntKind.i64.wrap (tk * d) = tk * d := IntWalk.i64_in _ (by omega)
 have b20 : ∀ {x y : Int} {C : Int}, (-1010101 ≤ y ∧ y ≤ 1010101) → (-20 ≤ x ∧ x ≤ 20) → -4000000000000000000 ≤ x * y ∧ x * y ≤ 4000000000000000000 := fun {x y C} h g => by
  have := mul_rg (x := x) (y := y) (A := 20) (B := 1010101) (C := 20202020) g h (by decide); omega
 have b21 : ∀ {x y : Int}, (-20242020 ≤ x ∧ x ≤ 20242020) → (-20 ≤ y ∧ y ≤ 20) → -4000000000000000000 ≤ x * y ∧ x * y ≤ 4000000000000000000 := fun {x y} g h => by
  have := mul_rg (x := x) (y := y) (A := 20242020) (B := 20) (C := 404840400) g h (by decide); omega
 refine ⟨hi, hi, ?_⟩
 rw [en, et]
 refine lt_i fun x5 h5 => lt_i fun x6 h6 => ?_
 subst h5; subst h6
 refine lt_i fun x7 h7 => lt_i fun x8 h8 => ⟨⟨b20 (C := 0) hn.1 hr.1, b20 (C := 0) hn.1 hr.1, b20 (C := 0) hn.1 hr.2, b20 (C := 0) hn.1 hr.2⟩, hi, lt_i fun x9 h9 => ⟨hi, lt_i fun x10 h10 => ?_⟩⟩
 subst h9; subst h10
 have eR : (⟨x7, x8⟩ : Rg) = (⟨r0, r1⟩ : Rg).times ⟨-A, -A⟩ := by rw [← h7, ← h8]
 rw [eR, plusW_eq hR hTD (by decide)]
 have eS : ((⟨r0, r1⟩ : Rg).times ⟨-A, -A⟩).plus ⟨tk * d, tk * d⟩ = restR tk ⟨r0, r1⟩ d A := rfl
 rw [eS]
 refine lt_i fun x11 h11 => lt_i fun x12 h12 => ?_
 subst h11; subst h12
 refine lt_i fun x13 h13 => lt_i fun x14 h14 => ⟨⟨b21 hS.1 hr.1, b21 hS.1 hr.2, b21 hS.2 hr.1, b21 hS.2 hr.2⟩, ?_⟩
 have eU : (⟨x13, x14⟩ : Rg) = (restR tk ⟨r0, r1⟩ d A).times ⟨r0, r1⟩ := by rw [← h13, ← h14]
 rw [eU, plusW_eq hP hU (by decide)]
 have e1 : sqW (restR tk ⟨r0, r1⟩ d A).lo (restR tk ⟨r0, r1⟩ d A).hi = (restR tk ⟨r0, r1⟩ d A).square := sqW_eq hS (C := 409739373680400) (by decide) (by decide)
 rw [e1]
 refine lt_i fun x15 h15 => lt_i fun x16 h16 => lt_i fun x17 h17 => lt_i fun x18 h18 => ?_
 have eV : (⟨x17, x18⟩ : Rg) = (restR tk ⟨r0, r1⟩ d A).square := by rw [← h17, ← h18]
 rw [eV, plusW_eq hL hV (by decide)]
 exact lt_i fun x19 h19 => lt_i fun x20 h20 => hK _ _ _ _ h15.symm h16.symm h19.symm h20.symm hU hV
theorem numsP4 {x y z u : Int} : numsP 1 4 (fun i j => boxC [.v (.int .i64 x), .v (.int .i64 y), .v (.int .i64 z), .v (.int .i64 u)] (0 + i * 1 + j)) := by
 intro i j hi hj
 obtain rfl : j = 0 := by omega
 rcases (by omega : i = 0 ∨ i = 1 ∨ i = 2 ∨ i = 3) with rfl | rfl | rfl | rfl <;> rfl
theorem list4 {l : List Int} (h : l.length = 4) : l = [l.getD 0 0, l.getD 1 0, l.getD 2 0, l.getD 3 0] := by
 match l, h with
 | [a, b, c, d], _ => rfl
def vc_track_CheckBox (b0 b1 b2 b3 b4 b5 : Int) (post : DV → Prop) : Prop := (0 ≤ (20 : Int) ∧ (20 : Int) ≤ 100000) ∧ ((cond (!(((⟨b0, b1, b2⟩ : V3) : V3).inS (20 : Int))) ((true = true) ∧ (True)) ((0 ≤ (20 : Int) ∧ (20 : Int) ≤ 100000) ∧ (True))) ∧ (lt ((bif (!(((⟨b0, b1, b2⟩ : V3) : V3).inS (20 : Int))) then true else (!(((⟨b3, b4, b5⟩ : V3) : V3).inS (20 : Int))))) fun x1 => cond x1 (post (.t (.c (.v (.int .i64 2))))) ((0 ≤ (0 : Int) ∧ (0 : Int) < ((3 : Nat) : Int)) ∧ ((0 ≤ (0 : Int) ∧ (0 : Int) < ((3 : Nat) : Int)) ∧ (cond (decide (b0 > b3)) (post (.t (.c (.v (.int .i64 9))))) ((0 ≤ (1 : Int) ∧ (1 : Int) < ((3 : Nat) : Int)) ∧ ((0 ≤ (1 : Int) ∧ (1 : Int) < ((3 : Nat) : Int)) ∧ (cond (decide (b1 > b4)) (post (.t (.c (.v (.int .i64 9))))) ((0 ≤ (2 : Int) ∧ (2 : Int) < ((3 : Nat) : Int)) ∧ ((0 ≤ (2 : Int) ∧ (2 : Int) < ((3 : Nat) : Int)) ∧ (cond (decide (b2 > b5)) (post (.t (.c (.v (.int .i64 9))))) ((((⟨⟨b0, b1, b2⟩, ⟨b3, b4, b5⟩⟩ : TBox)).lo.inS 20 = true ∧ ((⟨⟨b0, b1, b2⟩, ⟨b3, b4, b5⟩⟩ : TBox)).hi.inS 20 = true ∧ ((⟨⟨b0, b1, b2⟩, ⟨b3, b4, b5⟩⟩ : TBox)).ok) ∧ (post (.t (.c (.v (.int .i64 (unl (decide ((((⟨⟨b0, b1, b2⟩, ⟨b3, b4, b5⟩⟩ : TBox)).count) ≤ (700 : Int))) (8 : Int)))))))))))))))))))
def ann_track_CheckBox : Ann := ⟨fun r => lookA r [(6, ([[], [], [0, 1], [0, 1, 2], [], [], [4, 5], [4, 5, 6], [0, 1, 2, 3, 4, 5, 6, 7]], [[], [], [], [], [], [], [], [], []]))], fun b => lookA b [(0, (some 4, some ⟨[1, 14], [1], []⟩))], fun _ => [], noIt, false, fun r => lookA r [(1, (5, [13]))], fun _ => none⟩
theorem ev_track_CheckBox (J : Inv) (b0 b1 b2 b3 b4 b5 : Int) (post : DV → Prop) : evFn Try.prog tab Skr30 ann_track_CheckBox J Try.f49 [.t (.a [.v (.int .i64 b0), .v (.int .i64 b1), .v (.int .i64 b2), .v (.int .i64 b3), .v (.int .i64 b4), .v (.int .i64 b5)])] post = vc_track_CheckBox b0 b1 b2 b3 b4 b5 post := by kernel_rfl
theorem fit_track_CheckBox : okFn ann_track_CheckBox Try.f49 = true := by kernel_rfl
theorem lp_track_CheckBox (J : Inv) (post : DV → Prop) : AllG J (loopsFn Try.prog tab Skr30 ann_track_CheckBox J Try.f49 post) = (True) := by kernel_rfl
theorem spec_track_CheckBox (b0 b1 b2 b3 b4 b5 : Int) : vc_track_CheckBox b0 b1 b2 b3 b4 b5 (fun r => LeD r (.t (.c (.v (.int .i64 (((⟨⟨b0, b1, b2⟩, ⟨b3, b4, b5⟩⟩ : TBox)).err)))))) := by
 have hE : ∀ {a b c : Int}, a ≠ 0 → firstNZ [a, b, c] = a := by intro a b c h; simp [firstNZ, h]
 unfold vc_track_CheckBox
 unfold TBox.err
 simp only
 refine ⟨by decide, cond_i (fun _ => ⟨by trivial, trivial⟩) (fun _ => ⟨by decide, trivial⟩), lt_i fun x1 h1 => cond_i (fun e => leI ?_) (fun e => ⟨by decide, by decide, ?_⟩)⟩
 ·have e2 : ((⟨b0, b1, b2⟩ : V3).inS 20 && (⟨b3, b4, b5⟩ : V3).inS 20) = false := by
   rw [← h1] at e
   cases q : (⟨b0, b1, b2⟩ : V3).inS 20 <;> cases r : (⟨b3, b4, b5⟩ : V3).inS 20 <;> rw [q, r] at e <;> first | rfl | cases e
  rw [e2]
  rfl
 have e2 : (⟨b0, b1, b2⟩ : V3).inS 20 = true ∧ (⟨b3, b4, b5⟩ : V3).inS 20 = true := by
  rw [← h1] at e
  cases q : (⟨b0, b1, b2⟩ : V3).inS 20 <;> cases r : (⟨b3, b4, b5⟩ : V3).inS 20 <;> rw [q, r] at e <;> first | exact ⟨rfl, rfl⟩ | cases e
 rw [e2.1, e2.2]
 have f9 : ∀ {k : Bool} {c : Int}, k = false → (9 : Int) = firstNZ [unl (true && true) 2, unl k 9, c] := by rintro k c rfl; rfl
 refine cond_i (fun g => leI (f9 ?_)) (fun g => ⟨by decide, by decide, cond_i (fun g2 => leI (f9 ?_)) (fun g2 => ⟨by decide, by decide, cond_i (fun g3 => leI (f9 ?_)) (fun g3 => ⟨⟨rfl, rfl, ⟨show b0 ≤ b3 by have := of_decide_eq_false g; omega, show b1 ≤ b4 by have := of_decide_eq_false g2; omega, show b2 ≤ b5 by have := of_decide_eq_false g3; omega⟩⟩, leI ?_⟩)⟩)⟩)
 ·have g := of_decide_eq_true g
  rw [decide_eq_false (show ¬ b0 ≤ b3 by omega)]; rfl
 ·have g := of_decide_eq_true g2
  rw [decide_eq_false (show ¬ b1 ≤ b4 by omega)]; simp
 ·have g := of_decide_eq_true g3
  rw [decide_eq_false (show ¬ b2 ≤ b5 by omega)]; simp
 ·have g := of_decide_eq_false g
  have g2 := of_decide_eq_false g2
  have g3 := of_decide_eq_false g3
  rw [decide_eq_true (show b0 ≤ b3 by omega), decide_eq_true (show b1 ≤ b4 by omega), decide_eq_true (show b2 ≤ b5 by omega)]
  show unl _ 8 = firstNZ [0, 0, unl _ 8]
  simp only [firstNZ]
  by_cases q : ((⟨⟨b0, b1, b2⟩, ⟨b3, b4, b5⟩⟩ : TBox)).count ≤ 700
  ·rw [decide_eq_true q]; rfl
  ·rw [decide_eq_false q]; rfl
def con_track_CheckBox : Con := fun args => match args with
 | [.t (.a [.v (.int .i64 b0), .v (.int .i64 b1), .v (.int .i64 b2), .v (.int .i64 b3), .v (.int .i64 b4), .v (.int .i64 b5)])] => some (.t (.c (.v (.int .i64 (((⟨⟨b0, b1, b2⟩, ⟨b3, b4, b5⟩⟩ : TBox)).err)))), none, false)
 | _ => none
theorem ok_track_CheckBox : Ok Try.prog 49 con_track_CheckBox := by
 refine Ok.fn (ann := ann_track_CheckBox) mixed tabOK VSkr30 ValidIt.no (fn := Try.f49) (by kernel_rfl) (by kernel_rfl) fit_track_CheckBox fun args r pre fresh h hp => ?_
 unfold con_track_CheckBox at h
 split at h
 ·rename_i b0 b1 b2 b3 b4 b5
  cases h
  refine ⟨rfl, fun _ _ _ => False, _, LeA.refl _, Nat.le_of_ble_eq_true (by kernel_rfl), ?_, ?_⟩
  ·rw [ev_track_CheckBox]; exact spec_track_CheckBox b0 b1 b2 b3 b4 b5
  ·rw [lp_track_CheckBox]; trivial
 ·cases h
def Sks31 : Sum := addS Skr30 49 con_track_CheckBox
theorem VSks31 : Valid Try.prog Sks31 := Valid.add VSkr30 ok_track_CheckBox
def vc_track_openBox (m0 m1 m2 m3 m4 m5 m6 m7 m8 m9 m10 m11 : Int) (b0 b1 b2 b3 b4 b5 : Int) (post : DV → Prop) : Prop := (numsP 1 2 (genC [[.v (.int .i64 (((⟨m0, m1, m2, m3, m4, m5, m6, m7, m8, m9, m10, m11⟩ : TMod)).err))], [.v (.int .i64 (((⟨⟨b0, b1, b2⟩, ⟨b3, b4, b5⟩⟩ : TBox)).err))]]) ∧ (([(((⟨m0, m1, m2, m3, m4, m5, m6, m7, m8, m9, m10, m11⟩ : TMod)).err), (((⟨⟨b0, b1, b2⟩, ⟨b3, b4, b5⟩⟩ : TBox)).err)] : List Int)).length ≤ 100) ∧ (post (.tu [.a [.v (.int .i64 m0), .v (.int .i64 m1), .v (.int .i64 m2), .v (.int .i64 m3), .v (.int .i64 m4), .v (.int .i64 m5), .v (.int .i64 m6), .v (.int .i64 m7), .v (.int .i64 m8), .v (.int .i64 m9), .v (.int .i64 m10), .v (.int .i64 m11)], .c (.v (.int .i64 (firstNZ ([(((⟨m0, m1, m2, m3, m4, m5, m6, m7, m8, m9, m10, m11⟩ : TMod)).err), (((⟨⟨b0, b1, b2⟩, ⟨b3, b4, b5⟩⟩ : TBox)).err)] : List Int))))]))
def ann_track_openBox : Ann := ⟨fun r => lookA r [(2, ([[], [], [], [2], [1, 2, 3], [1, 2, 3, 4], [0, 1, 2, 3, 4, 5], [0, 1, 2, 3, 4, 5, 6]], [[16, 17, 18], [16, 17, 18], [16, 17, 18], [17, 18], [18], [], [], []]))], fun _ => none, fun _ => [], noIt, false, fun _ => none, fun _ => none⟩
theorem ev_track_openBox (J : Inv) (m0 m1 m2 m3 m4 m5 m6 m7 m8 m9 m10 m11 : Int) (b0 b1 b2 b3 b4 b5 : Int) (post : DV → Prop) : evFn Try.prog tab Sks31 ann_track_openBox J Try.f43 [.t (.a [.v (.int .i64 m0), .v (.int .i64 m1), .v (.int .i64 m2), .v (.int .i64 m3), .v (.int .i64 m4), .v (.int .i64 m5), .v (.int .i64 m6), .v (.int .i64 m7), .v (.int .i64 m8), .v (.int .i64 m9), .v (.int .i64 m10), .v (.int .i64 m11)]), .t (.a [.v (.int .i64 b0), .v (.int .i64 b1), .v (.int .i64 b2), .v (.int .i64 b3), .v (.int .i64 b4), .v (.int .i64 b5)])] post = vc_track_openBox m0 m1 m2 m3 m4 m5 m6 m7 m8 m9 m10 m11 b0 b1 b2 b3 b4 b5 post := by kernel_rfl
theorem fit_track_openBox : okFn ann_track_openBox Try.f43 = true := by kernel_rfl
theorem lp_track_openBox (J : Inv) (post : DV → Prop) : AllG J (loopsFn Try.prog tab Sks31 ann_track_openBox J Try.f43 post) = (True) := by kernel_rfl
theorem spec_track_openBox (m0 m1 m2 m3 m4 m5 m6 m7 m8 m9 m10 m11 : Int) (b0 b1 b2 b3 b4 b5 : Int) : vc_track_openBox m0 m1 m2 m3 m4 m5 m6 m7 m8 m9 m10 m11 b0 b1 b2 b3 b4 b5 (fun r => LeD r (.tu [.a [.v (.int .i64 m0), .v (.int .i64 m1), .v (.int .i64 m2), .v (.int .i64 m3), .v (.int .i64 m4), .v (.int .i64 m5), .v (.int .i64 m6), .v (.int .i64 m7), .v (.int .i64 m8), .v (.int .i64 m9), .v (.int .i64 m10), .v (.int .i64 m11)], .c (.v (.int .i64 (firstNZ [((⟨m0, m1, m2, m3, m4, m5, m6, m7, m8, m9, m10, m11⟩ : TMod)).err, ((⟨⟨b0, b1, b2⟩, ⟨b3, b4, b5⟩⟩ : TBox)).err])))])) := by
 unfold vc_track_openBox
 exact ⟨⟨numsP_gen [_, _], Nat.le_of_ble_eq_true rfl⟩, LeD.refl _⟩
def con_track_openBox : Con := fun args => match args with
 | [.t (.a [.v (.int .i64 m0), .v (.int .i64 m1), .v (.int .i64 m2), .v (.int .i64 m3), .v (.int .i64 m4), .v (.int .i64 m5), .v (.int .i64 m6), .v (.int .i64 m7), .v (.int .i64 m8), .v (.int .i64 m9), .v (.int .i64 m10), .v (.int .i64 m11)]), .t (.a [.v (.int .i64 b0), .v (.int .i64 b1), .v (.int .i64 b2), .v (.int .i64 b3), .v (.int .i64 b4), .v (.int .i64 b5)])] => some (.tu [.a [.v (.int .i64 m0), .v (.int .i64 m1), .v (.int .i64 m2), .v (.int .i64 m3), .v (.int .i64 m4), .v (.int .i64 m5), .v (.int .i64 m6), .v (.int .i64 m7), .v (.int .i64 m8), .v (.int .i64 m9), .v (.int .i64 m10), .v (.int .i64 m11)], .c (.v (.int .i64 (firstNZ [((⟨m0, m1, m2, m3, m4, m5, m6, m7, m8, m9, m10, m11⟩ : TMod)).err, ((⟨⟨b0, b1, b2⟩, ⟨b3, b4, b5⟩⟩ : TBox)).err])))], none, false)
 | _ => none
theorem ok_track_openBox : Ok Try.prog 43 con_track_openBox := by
 refine Ok.fn (ann := ann_track_openBox) mixed tabOK VSks31 ValidIt.no (fn := Try.f43) (by kernel_rfl) (by kernel_rfl) fit_track_openBox fun args r pre fresh h hp => ?_
 unfold con_track_openBox at h
 split at h
 ·rename_i m0 m1 m2 m3 m4 m5 m6 m7 m8 m9 m10 m11 b0 b1 b2 b3 b4 b5
  cases h
  refine ⟨rfl, fun _ _ _ => False, _, LeA.refl _, Nat.le_of_ble_eq_true (by kernel_rfl), ?_, ?_⟩
  ·rw [ev_track_openBox]; exact spec_track_openBox m0 m1 m2 m3 m4 m5 m6 m7 m8 m9 m10 m11 b0 b1 b2 b3 b4 b5
  ·rw [lp_track_openBox]; trivial
 ·cases h
def Sks32 : Sum := addS Sks31 43 con_track_openBox
theorem VSks32 : Valid Try.prog Sks32 := Valid.add VSks31 ok_track_openBox
def vc_track_openHits (m0 m1 m2 m3 m4 m5 m6 m7 m8 m9 m10 m11 : Int) (b0 b1 b2 b3 b4 b5 : Int) (l : List THit) (post : DV → Prop) : Prop := (numsP 5 l.length (hitsC l)) ∧ ((numsP 1 2 (genC [[.v (.int .i64 (firstNZ [((⟨m0, m1, m2, m3, m4, m5, m6, m7, m8, m9, m10, m11⟩ : TMod)).err, ((⟨⟨b0, b1, b2⟩, ⟨b3, b4, b5⟩⟩ : TBox)).err]))], [.v (.int .i64 (hitsE (listC l.length mkHit (hitsC l))))]]) ∧ (([(firstNZ [((⟨m0, m1, m2, m3, m4, m5, m6, m7, m8, m9, m10, m11⟩ : TMod)).err, ((⟨⟨b0, b1, b2⟩, ⟨b3, b4, b5⟩⟩ : TBox)).err]), (hitsE (listC l.length mkHit (hitsC l)))] : List Int)).length ≤ 100) ∧ (post (.tu [.a [.v (.int .i64 m0), .v (.int .i64 m1), .v (.int .i64 m2), .v (.int .i64 m3), .v (.int .i64 m4), .v (.int .i64 m5), .v (.int .i64 m6), .v (.int .i64 m7), .v (.int .i64 m8), .v (.int .i64 m9), .v (.int .i64 m10), .v (.int .i64 m11)], .c (.v (.int .i64 (firstNZ ([(firstNZ [((⟨m0, m1, m2, m3, m4, m5, m6, m7, m8, m9, m10, m11⟩ : TMod)).err, ((⟨⟨b0, b1, b2⟩, ⟨b3, b4, b5⟩⟩ : TBox)).err]), (hitsE (listC l.length mkHit (hitsC l)))] : List Int))))])))
def ann_track_openHits : Ann := ⟨fun r => lookA r [(2, ([[], [], [], [2], [1, 2, 3], [1, 2, 3, 4], [0, 1, 2, 3, 4, 5], [0, 1, 2, 3, 4, 5, 6]], [[19, 20, 21], [19, 20, 21], [19, 20, 21], [20, 21], [21], [], [], []]))], fun _ => none, fun _ => [], noIt, false, fun _ => none, fun _ => none⟩
theorem ev_track_openHits (J : Inv) (m0 m1 m2 m3 m4 m5 m6 m7 m8 m9 m10 m11 : Int) (b0 b1 b2 b3 b4 b5 : Int) (l : List THit) (post : DV → Prop) : evFn Try.prog tab Sks32 ann_track_openHits J Try.f30 [.t (.a [.v (.int .i64 m0), .v (.int .i64 m1), .v (.int .i64 m2), .v (.int .i64 m3), .v (.int .i64 m4), .v (.int .i64 m5), .v (.int .i64 m6), .v (.int .i64 m7), .v (.int .i64 m8), .v (.int .i64 m9), .v (.int .i64 m10), .v (.int .i64 m11)]), .t (.a [.v (.int .i64 b0), .v (.int .i64 b1), .v (.int .i64 b2), .v (.int .i64 b3), .v (.int .i64 b4), .v (.int .i64 b5)]), .t (.c (.sl 5 l.length (hitsC l)))] post = vc_track_openHits m0 m1 m2 m3 m4 m5 m6 m7 m8 m9 m10 m11 b0 b1 b2 b3 b4 b5 l post := by kernel_rfl
theorem fit_track_openHits : okFn ann_track_openHits Try.f30 = true := by kernel_rfl
theorem lp_track_openHits (J : Inv) (post : DV → Prop) : AllG J (loopsFn Try.prog tab Sks32 ann_track_openHits J Try.f30 post) = (True) := by kernel_rfl
theorem spec_track_openHits (m0 m1 m2 m3 m4 m5 m6 m7 m8 m9 m10 m11 : Int) (b0 b1 b2 b3 b4 b5 : Int) (l : List THit) : vc_track_openHits m0 m1 m2 m3 m4 m5 m6 m7 m8 m9 m10 m11 b0 b1 b2 b3 b4 b5 l (fun r => LeD r (.tu [.a [.v (.int .i64 m0), .v (.int .i64 m1), .v (.int .i64 m2), .v (.int .i64 m3), .v (.int .i64 m4), .v (.int .i64 m5), .v (.int .i64 m6), .v (.int .i64 m7), .v (.int .i64 m8), .v (.int .i64 m9), .v (.int .i64 m10), .v (.int .i64 m11)], .c (.v (.int .i64 (firstNZ [firstNZ [((⟨m0, m1, m2, m3, m4, m5, m6, m7, m8, m9, m10, m11⟩ : TMod)).err, ((⟨⟨b0, b1, b2⟩, ⟨b3, b4, b5⟩⟩ : TBox)).err], hitsE l])))])) := by
 unfold vc_track_openHits
 rw [hits_listC]
 exact ⟨numsP_hits l, ⟨numsP_gen [_, _], Nat.le_of_ble_eq_true rfl⟩, LeD.refl _⟩
def con_track_openHits : Con := fun args => match args with
 | [.t (.a [.v (.int .i64 m0), .v (.int .i64 m1), .v (.int .i64 m2), .v (.int .i64 m3), .v (.int .i64 m4), .v (.int .i64 m5), .v (.int .i64 m6), .v (.int .i64 m7), .v (.int .i64 m8), .v (.int .i64 m9), .v (.int .i64 m10), .v (.int .i64 m11)]), .t (.a [.v (.int .i64 b0), .v (.int .i64 b1), .v (.int .i64 b2), .v (.int .i64 b3), .v (.int .i64 b4), .v (.int .i64 b5)]), .t (.c (.sl 5 n_l c_l))] => some (.tu [.a [.v (.int .i64 m0), .v (.int .i64 m1), .v (.int .i64 m2), .v (.int .i64 m3), .v (.int .i64 m4), .v (.int .i64 m5), .v (.int .i64 m6), .v (.int .i64 m7), .v (.int .i64 m8), .v (.int .i64 m9), .v (.int .i64 m10), .v (.int .i64 m11)], .c (.v (.int .i64 (firstNZ [firstNZ [((⟨m0, m1, m2, m3, m4, m5, m6, m7, m8, m9, m10, m11⟩ : TMod)).err, ((⟨⟨b0, b1, b2⟩, ⟨b3, b4, b5⟩⟩ : TBox)).err], hitsE (listC n_l mkHit c_l)])))], some (numsP 5 n_l c_l), false)
 | _ => none
theorem ok_track_openHits : Ok Try.prog 30 con_track_openHits := by
 refine Ok.fn (ann := ann_track_openHits) mixed tabOK VSks32 ValidIt.no (fn := Try.f30) (by kernel_rfl) (by kernel_rfl) fit_track_openHits fun args r pre fresh h hp => ?_
 unfold con_track_openHits at h
 split at h
 ·rename_i m0 m1 m2 m3 m4 m5 m6 m7 m8 m9 m10 m11 b0 b1 b2 b3 b4 b5 n_l c_l
  cases h
  have hp0 := hp
  refine ⟨rfl, fun _ _ _ => False, [.t (.a [.v (.int .i64 m0), .v (.int .i64 m1), .v (.int .i64 m2), .v (.int .i64 m3), .v (.int .i64 m4), .v (.int .i64 m5), .v (.int .i64 m6), .v (.int .i64 m7), .v (.int .i64 m8), .v (.int .i64 m9), .v (.int .i64 m10), .v (.int .i64 m11)]), .t (.a [.v (.int .i64 b0), .v (.int .i64 b1), .v (.int .i64 b2), .v (.int .i64 b3), .v (.int .i64 b4), .v (.int .i64 b5)]), .t (.c (.sl 5 ((listC n_l mkHit c_l).length) (hitsC (listC n_l mkHit c_l))))], ?_, Nat.le_of_ble_eq_true (by kernel_rfl), ?_, ?_⟩
  ·exact (LeA_cons (LeD.refl _) (LeA_cons (LeD.refl _) (LeA_cons (leT_c ((leL_THit hp0))) LeA_nil)))
  ·rw [ev_track_openHits]; exact spec_track_openHits m0 m1 m2 m3 m4 m5 m6 m7 m8 m9 m10 m11 b0 b1 b2 b3 b4 b5 (listC n_l mkHit c_l)
  ·rw [lp_track_openHits]; trivial
 ·cases h
def Sks33 : Sum := addS Sks32 30 con_track_openHits
theorem VSks33 : Valid Try.prog Sks33 := Valid.add VSks32 ok_track_openHits
def vc_track_ends_square (r0 r1 : Int) (post : DV → Prop) : Prop := lt (IntKind.i64.wrap (r0 * r0)) fun x1 => lt (IntKind.i64.wrap (r1 * r1)) fun x2 => cond (decide (r0 ≤ (0 : Int))) (cond (decide (r1 ≥ (0 : Int))) (lt ((if x2 > x1 then x2 else x1)) fun x3 => post (.t (.a [.v (.int .i64 0), .v (.int .i64 x3)]))) (lt ((if x2 < x1 then x2 else x1)) fun x4 => lt ((if x2 > x1 then x2 else x1)) fun x5 => post (.t (.a [.v (.int .i64 x4), .v (.int .i64 x5)])))) ((false = false) ∧ (lt ((if x2 < x1 then x2 else x1)) fun x6 => lt ((if x2 > x1 then x2 else x1)) fun x7 => post (.t (.a [.v (.int .i64 x6), .v (.int .i64 x7)]))))
def ann_track_ends_square : Ann := ⟨fun r => lookA r [(1, ([[], [0], [], [2], [0, 1, 2, 3], [], [5], [], [7], [5, 6, 7, 8], [0, 1, 2, 3, 4], [0, 1, 2, 3, 4, 5, 6, 7, 8, 9, 10]], [[], [], [], [], [], [], [], [], [], [], [], []]))], fun _ => none, fun _ => [], noIt, false, fun _ => none, fun _ => none⟩
theorem ev_track_ends_square (J : Inv) (r0 r1 : Int) (post : DV → Prop) : evFn Try.prog tab Sks33 ann_track_ends_square J Try.f81 [.t (.a [.v (.int .i64 r0), .v (.int .i64 r1)])] post = vc_track_ends_square r0 r1 post := by kernel_rfl
theorem fit_track_ends_square : okFn ann_track_ends_square Try.f81 = true := by kernel_rfl
theorem lp_track_ends_square (J : Inv) (post : DV → Prop) : AllG J (loopsFn Try.prog tab Sks33 ann_track_ends_square J Try.f81 post) = (True) := by kernel_rfl
theorem spec_track_ends_square (r0 r1 : Int) : vc_track_ends_square r0 r1 (fun r => LeD r (.t (.a [.v (.int .i64 ((sqW r0 r1).lo)), .v (.int .i64 ((sqW r0 r1).hi))]))) := by
 unfold vc_track_ends_square
 refine lt_i fun x1 h1 => lt_i fun x2 h2 => ?_
 subst h1; subst h2
 refine cond_i (fun h => ?_) (fun h => ?_)
 ·have h := of_decide_eq_true h
  refine cond_i (fun g => lt_i fun x hx => LeD.of ?_) (fun g => lt_i fun x hx => lt_i fun y hy => LeD.of ?_)
  ·have g := of_decide_eq_true g
   unfold sqW
   rw [if_pos ⟨h, g⟩, ← hx]
   congr 6
   simp only
   rw [mx_if]
  ·have g := of_decide_eq_false g
   unfold sqW
   rw [if_neg (fun q => g q.2), ← hx, ← hy]
   simp only [mn_if, mx_if]
 ·have h := of_decide_eq_false h
  refine ⟨rfl, lt_i fun x hx => lt_i fun y hy => LeD.of ?_⟩
  unfold sqW
  rw [if_neg (fun q => h q.1), ← hx, ← hy]
  simp only [mn_if, mx_if]
def con_track_ends_square : Con := fun args => match args with
 | [.t (.a [.v (.int .i64 r0), .v (.int .i64 r1)])] => some (.t (.a [.v (.int .i64 ((sqW r0 r1).lo)), .v (.int .i64 ((sqW r0 r1).hi))]), none, false)
 | _ => none
theorem ok_track_ends_square : Ok Try.prog 81 con_track_ends_square := by
 refine Ok.fn (ann := ann_track_ends_square) mixed tabOK VSks33 ValidIt.no (fn := Try.f81) (by kernel_rfl) (by kernel_rfl) fit_track_ends_square fun args r pre fresh h hp => ?_
 unfold con_track_ends_square at h
 split at h
 ·rename_i r0 r1
  cases h
  refine ⟨rfl, fun _ _ _ => False, _, LeA.refl _, Nat.le_of_ble_eq_true (by kernel_rfl), ?_, ?_⟩
  ·rw [ev_track_ends_square]; exact spec_track_ends_square r0 r1
  ·rw [lp_track_ends_square]; trivial
 ·cases h
def Sks34 : Sum := addS Sks33 81 con_track_ends_square
theorem VSks34 : Valid Try.prog Sks34 := Valid.add VSks33 ok_track_ends_square
def vc_track_ends_plus (r0 r1 : Int) (s0 s1 : Int) (post : DV → Prop) : Prop := lt (IntKind.i64.wrap (r0 + s0)) fun x1 => lt (IntKind.i64.wrap (r1 + s1)) fun x2 => post (.t (.a [.v (.int .i64 x1), .v (.int .i64 x2)]))
def ann_track_ends_plus : Ann := ⟨fun _ => none, fun _ => none, fun _ => [], noIt, false, fun _ => none, fun _ => none⟩
theorem ev_track_ends_plus (J : Inv) (r0 r1 : Int) (s0 s1 : Int) (post : DV → Prop) : evFn Try.prog tab Sks34 ann_track_ends_plus J Try.f80 [.t (.a [.v (.int .i64 r0), .v (.int .i64 r1)]), .t (.a [.v (.int .i64 s0), .v (.int .i64 s1)])] post = vc_track_ends_plus r0 r1 s0 s1 post := by kernel_rfl
theorem fit_track_ends_plus : okFn ann_track_ends_plus Try.f80 = true := by kernel_rfl
theorem lp_track_ends_plus (J : Inv) (post : DV → Prop) : AllG J (loopsFn Try.prog tab Sks34 ann_track_ends_plus J Try.f80 post) = (True) := by kernel_rfl
theorem spec_track_ends_plus (r0 r1 : Int) (s0 s1 : Int) : vc_track_ends_plus r0 r1 s0 s1 (fun r => LeD r (.t (.a [.v (.int .i64 ((((⟨r0, r1⟩ : Rg) : Rg).plusW (⟨s0, s1⟩ : Rg)).lo)), .v (.int .i64 ((((⟨r0, r1⟩ : Rg) : Rg).plusW (⟨s0, s1⟩ : Rg)).hi))]))) := by
 unfold vc_track_ends_plus
 (repeat' with_reducible first | (refine lt_i ?_; intro _ _) | (refine cond_i ?_ ?_ <;> intro _) | (refine And.intro (by decide) ?_))
 subst_vars
 exact LeD.refl _
def con_track_ends_plus : Con := fun args => match args with
 | [.t (.a [.v (.int .i64 r0), .v (.int .i64 r1)]), .t (.a [.v (.int .i64 s0), .v (.int .i64 s1)])] => some (.t (.a [.v (.int .i64 ((((⟨r0, r1⟩ : Rg) : Rg).plusW (⟨s0, s1⟩ : Rg)).lo)), .v (.int .i64 ((((⟨r0, r1⟩ : Rg) : Rg).plusW (⟨s0, s1⟩ : Rg)).hi))]), none, false)
 | _ => none
theorem ok_track_ends_plus : Ok Try.prog 80 con_track_ends_plus := by
 refine Ok.fn (ann := ann_track_ends_plus) mixed tabOK VSks34 ValidIt.no (fn := Try.f80) (by kernel_rfl) (by kernel_rfl) fit_track_ends_plus fun args r pre fresh h hp => ?_
 unfold con_track_ends_plus at h
 split at h
 ·rename_i r0 r1 s0 s1
  cases h
  refine ⟨rfl, fun _ _ _ => False, _, LeA.refl _, Nat.le_of_ble_eq_true (by kernel_rfl), ?_, ?_⟩
  ·rw [ev_track_ends_plus]; exact spec_track_ends_plus r0 r1 s0 s1
  ·rw [lp_track_ends_plus]; trivial
 ·cases h
def Sks35 : Sum := addS Sks34 80 con_track_ends_plus
theorem VSks35 : Valid Try.prog Sks35 := Valid.add VSks34 ok_track_ends_plus
def con_slices_Min_int_int : Con := fun args => match args with
 | [.t (.c (.sl 1 n_l c_l))] => some (.t (.c (.v (.int .i64 (mn4 (((listC n_l mkInt c_l)).getD 0 0) (((listC n_l mkInt c_l)).getD 1 0) (((listC n_l mkInt c_l)).getD 2 0) (((listC n_l mkInt c_l)).getD 3 0))))), some (numsP 1 n_l c_l ∧ ((listC n_l mkInt c_l)).length = 4), false)
 | _ => none
theorem ok_slices_Min_int_int : Ok Try.prog 95 con_slices_Min_int_int := by
 refine Ok.oldG (Enters.of (fn := Try.f95) (by kernel_rfl) (by kernel_rfl) (by kernel_rfl)) fun args r pre fresh h hp => ?_
 unfold con_slices_Min_int_int at h
 split at h
 ·rename_i n_l c_l
  cases h
  refine ⟨rfl, _, rfl, fun W N vs hv => ?_⟩
  obtain ⟨hp0, hp⟩ := hp
  obtain ⟨v_l, ws0, k0, g0, hv0⟩ := hv.cons_inv
  subst k0
  have h_l := at_int hp0 g0
  have ev := hv0.nil_inv
  subst ev
  generalize listC n_l mkInt c_l = l at *
  exact slices_Min _ _ _ _ v_l W (by rw [← list4 hp]; exact h_l)
 ·cases h
def Sks36 : Sum := addS Sks35 95 con_slices_Min_int_int
theorem VSks36 : Valid Try.prog Sks36 := Valid.add VSks35 ok_slices_Min_int_int
def con_slices_Max_int_int : Con := fun args => match args with
 | [.t (.c (.sl 1 n_l c_l))] => some (.t (.c (.v (.int .i64 (mx4 (((listC n_l mkInt c_l)).getD 0 0) (((listC n_l mkInt c_l)).getD 1 0) (((listC n_l mkInt c_l)).getD 2 0) (((listC n_l mkInt c_l)).getD 3 0))))), some (numsP 1 n_l c_l ∧ ((listC n_l mkInt c_l)).length = 4), false)
 | _ => none
theorem ok_slices_Max_int_int : Ok Try.prog 96 con_slices_Max_int_int := by
 refine Ok.oldG (Enters.of (fn := Try.f96) (by kernel_rfl) (by kernel_rfl) (by kernel_rfl)) fun args r pre fresh h hp => ?_
 unfold con_slices_Max_int_int at h
 split at h
 ·rename_i n_l c_l
  cases h
  refine ⟨rfl, _, rfl, fun W N vs hv => ?_⟩
  obtain ⟨hp0, hp⟩ := hp
  obtain ⟨v_l, ws0, k0, g0, hv0⟩ := hv.cons_inv
  subst k0
  have h_l := at_int hp0 g0
  have ev := hv0.nil_inv
  subst ev
  generalize listC n_l mkInt c_l = l at *
  exact slices_Max _ _ _ _ v_l W (by rw [← list4 hp]; exact h_l)
 ·cases h
def Sks37 : Sum := addS Sks36 96 con_slices_Max_int_int
theorem VSks37 : Valid Try.prog Sks37 := Valid.add VSks36 ok_slices_Max_int_int
def vc_track_ends_times (r0 r1 : Int) (s0 s1 : Int) (post : DV → Prop) : Prop := lt (IntKind.i64.wrap (r0 * s0)) fun x1 => lt (IntKind.i64.wrap (r0 * s1)) fun x2 => lt (IntKind.i64.wrap (r1 * s0)) fun x3 => lt (IntKind.i64.wrap (r1 * s1)) fun x4 => (numsP 1 4 (fun i j => boxC [.v (.int .i64 x1), .v (.int .i64 x2), .v (.int .i64 x3), .v (.int .i64 x4)] (0 + i * 1 + j)) ∧ (([x1, x2, x3, x4] : List Int)).length = 4) ∧ ((numsP 1 4 (fun i j => boxC [.v (.int .i64 x1), .v (.int .i64 x2), .v (.int .i64 x3), .v (.int .i64 x4)] (0 + i * 1 + j)) ∧ (([x1, x2, x3, x4] : List Int)).length = 4) ∧ (post (.t (.a [.v (.int .i64 (mn4 ((([x1, x2, x3, x4] : List Int)).getD 0 0) ((([x1, x2, x3, x4] : List Int)).getD 1 0) ((([x1, x2, x3, x4] : List Int)).getD 2 0) ((([x1, x2, x3, x4] : List Int)).getD 3 0))), .v (.int .i64 (mx4 ((([x1, x2, x3, x4] : List Int)).getD 0 0) ((([x1, x2, x3, x4] : List Int)).getD 1 0) ((([x1, x2, x3, x4] : List Int)).getD 2 0) ((([x1, x2, x3, x4] : List Int)).getD 3 0)))]))))
def ann_track_ends_times : Ann := ⟨fun r => lookA r [(2, ([[], [0], [], [0, 1, 2], [0, 1, 2, 3], [0, 1, 2, 3, 4]], [[28, 30], [30], [28, 30], [], [], []]))], fun _ => none, fun _ => [], noIt, false, fun _ => none, fun _ => none⟩
theorem ev_track_ends_times (J : Inv) (r0 r1 : Int) (s0 s1 : Int) (post : DV → Prop) : evFn Try.prog tab Sks37 ann_track_ends_times J Try.f91 [.t (.a [.v (.int .i64 r0), .v (.int .i64 r1)]), .t (.a [.v (.int .i64 s0), .v (.int .i64 s1)])] post = vc_track_ends_times r0 r1 s0 s1 post := by kernel_rfl
theorem fit_track_ends_times : okFn ann_track_ends_times Try.f91 = true := by kernel_rfl
theorem lp_track_ends_times (J : Inv) (post : DV → Prop) : AllG J (loopsFn Try.prog tab Sks37 ann_track_ends_times J Try.f91 post) = (True) := by kernel_rfl
theorem spec_track_ends_times (r0 r1 : Int) (s0 s1 : Int) (hp : (-4000000000000000000 ≤ r0 * s0 ∧ r0 * s0 ≤ 4000000000000000000) ∧ (-4000000000000000000 ≤ r0 * s1 ∧ r0 * s1 ≤ 4000000000000000000) ∧ (-4000000000000000000 ≤ r1 * s0 ∧ r1 * s0 ≤ 4000000000000000000) ∧ (-4000000000000000000 ≤ r1 * s1 ∧ r1 * s1 ≤ 4000000000000000000)) : vc_track_ends_times r0 r1 s0 s1 (fun r => LeD r (.t (.a [.v (.int .i64 ((((⟨r0, r1⟩ : Rg) : Rg).times (⟨s0, s1⟩ : Rg)).lo)), .v (.int .i64 ((((⟨r0, r1⟩ : Rg) : Rg).times (⟨s0, s1⟩ : Rg)).hi))]))) := by
 unfold vc_track_ends_times
 obtain ⟨q1, q2, q3, q4⟩ := hp
 refine lt_i fun x1 h1 => lt_i fun x2 h2 => lt_i fun x3 h3 => lt_i fun x4 h4 => ?_
 rw [wi (by omega)] at h1 h2 h3 h4
 subst h1 h2 h3 h4
 exact ⟨⟨numsP4, rfl⟩, ⟨numsP4, rfl⟩, LeD.refl _⟩
def con_track_ends_times : Con := fun args => match args with
 | [.t (.a [.v (.int .i64 r0), .v (.int .i64 r1)]), .t (.a [.v (.int .i64 s0), .v (.int .i64 s1)])] => some (.t (.a [.v (.int .i64 ((((⟨r0, r1⟩ : Rg) : Rg).times (⟨s0, s1⟩ : Rg)).lo)), .v (.int .i64 ((((⟨r0, r1⟩ : Rg) : Rg).times (⟨s0, s1⟩ : Rg)).hi))]), some ((-4000000000000000000 ≤ r0 * s0 ∧ r0 * s0 ≤ 4000000000000000000) ∧ (-4000000000000000000 ≤ r0 * s1 ∧ r0 * s1 ≤ 4000000000000000000) ∧ (-4000000000000000000 ≤ r1 * s0 ∧ r1 * s0 ≤ 4000000000000000000) ∧ (-4000000000000000000 ≤ r1 * s1 ∧ r1 * s1 ≤ 4000000000000000000)), false)
 | _ => none
theorem ok_track_ends_times : Ok Try.prog 91 con_track_ends_times := by
 refine Ok.fn (ann := ann_track_ends_times) mixed tabOK VSks37 ValidIt.no (fn := Try.f91) (by kernel_rfl) (by kernel_rfl) fit_track_ends_times fun args r pre fresh h hp => ?_
 unfold con_track_ends_times at h
 split at h
 ·rename_i r0 r1 s0 s1
  cases h
  refine ⟨rfl, fun _ _ _ => False, _, LeA.refl _, Nat.le_of_ble_eq_true (by kernel_rfl), ?_, ?_⟩
  ·rw [ev_track_ends_times]; exact spec_track_ends_times r0 r1 s0 s1 hp
  ·rw [lp_track_ends_times]; trivial
 ·cases h
def Sks38 : Sum := addS Sks37 91 con_track_ends_times
theorem VSks38 : Valid Try.prog Sks38 := Valid.add VSks37 ok_track_ends_times
def vc_track_model_squares (m0 m1 m2 m3 m4 m5 m6 m7 m8 m9 m10 m11 : Int) (b0 b1 b2 b3 b4 b5 : Int) (post : DV → Prop) : Prop := (0 ≤ (0 : Int) ∧ (0 : Int) < ((3 : Nat) : Int)) ∧ ((0 ≤ (0 : Int) ∧ (0 : Int) < ((3 : Nat) : Int)) ∧ (lt ((sqW b0 b3).lo) fun x1 => lt ((sqW b0 b3).hi) fun x2 => lt ((((⟨(0 : Int), (0 : Int)⟩ : Rg) : Rg).plusW (⟨x1, x2⟩ : Rg)).lo) fun x3 => lt ((((⟨(0 : Int), (0 : Int)⟩ : Rg) : Rg).plusW (⟨x1, x2⟩ : Rg)).hi) fun x4 => (0 ≤ (1 : Int) ∧ (1 : Int) < ((3 : Nat) : Int)) ∧ ((0 ≤ (1 : Int) ∧ (1 : Int) < ((3 : Nat) : Int)) ∧ (lt ((sqW b1 b4).lo) fun x5 => lt ((sqW b1 b4).hi) fun x6 => lt ((((⟨x3, x4⟩ : Rg) : Rg).plusW (⟨x5, x6⟩ : Rg)).lo) fun x7 => lt ((((⟨x3, x4⟩ : Rg) : Rg).plusW (⟨x5, x6⟩ : Rg)).hi) fun x8 => (0 ≤ (2 : Int) ∧ (2 : Int) < ((3 : Nat) : Int)) ∧ ((0 ≤ (2 : Int) ∧ (2 : Int) < ((3 : Nat) : Int)) ∧ (lt ((sqW b2 b5).lo) fun x9 => lt ((sqW b2 b5).hi) fun x10 => lt ((((⟨x7, x8⟩ : Rg) : Rg).plusW (⟨x9, x10⟩ : Rg)).lo) fun x11 => lt ((((⟨x7, x8⟩ : Rg) : Rg).plusW (⟨x9, x10⟩ : Rg)).hi) fun x12 => cond (decide (x12 ≥ m5)) (post (.tu [.a [.v (.int .i64 x11), .v (.int .i64 x12)], .c (.v (.bool (decide (x11 ≤ m6))))])) ((false = false) ∧ (post (.tu [.a [.v (.int .i64 x11), .v (.int .i64 x12)], .c (.v (.bool false))])))))))))
def ann_track_model_squares : Ann := ⟨fun r => lookA r [(5, ([[], [], [], [1, 2], [1, 2, 3], [], [], [5, 6], [5, 6, 7], [1, 2, 3, 4, 5, 6, 7, 8], [1, 2, 3, 4, 5, 6, 7, 8, 9], [0, 1, 2, 3, 4, 5, 6, 7, 8, 9, 10], [0, 1, 2, 3, 4, 5, 6, 7, 8, 9, 10, 11]], [[21, 22], [21, 22], [21, 22], [21, 22], [21, 22], [21, 22], [21, 22], [21, 22], [21, 22], [21, 22], [22], [], []])), (7, ([[], [], [1], [], [3], [3, 4], [3, 4, 5], [1, 2, 3, 4, 5, 6], [1, 2, 3, 4, 5, 6, 7], [1, 2, 3, 4, 5, 6, 7, 8], [1, 2, 3, 4, 5, 6, 7, 8, 9], [1, 2, 3, 4, 5, 6, 7, 8], [1, 2, 3, 4, 5, 6, 7, 8, 11], [1, 2, 3, 4, 5, 6, 7, 8, 11, 12], [1, 2, 3, 4, 5, 6, 7, 8, 11, 12, 13], [1, 2, 3, 4, 5, 6, 7, 8, 9, 10, 11, 12, 13, 14], [1, 2, 3, 4, 5, 6, 7, 8, 9, 10, 11, 12, 13, 14, 15], [0, 1, 2, 3, 4, 5, 6, 7, 8], [0, 1, 2, 3, 4, 5, 6, 7, 8, 9, 10, 11, 12, 13, 14, 15, 16, 17]], [[], [], [], [], [], [], [], [], [], [], [4], [], [], [], [4], [], [], [9999, 4], []]))], fun b => lookA b [(0, (some 4, some ⟨[2, 3, 4, 6, 8], [2, 3, 4, 6], []⟩))], fun _ => [], noIt, false, fun _ => none, fun _ => none⟩
theorem ev_track_model_squares (J : Inv) (m0 m1 m2 m3 m4 m5 m6 m7 m8 m9 m10 m11 : Int) (b0 b1 b2 b3 b4 b5 : Int) (post : DV → Prop) : evFn Try.prog tab Sks38 ann_track_model_squares J Try.f63 [.t (.a [.v (.int .i64 m0), .v (.int .i64 m1), .v (.int .i64 m2), .v (.int .i64 m3), .v (.int .i64 m4), .v (.int .i64 m5), .v (.int .i64 m6), .v (.int .i64 m7), .v (.int .i64 m8), .v (.int .i64 m9), .v (.int .i64 m10), .v (.int .i64 m11)]), .t (.a [.v (.int .i64 b0), .v (.int .i64 b1), .v (.int .i64 b2), .v (.int .i64 b3), .v (.int .i64 b4), .v (.int .i64 b5)])] post = vc_track_model_squares m0 m1 m2 m3 m4 m5 m6 m7 m8 m9 m10 m11 b0 b1 b2 b3 b4 b5 post := by kernel_rfl
theorem fit_track_model_squares : okFn ann_track_model_squares Try.f63 = true := by kernel_rfl
theorem lp_track_model_squares (J : Inv) (post : DV → Prop) : AllG J (loopsFn Try.prog tab Sks38 ann_track_model_squares J Try.f63 post) = (True) := by kernel_rfl
theorem spec_track_model_squares (m0 m1 m2 m3 m4 m5 m6 m7 m8 m9 m10 m11 : Int) (b0 b1 b2 b3 b4 b5 : Int) : vc_track_model_squares m0 m1 m2 m3 m4 m5 m6 m7 m8 m9 m10 m11 b0 b1 b2 b3 b4 b5 (fun r => LeD r (.tu [.a [.v (.int .i64 ((sqsW (⟨⟨b0, b1, b2⟩, ⟨b3, b4, b5⟩⟩ : TBox)).lo)), .v (.int .i64 ((sqsW (⟨⟨b0, b1, b2⟩, ⟨b3, b4, b5⟩⟩ : TBox)).hi))], .c (.v (.bool (canW (⟨m0, m1, m2, m3, m4, m5, m6, m7, m8, m9, m10, m11⟩ : TMod) (⟨⟨b0, b1, b2⟩, ⟨b3, b4, b5⟩⟩ : TBox))))])) := by
 unfold vc_track_model_squares
 (repeat' with_reducible first | (refine lt_i ?_; intro _ _) | (refine cond_i ?_ ?_ <;> intro _) | (refine And.intro (by decide) ?_))
 all_goals subst_vars
 all_goals refine LeD.of ?_
 all_goals unfold sqsW canW sqsW
 all_goals simp only [*]
 all_goals first | rfl | simp_all
def con_track_model_squares : Con := fun args => match args with
 | [.t (.a [.v (.int .i64 m0), .v (.int .i64 m1), .v (.int .i64 m2), .v (.int .i64 m3), .v (.int .i64 m4), .v (.int .i64 m5), .v (.int .i64 m6), .v (.int .i64 m7), .v (.int .i64 m8), .v (.int .i64 m9), .v (.int .i64 m10), .v (.int .i64 m11)]), .t (.a [.v (.int .i64 b0), .v (.int .i64 b1), .v (.int .i64 b2), .v (.int .i64 b3), .v (.int .i64 b4), .v (.int .i64 b5)])] => some (.tu [.a [.v (.int .i64 ((sqsW (⟨⟨b0, b1, b2⟩, ⟨b3, b4, b5⟩⟩ : TBox)).lo)), .v (.int .i64 ((sqsW (⟨⟨b0, b1, b2⟩, ⟨b3, b4, b5⟩⟩ : TBox)).hi))], .c (.v (.bool (canW (⟨m0, m1, m2, m3, m4, m5, m6, m7, m8, m9, m10, m11⟩ : TMod) (⟨⟨b0, b1, b2⟩, ⟨b3, b4, b5⟩⟩ : TBox))))], none, false)
 | _ => none
theorem ok_track_model_squares : Ok Try.prog 63 con_track_model_squares := by
 refine Ok.fn (ann := ann_track_model_squares) mixed tabOK VSks38 ValidIt.no (fn := Try.f63) (by kernel_rfl) (by kernel_rfl) fit_track_model_squares fun args r pre fresh h hp => ?_
 unfold con_track_model_squares at h
 split at h
 ·rename_i m0 m1 m2 m3 m4 m5 m6 m7 m8 m9 m10 m11 b0 b1 b2 b3 b4 b5
  cases h
  refine ⟨rfl, fun _ _ _ => False, _, LeA.refl _, Nat.le_of_ble_eq_true (by kernel_rfl), ?_, ?_⟩
  ·rw [ev_track_model_squares]; exact spec_track_model_squares m0 m1 m2 m3 m4 m5 m6 m7 m8 m9 m10 m11 b0 b1 b2 b3 b4 b5
  ·rw [lp_track_model_squares]; trivial
 ·cases h
def Sks39 : Sum := addS Sks38 63 con_track_model_squares
theorem VSks39 : Valid Try.prog Sks39 := Valid.add VSks38 ok_track_model_squares
def vc_track_model_answer (m0 m1 m2 m3 m4 m5 m6 m7 m8 m9 m10 m11 : Int) (b0 b1 b2 b3 b4 b5 : Int) (p0 p1 p2 p3 : Int) (post : DV → Prop) : Prop := lt (wr (p0 - m0)) fun x1 => lt (wr (p1 - m1)) fun x2 => lt (wr (p2 - m2)) fun x3 => lt (IntKind.i64.wrap (p3 - m3)) fun x4 => (0 ≤ (0 : Int) ∧ (0 : Int) < ((3 : Nat) : Int)) ∧ ((0 ≤ (0 : Int) ∧ (0 : Int) < ((3 : Nat) : Int)) ∧ (lt (IntKind.i64.wrap ((0 : Int) - x4)) fun x5 => lt (IntKind.i64.wrap ((0 : Int) - x4)) fun x6 => lt ((((⟨b0, b3⟩ : Rg) : Rg).times (⟨x5, x6⟩ : Rg)).lo) fun x7 => lt ((((⟨b0, b3⟩ : Rg) : Rg).times (⟨x5, x6⟩ : Rg)).hi) fun x8 => ((-4000000000000000000 ≤ b0 * x5 ∧ b0 * x5 ≤ 4000000000000000000) ∧ (-4000000000000000000 ≤ b0 * x6 ∧ b0 * x6 ≤ 4000000000000000000) ∧ (-4000000000000000000 ≤ b3 * x5 ∧ b3 * x5 ≤ 4000000000000000000) ∧ (-4000000000000000000 ≤ b3 * x6 ∧ b3 * x6 ≤ 4000000000000000000)) ∧ ((0 ≤ (0 : Int) ∧ (0 : Int) < ((3 : Nat) : Int)) ∧ (lt (IntKind.i64.wrap (m4 * x1)) fun x9 => (0 ≤ (0 : Int) ∧ (0 : Int) < ((3 : Nat) : Int)) ∧ (lt (IntKind.i64.wrap (m4 * x1)) fun x10 => lt ((((⟨x7, x8⟩ : Rg) : Rg).plusW (⟨x9, x10⟩ : Rg)).lo) fun x11 => lt ((((⟨x7, x8⟩ : Rg) : Rg).plusW (⟨x9, x10⟩ : Rg)).hi) fun x12 => lt ((((⟨x11, x12⟩ : Rg) : Rg).times (⟨b0, b3⟩ : Rg)).lo) fun x13 => lt ((((⟨x11, x12⟩ : Rg) : Rg).times (⟨b0, b3⟩ : Rg)).hi) fun x14 => ((-4000000000000000000 ≤ x11 * b0 ∧ x11 * b0 ≤ 4000000000000000000) ∧ (-4000000000000000000 ≤ x11 * b3 ∧ x11 * b3 ≤ 4000000000000000000) ∧ (-4000000000000000000 ≤ x12 * b0 ∧ x12 * b0 ≤ 4000000000000000000) ∧ (-4000000000000000000 ≤ x12 * b3 ∧ x12 * b3 ≤ 4000000000000000000)) ∧ (lt ((((⟨(0 : Int), (0 : Int)⟩ : Rg) : Rg).plusW (⟨x13, x14⟩ : Rg)).lo) fun x15 => lt ((((⟨(0 : Int), (0 : Int)⟩ : Rg) : Rg).plusW (⟨x13, x14⟩ : Rg)).hi) fun x16 => lt ((sqW x11 x12).lo) fun x17 => lt ((sqW x11 x12).hi) fun x18 => lt ((((⟨(0 : Int), (0 : Int)⟩ : Rg) : Rg).plusW (⟨x17, x18⟩ : Rg)).lo) fun x19 => lt ((((⟨(0 : Int), (0 : Int)⟩ : Rg) : Rg).plusW (⟨x17, x18⟩ : Rg)).hi) fun x20 => (0 ≤ (1 : Int) ∧ (1 : Int) < ((3 : Nat) : Int)) ∧ ((0 ≤ (1 : Int) ∧ (1 : Int) < ((3 : Nat) : Int)) ∧ (lt (IntKind.i64.wrap ((0 : Int) - x4)) fun x21 => lt (IntKind.i64.wrap ((0 : Int) - x4)) fun x22 => lt ((((⟨b1, b4⟩ : Rg) : Rg).times (⟨x21, x22⟩ : Rg)).lo) fun x23 => lt ((((⟨b1, b4⟩ : Rg) : Rg).times (⟨x21, x22⟩ : Rg)).hi) fun x24 => ((-4000000000000000000 ≤ b1 * x21 ∧ b1 * x21 ≤ 4000000000000000000) ∧ (-4000000000000000000 ≤ b1 * x22 ∧ b1 * x22 ≤ 4000000000000000000) ∧ (-4000000000000000000 ≤ b4 * x21 ∧ b4 * x21 ≤ 4000000000000000000) ∧ (-4000000000000000000 ≤ b4 * x22 ∧ b4 * x22 ≤ 4000000000000000000)) ∧ ((0 ≤ (1 : Int) ∧ (1 : Int) < ((3 : Nat) : Int)) ∧ (lt (IntKind.i64.wrap (m4 * x2)) fun x25 => (0 ≤ (1 : Int) ∧ (1 : Int) < ((3 : Nat) : Int)) ∧ (lt (IntKind.i64.wrap (m4 * x2)) fun x26 => lt ((((⟨x23, x24⟩ : Rg) : Rg).plusW (⟨x25, x26⟩ : Rg)).lo) fun x27 => lt ((((⟨x23, x24⟩ : Rg) : Rg).plusW (⟨x25, x26⟩ : Rg)).hi) fun x28 => lt ((((⟨x27, x28⟩ : Rg) : Rg).times (⟨b1, b4⟩ : Rg)).lo) fun x29 => lt ((((⟨x27, x28⟩ : Rg) : Rg).times (⟨b1, b4⟩ : Rg)).hi) fun x30 => ((-4000000000000000000 ≤ x27 * b1 ∧ x27 * b1 ≤ 4000000000000000000) ∧ (-4000000000000000000 ≤ x27 * b4 ∧ x27 * b4 ≤ 4000000000000000000) ∧ (-4000000000000000000 ≤ x28 * b1 ∧ x28 * b1 ≤ 4000000000000000000) ∧ (-4000000000000000000 ≤ x28 * b4 ∧ x28 * b4 ≤ 4000000000000000000)) ∧ (lt ((((⟨x15, x16⟩ : Rg) : Rg).plusW (⟨x29, x30⟩ : Rg)).lo) fun x31 => lt ((((⟨x15, x16⟩ : Rg) : Rg).plusW (⟨x29, x30⟩ : Rg)).hi) fun x32 => lt ((sqW x27 x28).lo) fun x33 => lt ((sqW x27 x28).hi) fun x34 => lt ((((⟨x19, x20⟩ : Rg) : Rg).plusW (⟨x33, x34⟩ : Rg)).lo) fun x35 => lt ((((⟨x19, x20⟩ : Rg) : Rg).plusW (⟨x33, x34⟩ : Rg)).hi) fun x36 => (0 ≤ (2 : Int) ∧ (2 : Int) < ((3 : Nat) : Int)) ∧ ((0 ≤ (2 : Int) ∧ (2 : Int) < ((3 : Nat) : Int)) ∧ (lt (IntKind.i64.wrap ((0 : Int) - x4)) fun x37 => lt (IntKind.i64.wrap ((0 : Int) - x4)) fun x38 => lt ((((⟨b2, b5⟩ : Rg) : Rg).times (⟨x37, x38⟩ : Rg)).lo) fun x39 => lt ((((⟨b2, b5⟩ : Rg) : Rg).times (⟨x37, x38⟩ : Rg)).hi) fun x40 => ((-4000000000000000000 ≤ b2 * x37 ∧ b2 * x37 ≤ 4000000000000000000) ∧ (-4000000000000000000 ≤ b2 * x38 ∧ b2 * x38 ≤ 4000000000000000000) ∧ (-4000000000000000000 ≤ b5 * x37 ∧ b5 * x37 ≤ 4000000000000000000) ∧ (-4000000000000000000 ≤ b5 * x38 ∧ b5 * x38 ≤ 4000000000000000000)) ∧ ((0 ≤ (2 : Int) ∧ (2 : Int) < ((3 : Nat) : Int)) ∧ (lt (IntKind.i64.wrap (m4 * x3)) fun x41 => (0 ≤ (2 : Int) ∧ (2 : Int) < ((3 : Nat) : Int)) ∧ (lt (IntKind.i64.wrap (m4 * x3)) fun x42 => lt ((((⟨x39, x40⟩ : Rg) : Rg).plusW (⟨x41, x42⟩ : Rg)).lo) fun x43 => lt ((((⟨x39, x40⟩ : Rg) : Rg).plusW (⟨x41, x42⟩ : Rg)).hi) fun x44 => lt ((((⟨x43, x44⟩ : Rg) : Rg).times (⟨b2, b5⟩ : Rg)).lo) fun x45 => lt ((((⟨x43, x44⟩ : Rg) : Rg).times (⟨b2, b5⟩ : Rg)).hi) fun x46 => ((-4000000000000000000 ≤ x43 * b2 ∧ x43 * b2 ≤ 4000000000000000000) ∧ (-4000000000000000000 ≤ x43 * b5 ∧ x43 * b5 ≤ 4000000000000000000) ∧ (-4000000000000000000 ≤ x44 * b2 ∧ x44 * b2 ≤ 4000000000000000000) ∧ (-4000000000000000000 ≤ x44 * b5 ∧ x44 * b5 ≤ 4000000000000000000)) ∧ (lt ((((⟨x31, x32⟩ : Rg) : Rg).plusW (⟨x45, x46⟩ : Rg)).lo) fun x47 => lt ((((⟨x31, x32⟩ : Rg) : Rg).plusW (⟨x45, x46⟩ : Rg)).hi) fun x48 => lt ((sqW x43 x44).lo) fun x49 => lt ((sqW x43 x44).hi) fun x50 => lt ((((⟨x35, x36⟩ : Rg) : Rg).plusW (⟨x49, x50⟩ : Rg)).lo) fun x51 => lt ((((⟨x35, x36⟩ : Rg) : Rg).plusW (⟨x49, x50⟩ : Rg)).hi) fun x52 => lt ((sqsW (⟨⟨b0, b1, b2⟩, ⟨b3, b4, b5⟩⟩ : TBox)).lo) fun x53 => lt ((sqsW (⟨⟨b0, b1, b2⟩, ⟨b3, b4, b5⟩⟩ : TBox)).hi) fun x54 => lt (canW (⟨m0, m1, m2, m3, m4, m5, m6, m7, m8, m9, m10, m11⟩ : TMod) (⟨⟨b0, b1, b2⟩, ⟨b3, b4, b5⟩⟩ : TBox)) fun x55 => lt ((if m5 > x53 then m5 else x53)) fun x56 => lt (wr (wr (m7 * m4) * m4)) fun x57 => lt (IntKind.i64.wrap (x56 - x57)) fun x58 => lt ((if m6 < x54 then m6 else x54)) fun x59 => lt (wr (wr (m7 * m4) * m4)) fun x60 => lt (IntKind.i64.wrap (x59 - x60)) fun x61 => cond (x52 == (0 : Int)) (cond (x52 == (0 : Int)) (post (.t (.c (.v (.int .i64 2))))) (cond (decide (x51 > (0 : Int))) (cond (decide (x47 > (0 : Int))) ((true = true) ∧ (post (.t (.c (.v (.int .i64 0)))))) (lt (IntKind.i64.wrap (x47 * x47)) fun x62 => lt (IntKind.i64.wrap (x58 * x51)) fun x63 => cond (decide (x62 < x63)) (post (.t (.c (.v (.int .i64 0))))) (post (.t (.c (.v (.int .i64 1))))))) ((false = false) ∧ (post (.t (.c (.v (.int .i64 1)))))))) (cond (decide (x48 ≤ (0 : Int))) (lt (IntKind.i64.wrap (x48 * x48)) fun x64 => lt (IntKind.i64.wrap (x61 * x52)) fun x65 => cond (decide (x64 ≥ x65)) (post (.t (.c (.v (.int .i64 2))))) (cond (decide (x51 > (0 : Int))) (cond (decide (x47 > (0 : Int))) ((true = true) ∧ (post (.t (.c (.v (.int .i64 0)))))) (lt (IntKind.i64.wrap (x47 * x47)) fun x66 => lt (IntKind.i64.wrap (x58 * x51)) fun x67 => cond (decide (x66 < x67)) (post (.t (.c (.v (.int .i64 0))))) (post (.t (.c (.v (.int .i64 1))))))) ((false = false) ∧ (post (.t (.c (.v (.int .i64 1)))))))) ((false = false) ∧ (cond (decide (x51 > (0 : Int))) (cond (decide (x47 > (0 : Int))) ((true = true) ∧ (post (.t (.c (.v (.int .i64 0)))))) (lt (IntKind.i64.wrap (x47 * x47)) fun x68 => lt (IntKind.i64.wrap (x58 * x51)) fun x69 => cond (decide (x68 < x69)) (post (.t (.c (.v (.int .i64 0))))) (post (.t (.c (.v (.int .i64 1))))))) ((false = false) ∧ (post (.t (.c (.v (.int .i64 1)))))))))))))))))))))))))))
def ann_track_model_answer : Ann := ⟨fun r => lookA r [(1, ([[], [0], [], [2], [2, 3], [0, 1, 2, 3, 4], [], [6], [], [8], [8, 9], [6, 7, 8, 9, 10], [], [0, 1, 2, 3, 4, 5, 12], [0, 1, 2, 3, 4, 5, 6, 7, 8, 9, 10, 11, 12, 13]], [[23, 7], [23, 7], [23, 7], [23, 7], [23, 7], [7], [23, 7], [7, 23], [23, 7], [23, 7], [7, 23], [23, 7], [23], [9999, 7], []])), (6, ([[], [], [0, 1], [0, 1, 2], [], [], [4, 5], [4, 5, 6], [0, 1, 2, 3, 4, 5, 6, 7], [], [0, 1, 2, 3, 4, 5, 6, 7, 8, 9]], [[12], [12], [12], [12], [12], [12], [12], [12], [12], [], []])), (8, ([[], [], [1], [1, 2], [], [4], [4, 5], [1, 2, 3, 4, 5, 6], [], [8], [8, 9], [], [11], [11, 12], [8, 9, 10, 11, 12, 13], [1, 2, 3, 4, 5, 6, 7, 8, 9, 10, 11, 12, 13, 14], [0, 1, 2, 3, 4, 5, 6, 7, 8, 9, 10, 11, 12, 13, 14, 15], [], [0, 1, 2, 3, 4, 5, 6, 7, 8, 9, 10, 11, 12, 13, 14, 15, 16, 17]], [[65, 14], [65, 14], [65, 14], [65, 14], [65, 14], [65, 14], [65, 14], [65, 14], [65, 14], [65, 14], [65, 14], [65, 14], [65, 14], [65, 14], [65, 14], [65, 14], [14], [65], []])), (9, ([[], [], [], [1, 2], [0, 1, 2, 3], [], [], [0, 1, 2, 3, 4, 6], [0, 1, 2, 3, 4, 5, 6, 7], [0, 1, 2, 3, 4, 5, 6, 7, 8], [0, 1, 2, 3, 4, 5, 6, 7, 8, 9]], [[69, 70, 73, 74], [69, 70, 73, 74], [69, 70, 73, 74], [70, 73, 74], [73, 74], [69, 70, 73, 74], [69, 70, 73, 74], [74], [], [], []])), (12, ([[], [0], [], [2], [2, 3], [2, 3, 4], [0, 1, 2, 3, 4, 5], [], [7], [0, 1, 2, 3, 4, 5, 6, 7, 8], [], [10], [], [12], [12, 13], [12, 13, 14], [10, 11, 12, 13, 14, 15], [], [7, 8, 17], [7, 8, 10, 11, 12, 13, 14, 15, 16, 17, 18], [0, 1, 2, 3, 4, 5, 6, 7, 8, 9, 10, 11, 12, 13, 14, 15, 16, 17, 18, 19], [], [0, 1, 2, 3, 4, 5, 6, 7, 8, 9, 10, 11, 12, 13, 14, 15, 16, 17, 18, 19, 20, 21]], [[90, 100, 17], [90, 100, 17], [90, 100, 17], [90, 100, 17], [90, 100, 17], [90, 100, 17], [90, 100, 17], [90, 100, 17], [100, 17], [100, 17], [90, 100, 17], [90, 100, 17], [90, 100, 17], [90, 100, 17], [90, 100, 17], [90, 100, 17], [90, 100, 17], [90, 100, 17], [17], [17], [17], [90, 100], []]))], fun b => lookA b [(0, (some 4, some ⟨[3, 4, 7, 8, 9, 10, 30], [3, 4, 7, 9, 10], []⟩))], fun _ => [], noIt, false, fun _ => none, fun _ => none⟩
theorem ev_track_model_answer (J : Inv) (m0 m1 m2 m3 m4 m5 m6 m7 m8 m9 m10 m11 : Int) (b0 b1 b2 b3 b4 b5 : Int) (p0 p1 p2 p3 : Int) (post : DV → Prop) : evFn Try.prog tab Sks39 ann_track_model_answer J Try.f83 [.t (.a [.v (.int .i64 m0), .v (.int .i64 m1), .v (.int .i64 m2), .v (.int .i64 m3), .v (.int .i64 m4), .v (.int .i64 m5), .v (.int .i64 m6), .v (.int .i64 m7), .v (.int .i64 m8), .v (.int .i64 m9), .v (.int .i64 m10), .v (.int .i64 m11)]), .t (.a [.v (.int .i64 b0), .v (.int .i64 b1), .v (.int .i64 b2), .v (.int .i64 b3), .v (.int .i64 b4), .v (.int .i64 b5)]), .t (.a [.v (.int .i64 p0), .v (.int .i64 p1), .v (.int .i64 p2), .v (.int .i64 p3)])] post = vc_track_model_answer m0 m1 m2 m3 m4 m5 m6 m7 m8 m9 m10 m11 b0 b1 b2 b3 b4 b5 p0 p1 p2 p3 post := by kernel_rfl
theorem fit_track_model_answer : okFn ann_track_model_answer Try.f83 = true := by kernel_rfl
theorem lp_track_model_answer (J : Inv) (post : DV → Prop) : AllG J (loopsFn Try.prog tab Sks39 ann_track_model_answer J Try.f83 post) = (True) := by kernel_rfl
set_option maxHeartbeats 8000000 in
set_option maxRecDepth 100000 in
theorem spec_track_model_answer (m0 m1 m2 m3 m4 m5 m6 m7 m8 m9 m10 m11 : Int) (b0 b1 b2 b3 b4 b5 : Int) (p0 p1 p2 p3 : Int) (hp : ((⟨m0, m1, m2, m3, m4, m5, m6, m7, m8, m9, m10, m11⟩ : TMod)).Ok ∧ ((⟨⟨b0, b1, b2⟩, ⟨b3, b4, b5⟩⟩ : TBox)).lo.inS 20 = true ∧ ((⟨⟨b0, b1, b2⟩, ⟨b3, b4, b5⟩⟩ : TBox)).hi.inS 20 = true ∧ ((⟨m0, m1, m2, m3, m4, m5, m6, m7, m8, m9, m10, m11⟩ : TMod)).canBe (⟨⟨b0, b1, b2⟩, ⟨b3, b4, b5⟩⟩ : TBox) ∧ (⟨p0, p1, p2⟩ : V3).inS 1000 = true ∧ -1000101 ≤ p3 ∧ p3 ≤ 1000100) : vc_track_model_answer m0 m1 m2 m3 m4 m5 m6 m7 m8 m9 m10 m11 b0 b1 b2 b3 b4 b5 p0 p1 p2 p3 (fun r => LeD r (.t (.c (.v (.int .i64 (((⟨m0, m1, m2, m3, m4, m5, m6, m7, m8, m9, m10, m11⟩ : TMod)).ans (⟨⟨b0, b1, b2⟩, ⟨b3, b4, b5⟩⟩ : TBox) ⟨p0, p1, p2⟩ p3)))))) := by
 obtain ⟨ho, hl, hh, hc, hp, ht1, ht2⟩ := hp
 obtain ⟨a1, a2, a3⟩ := inS_iff.1 hl
 obtain ⟨c1, c2, c3⟩ := inS_iff.1 hh
 obtain ⟨d1, d2, d3⟩ := inS_iff.1 hp
 simp only at a1 a2 a3 c1 c2 c3 d1 d2 d3
 have hA : -1010101 ≤ p3 - m3 ∧ p3 - m3 ≤ 1010101 := by have := ho.tm; simp only at this; omega
 obtain ⟨_, _, _, _, _, _, _, bP, bL, bl0, bl1⟩ := stg3 ho hl hh hp ⟨ht1, ht2⟩
 have P0 : (⟨0, 0⟩ : Rg).bd 0 := by unfold Rg.bd; simp
 have L0 := P0
 obtain ⟨f1, f2, f3, f4⟩ := fast_bd ho hl hh hc
 unfold vc_track_model_answer
 refine lt_i fun x1 h1 => lt_i fun x2 h2 => lt_i fun x3 h3 => lt_i fun x4 h4 => ?_
 have g1 := ho.px; have g2 := ho.py; have g3 := ho.pz
 simp only at g1 g2 g3
 replace h1 : IntKind.i64.wrap (p0 - m0) = x1 := h1
 replace h2 : IntKind.i64.wrap (p1 - m1) = x2 := h2
 replace h3 : IntKind.i64.wrap (p2 - m2) = x3 := h3
 rw [IntWalk.i64_in _ (by omega)] at h1 h2 h3 h4
 rw [← h1, ← h2, ← h3, ← h4]
 clear h1 h2 h3 h4 g1 g2 g3
 refine coordT ho.tk (by have := ho.px; simp only at this; omega) hA ⟨a1, c1⟩ (bw (by decide) P0) (bw (by decide) L0) (by decide) fun y1 y2 y3 y4 q1 q2 q3 q4 U1 V1 => ?_
 have P1 : Rg.bd ⟨y1, y2⟩ 404840400 := by subst q1 q2; exact Rg.plus_bd P0 U1 (by decide)
 have L1 : Rg.bd ⟨y3, y4⟩ 409739373680400 := by subst q3 q4; exact Rg.plus_bd L0 V1 (by decide)
 refine coordT ho.tk (by have := ho.py; simp only at this; omega) hA ⟨a2, c2⟩ (bw (by decide) P1) (bw (by decide) L1) (by decide) fun z1 z2 z3 z4 w1 w2 w3 w4 U2 V2 => ?_
 have P2 : Rg.bd ⟨z1, z2⟩ 809680800 := by subst w1 w2; exact Rg.plus_bd P1 U2 (by decide)
 have L2 : Rg.bd ⟨z3, z4⟩ 819478747360800 := by subst w3 w4; exact Rg.plus_bd L1 V2 (by decide)
 refine coordT ho.tk (by have := ho.pz; simp only at this; omega) hA ⟨a3, c3⟩ (bw (by decide) P2) (bw (by decide) L2) (by decide) fun x45 x46 x47 x48 e1 e2 e3 e4 _ _ => ?_
 subst w1 w2 w3 w4
 subst q1 q2 q3 q4
 replace e1 : x45 = ((⟨m0, m1, m2, m3, m4, m5, m6, m7, m8, m9, m10, m11⟩ : TMod).prodR (⟨⟨b0, b1, b2⟩, ⟨b3, b4, b5⟩⟩ : TBox) (⟨p0, p1, p2⟩ : V3) p3).lo := e1
 replace e2 : x46 = ((⟨m0, m1, m2, m3, m4, m5, m6, m7, m8, m9, m10, m11⟩ : TMod).prodR (⟨⟨b0, b1, b2⟩, ⟨b3, b4, b5⟩⟩ : TBox) (⟨p0, p1, p2⟩ : V3) p3).hi := e2
 replace e3 : x47 = ((⟨m0, m1, m2, m3, m4, m5, m6, m7, m8, m9, m10, m11⟩ : TMod).leftR (⟨⟨b0, b1, b2⟩, ⟨b3, b4, b5⟩⟩ : TBox) (⟨p0, p1, p2⟩ : V3) p3).lo := e3
 replace e4 : x48 = ((⟨m0, m1, m2, m3, m4, m5, m6, m7, m8, m9, m10, m11⟩ : TMod).leftR (⟨⟨b0, b1, b2⟩, ⟨b3, b4, b5⟩⟩ : TBox) (⟨p0, p1, p2⟩ : V3) p3).hi := e4
 refine lt_i fun x53 h53 => lt_i fun x54' h54 => lt_i fun _ _ => lt_i fun x56 h56 => lt_i fun x57 h57 => lt_i fun x52 h58 => lt_i fun x59 h59 => lt_i fun x60 h60 => lt_i fun x54 h61 => ?_
 have k1 := ho.tk; have k2 := ho.li
 have hsl := ho.slo; have hsp := ho.slp
 simp only at k1 k2
 have k3 := mul_rg (x := m7) (y := m4) (A := 100) (B := 20) (C := 2000) (by omega) (by omega) (by decide)
 have k4 := mul_rg (x := m7 * m4) (y := m4) (A := 2000) (B := 20) (C := 40000) k3 (by omega) (by decide)
 have es : wr (wr (m7 * m4) * m4) = (⟨m0, m1, m2, m3, m4, m5, m6, m7, m8, m9, m10, m11⟩ : TMod).slow := by
  have s1 : wr (m7 * m4) = m7 * m4 := IntWalk.i64_in _ (by omega)
  rw [s1]
  exact IntWalk.i64_in _ (by omega)
 rw [es] at h57 h60
 rw [sqsW_eq hl hh] at h53 h54
 rw [← h53, mx_if] at h56
 rw [← h54, mn_if] at h59
 have e52 : x52 = ((⟨m0, m1, m2, m3, m4, m5, m6, m7, m8, m9, m10, m11⟩ : TMod).fast (⟨⟨b0, b1, b2⟩, ⟨b3, b4, b5⟩⟩ : TBox)).lo := by rw [← f3, ← h58, ← h56, ← h57]
 have e54 : x54 = ((⟨m0, m1, m2, m3, m4, m5, m6, m7, m8, m9, m10, m11⟩ : TMod).fast (⟨⟨b0, b1, b2⟩, ⟨b3, b4, b5⟩⟩ : TBox)).hi := by rw [← f4, ← h61, ← h59, ← h60]
 have eA : (⟨m0, m1, m2, m3, m4, m5, m6, m7, m8, m9, m10, m11⟩ : TMod).ans (⟨⟨b0, b1, b2⟩, ⟨b3, b4, b5⟩⟩ : TBox) (⟨p0, p1, p2⟩ : V3) p3 = ansR ⟨x45, x46⟩ ⟨x47, x48⟩ ⟨x52, x54⟩ := by
  unfold TMod.ans; rw [e1, e2, e3, e4, e52, e54]
 rw [← e52] at f1
 rw [← e54] at f2
 obtain ⟨⟨y1, y2⟩, ⟨y3, y4⟩⟩ := bP
 obtain ⟨⟨z1, z2⟩, ⟨z3, z4⟩⟩ := bL
 rw [← e1] at y1 y2
 rw [← e2] at y3 y4
 rw [← e3] at z1 z2
 rw [← e4] at z3 z4
 rw [eA]
 clear eA e1 e2 e3 e4 e52 e54 es h53 h54 h56 h57 h58 h59 h60 h61
 have g1 := mul_rg (x := x46) (y := x46) (A := 1214521200) (B := 1214521200) (C := 2000000000000000000) (by omega) (by omega) (by decide)
 have g2 := mul_rg (x := x54) (y := x48) (A := 1200) (B := 1229218121041200) (C := 2000000000000000000) (by omega) (by omega) (by decide)
 have g3 := mul_rg (x := x45) (y := x45) (A := 1214521200) (B := 1214521200) (C := 2000000000000000000) (by omega) (by omega) (by decide)
 have g4 := mul_rg (x := x52) (y := x47) (A := 1200) (B := 1229218121041200) (C := 2000000000000000000) (by omega) (by omega) (by decide)
 have w1 : IntKind.i64.wrap (x46 * x46) = x46 * x46 := IntWalk.i64_in _ (by omega)
 have w2 : IntKind.i64.wrap (x54 * x48) = x54 * x48 := IntWalk.i64_in _ (by omega)
 have w3 : IntKind.i64.wrap (x45 * x45) = x45 * x45 := IntWalk.i64_in _ (by omega)
 have w4 : IntKind.i64.wrap (x52 * x47) = x52 * x47 := IntWalk.i64_in _ (by omega)
 rw [w1, w2, w3, w4]
 unfold ansR
 simp only
 generalize x46 * x46 = X1 at *
 generalize x54 * x48 = X2 at *
 generalize x45 * x45 = X3 at *
 generalize x52 * x47 = X4 at *
 (repeat' with_reducible first | (refine lt_i ?_; intro _ _) | (refine cond_i ?_ ?_ <;> intro _) | (refine And.intro ?_ ?_))
 all_goals first
  | decide
  | (refine leI ?_; simp only [beq_iff_eq, beq_eq_false_iff_ne, ne_eq, decide_eq_true_eq, decide_eq_false_iff_not] at *; (repeat' split) <;> omega)
def con_track_model_answer : Con := fun args => match args with
 | [.t (.a [.v (.int .i64 m0), .v (.int .i64 m1), .v (.int .i64 m2), .v (.int .i64 m3), .v (.int .i64 m4), .v (.int .i64 m5), .v (.int .i64 m6), .v (.int .i64 m7), .v (.int .i64 m8), .v (.int .i64 m9), .v (.int .i64 m10), .v (.int .i64 m11)]), .t (.a [.v (.int .i64 b0), .v (.int .i64 b1), .v (.int .i64 b2), .v (.int .i64 b3), .v (.int .i64 b4), .v (.int .i64 b5)]), .t (.a [.v (.int .i64 p0), .v (.int .i64 p1), .v (.int .i64 p2), .v (.int .i64 p3)])] => some (.t (.c (.v (.int .i64 (((⟨m0, m1, m2, m3, m4, m5, m6, m7, m8, m9, m10, m11⟩ : TMod)).ans (⟨⟨b0, b1, b2⟩, ⟨b3, b4, b5⟩⟩ : TBox) ⟨p0, p1, p2⟩ p3)))), some (((⟨m0, m1, m2, m3, m4, m5, m6, m7, m8, m9, m10, m11⟩ : TMod)).Ok ∧ ((⟨⟨b0, b1, b2⟩, ⟨b3, b4, b5⟩⟩ : TBox)).lo.inS 20 = true ∧ ((⟨⟨b0, b1, b2⟩, ⟨b3, b4, b5⟩⟩ : TBox)).hi.inS 20 = true ∧ ((⟨m0, m1, m2, m3, m4, m5, m6, m7, m8, m9, m10, m11⟩ : TMod)).canBe (⟨⟨b0, b1, b2⟩, ⟨b3, b4, b5⟩⟩ : TBox) ∧ (⟨p0, p1, p2⟩ : V3).inS 1000 = true ∧ -1000101 ≤ p3 ∧ p3 ≤ 1000100), false)
 | _ => none
theorem ok_track_model_answer : Ok Try.prog 83 con_track_model_answer := by
 refine Ok.fn (ann := ann_track_model_answer) mixed tabOK VSks39 ValidIt.no (fn := Try.f83) (by kernel_rfl) (by kernel_rfl) fit_track_model_answer fun args r pre fresh h hp => ?_
 unfold con_track_model_answer at h
 split at h
 ·rename_i m0 m1 m2 m3 m4 m5 m6 m7 m8 m9 m10 m11 b0 b1 b2 b3 b4 b5 p0 p1 p2 p3
  cases h
  refine ⟨rfl, fun _ _ _ => False, _, LeA.refl _, Nat.le_of_ble_eq_true (by kernel_rfl), ?_, ?_⟩
  ·rw [ev_track_model_answer]; exact spec_track_model_answer m0 m1 m2 m3 m4 m5 m6 m7 m8 m9 m10 m11 b0 b1 b2 b3 b4 b5 p0 p1 p2 p3 hp
  ·rw [lp_track_model_answer]; trivial
 ·cases h
def Sks40 : Sum := addS Sks39 83 con_track_model_answer
theorem VSks40 : Valid Try.prog Sks40 := Valid.add VSks39 ok_track_model_answer
end Go.Proofs.Ytfadkjcfjkmalaa
set_option linter.unusedVariables false
set_option linter.unusedSimpArgs false
namespace Go.Proofs.Ytfadkjcfjkmalaa
open Go.RowKit Ev
theorem ans_val (m : TMod) (b : TBox) (p : V3) (t : Int) : m.ans b p t = 0 ∨ m.ans b p t = 1 ∨ m.ans b p t = 2 := by
 unfold TMod.ans ansR
 split
 ·omega
 ·split <;> omega
theorem ownR_bd {e l a b : Int} (ha : 0 ≤ a ∧ a ≤ 10000) (hb : 0 ≤ b ∧ b ≤ 10000) : (0 ≤ (ownR e l a b).lo ∧ (ownR e l a b).lo ≤ 10000) ∧ (0 ≤ (ownR e l a b).hi ∧ (ownR e l a b).hi ≤ 10000) := by
 unfold ownR
 simp only
 constructor
 ·(repeat' split) <;> omega
 ·(repeat' split) <;> omega
theorem scores_take (m : TMod) (b : TBox) {l : List THit} {k : Nat} (h : k < l.length) : m.scores b (l.take (k + 1)) = (m.scores b (l.take k)).plus (m.hitR b (hitAt l k)) := by
 rw [hitAt_take h]; unfold TMod.scores; rw [List.foldl_append]; rfl
theorem hit_prod {m : TMod} {h : THit} (ho : m.Ok) (hh : h.Ok) : (0 ≤ h.w * m.mi ∧ h.w * m.mi ≤ 10000) ∧ (0 ≤ h.w * m.no ∧ h.w * m.no ≤ 10000) := by
 have h1 := mul_rg (x := h.w) (y := m.mi) (A := 100) (B := 100) (C := 10000) (by have := hh.w; omega) (by have := ho.mi; omega) (by decide)
 have h2 := mul_rg (x := h.w) (y := m.no) (A := 100) (B := 100) (C := 10000) (by have := hh.w; omega) (by have := ho.no; omega) (by decide)
 have h3 := Int.mul_nonneg hh.w.1 ho.mi.1
 have h4 := Int.mul_nonneg hh.w.1 ho.no.1
 omega
theorem scores_bd {m : TMod} {b : TBox} {l : List THit} (ho : m.Ok) (hok : ∀ i, i < l.length → (hitAt l i).Ok) : ∀ k, k ≤ l.length → (0 ≤ (m.scores b (l.take k)).lo ∧ (m.scores b (l.take k)).lo ≤ 10000 * k) ∧ (0 ≤ (m.scores b (l.take k)).hi ∧ (m.scores b (l.take k)).hi ≤ 10000 * k) := by
 intro k
 induction k with
 | zero => intro _; simp [TMod.scores]
 | succ k ih =>
  intro hk
  have h1 := ih (by omega)
  obtain ⟨g1, g2⟩ := hit_prod ho (hok k (by omega))
  have h2 := ownR_bd (e := m.ans b (hitAt l k).p ((hitAt l k).t + m.ea)) (l := m.ans b (hitAt l k).p ((hitAt l k).t - m.la - 1)) g1 g2
  rw [scores_take m b (by omega)]
  unfold TMod.hitR Rg.plus
  simp only
  push_cast
  omega
def exM : TMod := ⟨0, 0, 0, 0, 1, 25, 50, 9, 0, 0, 1, 2⟩
def exS : V3 := ⟨5, 0, 0⟩
def exB : TBox := ⟨⟨5, 0, 0⟩, ⟨5, 0, 0⟩⟩
def exH : List THit := [⟨⟨0, 12, 0⟩, 4, 1⟩, ⟨⟨5, 0, 0⟩, 0, 3⟩]
theorem ex_both : exM.both exS = 0 := by decide
theorem ex_ok : exM.Ok ∧ exS.inS 20 = true ∧ exM.permit exS ∧ exM.slow < exS.dot exS := both_ok ex_both
theorem ex_first : exM.first exS ⟨0, 12, 0⟩ = 4 := by
 have h := reached_iff exM exS ⟨0, 12, 0⟩ ex_ok.1.slp ex_ok.2.2.2 (n := 4) (by decide) (by decide)
 exact first_of exM exS ⟨0, 12, 0⟩ h (by decide) (by decide)
theorem ex_score : exM.score exS exH = 6 := by decide
theorem exH_scores : (exM.scores exB exH).lo = 6 ∧ (exM.scores exB exH).hi = 6 := ⟨by decide, by decide⟩
def TMod.siE (m : TMod) (b : TBox) (l : List THit) : Int := firstNZ [firstNZ [firstNZ [m.err, b.err], hitsE l], unl (canW m b) 12]
def TMod.siL (m : TMod) (b : TBox) (l : List THit) : Int := if m.siE b l = 0 then (m.scores b l).lo else 0
def TMod.siH (m : TMod) (b : TBox) (l : List THit) : Int := if m.siE b l = 0 then (m.scores b l).hi else 0
theorem si_ok {m : TMod} {b : TBox} {l : List THit} (h : m.siE b l = 0) : m.Ok ∧ b.lo.inS 20 = true ∧ b.hi.inS 20 = true ∧ m.canBe b ∧ l.length ≤ 12 ∧ (∀ i, i < l.length → (hitAt l i).Ok) ∧ b.err = 0 ∧ hitsE l = 0 := by
 unfold TMod.siE at h
 obtain ⟨q1, q3⟩ := fn2 h
 obtain ⟨q0, q2⟩ := fn2 q1
 obtain ⟨q4, q5⟩ := fn2 q0
 have hb := box_in q5
 have hc := canW_eq (m := m) hb.1 hb.2
 rw [unl_0 (by decide)] at q3
 obtain ⟨q6, q7⟩ := hitsE_ok q2
 exact ⟨err_ok q4, hb.1, hb.2, canB_iff.1 (by rw [← hc]; exact q3), q6, q7, q5, q2⟩
theorem ex_all : exM.fE ⟨5, 0, 0⟩ ⟨0, 12, 0⟩ = 0 ∧ exM.fV ⟨5, 0, 0⟩ ⟨0, 12, 0⟩ = 4 ∧ exM.nE ⟨5, 0, 0⟩ ⟨7, 12, 0⟩ = 0 ∧ exM.nN ⟨5, 0, 0⟩ ⟨7, 12, 0⟩ = 144 ∧ exM.nD ⟨5, 0, 0⟩ ⟨7, 12, 0⟩ = 1 ∧ exM.sE ⟨5, 0, 0⟩ exH = 0 ∧ exM.sV ⟨5, 0, 0⟩ exH = 6 ∧ exM.siE exB exH = 0 ∧ exM.siL exB exH = 6 ∧ exM.siH exB exH = 6 := by
 have a1 : exM.fE ⟨5, 0, 0⟩ ⟨0, 12, 0⟩ = 0 := by
  unfold TMod.fE
  rw [show exM.first ⟨5, 0, 0⟩ ⟨0, 12, 0⟩ = 4 from ex_first]; decide
 have a2 : exM.fV ⟨5, 0, 0⟩ ⟨0, 12, 0⟩ = 4 := (if_pos a1).trans ex_first
 have e1 : exM.num ⟨5, 0, 0⟩ ⟨7, 12, 0⟩ = 3600 := by decide
 have e2 : (⟨5, 0, 0⟩ : V3).dot ⟨5, 0, 0⟩ = 25 := by decide
 have a3 : exM.nE ⟨5, 0, 0⟩ ⟨7, 12, 0⟩ = 0 := by
  unfold TMod.nE
  rw [e1, e2]; decide
 have a4 : exM.nN ⟨5, 0, 0⟩ ⟨7, 12, 0⟩ = 144 := by unfold TMod.nN; rw [if_pos a3, e1, e2]; decide
 have a5 : exM.nD ⟨5, 0, 0⟩ ⟨7, 12, 0⟩ = 1 := by unfold TMod.nD; rw [if_pos a3, e1, e2]; decide
 have a6 : exM.sE ⟨5, 0, 0⟩ exH = 0 := by decide
 have a7 : exM.sV ⟨5, 0, 0⟩ exH = 6 := (if_pos a6).trans ex_score
 have a8 : exM.siE exB exH = 0 := by
  unfold TMod.siE
  rw [canW_eq (by decide) (by decide)]; decide
 exact ⟨a1, a2, a3, a4, a5, a6, a7, a8, (if_pos a8).trans exH_scores.1, (if_pos a8).trans exH_scores.2⟩
def mk_track_model_scores_0 (m0 m1 m2 m3 m4 m5 m6 m7 m8 m9 m10 m11 : Int) (b0 b1 b2 b3 b4 b5 : Int) (l : List THit) (v0_0 : Int) (v0_1 : Int) (v0_2 : Int) : DS := ⟨[none, none, none, some (.t (.c (.p 3 0))), some (.t (.c (.p 4 0))), none, some (.t (.c (.p 6 0))), some (.t (.c (.p 7 0))), none, none, none, none, none, none, none, none, none, some (.t (.c (.sl 5 l.length (hitsC l)))), some (.t (.c (.v (.int .i64 ((l.length : Nat) : Int))))), some (.t (.c (.v (.int .i64 v0_2)))), none, none, none, none, none, none, none, none, none, none, none, none, none, none, none, none, none, none, none, none, none, none, none, none, none, none, none, none, none, none, none, none, none, none, none, none, none, none, none, none, none, none, none, none, none, none, none, none, none, none, none, none, none, none, none, none, none, none, none, none, none, none, none, none, none, none], [none, none, none, some (.box 72 [.v (.int .i64 m0), .v (.int .i64 m1), .v (.int .i64 m2), .v (.int .i64 m3), .v (.int .i64 m4), .v (.int .i64 m5), .v (.int .i64 m6), .v (.int .i64 m7), .v (.int .i64 m8), .v (.int .i64 m9), .v (.int .i64 m10), .v (.int .i64 m11)]), some (.box 28 [.v (.int .i64 b0), .v (.int .i64 b1), .v (.int .i64 b2), .v (.int .i64 b3), .v (.int .i64 b4), .v (.int .i64 b5)]), none, some (.box 113 [.v (.int .i64 0), .v (.int .i64 0)]), some (.box 113 [.v (.int .i64 v0_0), .v (.int .i64 v0_1)]), none, none, none, none, none, none, none, none, none, none, none, none, none, none, none, none, none, none, none, none, none, none, none, none, none, none, none, none, none, none, none, none, none, none, none, none, none, none, none, none, none, none, none, none, none, none, none, none, none, none, none, none, none, none, none, none, none, none, none, none, none, none, none, none, none, none, none, none, none, none, none, none, none, none, none, none, none, none]⟩
def vc_track_model_scores (J : Inv) (m0 m1 m2 m3 m4 m5 m6 m7 m8 m9 m10 m11 : Int) (b0 b1 b2 b3 b4 b5 : Int) (l : List THit) (post : DV → Prop) : Prop := ∃ n, J 0 (n :: []) (mk_track_model_scores_0 m0 m1 m2 m3 m4 m5 m6 m7 m8 m9 m10 m11 b0 b1 b2 b3 b4 b5 l 0 0 0)
def ann_track_model_scores : Ann := ⟨fun r => lookA r [(6, ([[], [0], [], [2], [2, 3], [0, 1, 2, 3, 4], [], [6], [], [8], [8, 9], [6, 7, 8, 9, 10], [0, 1, 2, 3, 4, 5], [0, 1, 2, 3, 4, 5, 6, 7, 8, 9, 10, 11, 12]], [[], [], [], [], [], [], [], [], [], [], [], [], [], []])), (7, ([[], [], [], [0, 1, 2], [], [], [], [0, 1, 2, 3, 4, 5, 6], [0, 1, 2, 3, 4, 5, 6, 7], [0, 1, 2, 3, 4, 5, 6, 7, 8]], [[44, 48], [44, 48], [44, 48], [48], [44, 48], [44, 48], [44, 48], [], [], []]))], fun b => lookA b [(0, (none, some ⟨[3, 4, 6, 7, 17, 18, 19], [3, 4, 6, 7], []⟩))], fun _ => [], noIt, false, fun r => lookA r [(9, (3, [49]))], fun _ => none⟩
theorem ev_track_model_scores (J : Inv) (m0 m1 m2 m3 m4 m5 m6 m7 m8 m9 m10 m11 : Int) (b0 b1 b2 b3 b4 b5 : Int) (l : List THit) (post : DV → Prop) : evFn Try.prog tab Sks40 ann_track_model_scores J Try.f64 [.t (.a [.v (.int .i64 m0), .v (.int .i64 m1), .v (.int .i64 m2), .v (.int .i64 m3), .v (.int .i64 m4), .v (.int .i64 m5), .v (.int .i64 m6), .v (.int .i64 m7), .v (.int .i64 m8), .v (.int .i64 m9), .v (.int .i64 m10), .v (.int .i64 m11)]), .t (.a [.v (.int .i64 b0), .v (.int .i64 b1), .v (.int .i64 b2), .v (.int .i64 b3), .v (.int .i64 b4), .v (.int .i64 b5)]), .t (.c (.sl 5 l.length (hitsC l)))] post = vc_track_model_scores J m0 m1 m2 m3 m4 m5 m6 m7 m8 m9 m10 m11 b0 b1 b2 b3 b4 b5 l post := by kernel_rfl
theorem fit_track_model_scores : okFn ann_track_model_scores Try.f64 = true := by kernel_rfl
def rd_track_model_scores_0 (J : Inv) (m0 m1 m2 m3 m4 m5 m6 m7 m8 m9 m10 m11 : Int) (b0 b1 b2 b3 b4 b5 : Int) (l : List THit) (v0_0 : Int) (v0_1 : Int) (v0_2 : Int) (nn0 : Nat) (post : DV → Prop) : Prop := cond (decide (v0_2 < ((l.length : Nat) : Int))) ((0 ≤ v0_2 ∧ v0_2 < ((l.length : Nat) : Int)) ∧ ((((⟨m0, m1, m2, m3, m4, m5, m6, m7, m8, m9, m10, m11⟩ : TMod)).Ok ∧ ((hitAt l v0_2.toNat)).Ok) ∧ (lt (IntKind.i64.wrap (((hitAt l v0_2.toNat).w) * m11)) fun x1 => lt (IntKind.i64.wrap (((hitAt l v0_2.toNat).w) * m10)) fun x2 => (((⟨m0, m1, m2, m3, m4, m5, m6, m7, m8, m9, m10, m11⟩ : TMod)).Ok ∧ ((⟨⟨b0, b1, b2⟩, ⟨b3, b4, b5⟩⟩ : TBox)).lo.inS 20 = true ∧ ((⟨⟨b0, b1, b2⟩, ⟨b3, b4, b5⟩⟩ : TBox)).hi.inS 20 = true ∧ ((⟨m0, m1, m2, m3, m4, m5, m6, m7, m8, m9, m10, m11⟩ : TMod)).canBe (⟨⟨b0, b1, b2⟩, ⟨b3, b4, b5⟩⟩ : TBox) ∧ (⟨((hitAt l v0_2.toNat).p.x), ((hitAt l v0_2.toNat).p.y), ((hitAt l v0_2.toNat).p.z)⟩ : V3).inS 1000 = true ∧ -1000101 ≤ (((hitAt l v0_2.toNat).t) + m8) ∧ (((hitAt l v0_2.toNat).t) + m8) ≤ 1000100) ∧ ((((⟨m0, m1, m2, m3, m4, m5, m6, m7, m8, m9, m10, m11⟩ : TMod)).Ok ∧ ((⟨⟨b0, b1, b2⟩, ⟨b3, b4, b5⟩⟩ : TBox)).lo.inS 20 = true ∧ ((⟨⟨b0, b1, b2⟩, ⟨b3, b4, b5⟩⟩ : TBox)).hi.inS 20 = true ∧ ((⟨m0, m1, m2, m3, m4, m5, m6, m7, m8, m9, m10, m11⟩ : TMod)).canBe (⟨⟨b0, b1, b2⟩, ⟨b3, b4, b5⟩⟩ : TBox) ∧ (⟨((hitAt l v0_2.toNat).p.x), ((hitAt l v0_2.toNat).p.y), ((hitAt l v0_2.toNat).p.z)⟩ : V3).inS 1000 = true ∧ -1000101 ≤ (((hitAt l v0_2.toNat).t) - m9 - 1) ∧ (((hitAt l v0_2.toNat).t) - m9 - 1) ≤ 1000100) ∧ ((cond ((((⟨m0, m1, m2, m3, m4, m5, m6, m7, m8, m9, m10, m11⟩ : TMod)).ans (⟨⟨b0, b1, b2⟩, ⟨b3, b4, b5⟩⟩ : TBox) ⟨((hitAt l v0_2.toNat).p.x), ((hitAt l v0_2.toNat).p.y), ((hitAt l v0_2.toNat).p.z)⟩ (((hitAt l v0_2.toNat).t) + m8)) == (0 : Int)) (True) ((false = false) ∧ (True))) ∧ (lt ((bif ((((⟨m0, m1, m2, m3, m4, m5, m6, m7, m8, m9, m10, m11⟩ : TMod)).ans (⟨⟨b0, b1, b2⟩, ⟨b3, b4, b5⟩⟩ : TBox) ⟨((hitAt l v0_2.toNat).p.x), ((hitAt l v0_2.toNat).p.y), ((hitAt l v0_2.toNat).p.z)⟩ (((hitAt l v0_2.toNat).t) + m8)) == (0 : Int)) then ((((⟨m0, m1, m2, m3, m4, m5, m6, m7, m8, m9, m10, m11⟩ : TMod)).ans (⟨⟨b0, b1, b2⟩, ⟨b3, b4, b5⟩⟩ : TBox) ⟨((hitAt l v0_2.toNat).p.x), ((hitAt l v0_2.toNat).p.y), ((hitAt l v0_2.toNat).p.z)⟩ (((hitAt l v0_2.toNat).t) - m9 - 1)) == (2 : Int)) else false)) fun x3 => cond x3 (lt ((if x2 < x1 then x2 else x1)) fun x4 => cond ((((⟨m0, m1, m2, m3, m4, m5, m6, m7, m8, m9, m10, m11⟩ : TMod)).ans (⟨⟨b0, b1, b2⟩, ⟨b3, b4, b5⟩⟩ : TBox) ⟨((hitAt l v0_2.toNat).p.x), ((hitAt l v0_2.toNat).p.y), ((hitAt l v0_2.toNat).p.z)⟩ (((hitAt l v0_2.toNat).t) + m8)) != (2 : Int)) (cond ((((⟨m0, m1, m2, m3, m4, m5, m6, m7, m8, m9, m10, m11⟩ : TMod)).ans (⟨⟨b0, b1, b2⟩, ⟨b3, b4, b5⟩⟩ : TBox) ⟨((hitAt l v0_2.toNat).p.x), ((hitAt l v0_2.toNat).p.y), ((hitAt l v0_2.toNat).p.z)⟩ (((hitAt l v0_2.toNat).t) - m9 - 1)) != (0 : Int)) (lt ((if x2 > x1 then x2 else x1)) fun x5 => lt ((((⟨v0_0, v0_1⟩ : Rg) : Rg).plusW (⟨x4, x5⟩ : Rg)).lo) fun x6 => lt ((((⟨v0_0, v0_1⟩ : Rg) : Rg).plusW (⟨x4, x5⟩ : Rg)).hi) fun x7 => lt (IntKind.i64.wrap (v0_2 + (1 : Int))) fun x8 => J 0 (nn0 :: []) (mk_track_model_scores_0 m0 m1 m2 m3 m4 m5 m6 m7 m8 m9 m10 m11 b0 b1 b2 b3 b4 b5 l x6 x7 x8)) (lt ((((⟨v0_0, v0_1⟩ : Rg) : Rg).plusW (⟨x4, x1⟩ : Rg)).lo) fun x9 => lt ((((⟨v0_0, v0_1⟩ : Rg) : Rg).plusW (⟨x4, x1⟩ : Rg)).hi) fun x10 => lt (IntKind.i64.wrap (v0_2 + (1 : Int))) fun x11 => J 0 (nn0 :: []) (mk_track_model_scores_0 m0 m1 m2 m3 m4 m5 m6 m7 m8 m9 m10 m11 b0 b1 b2 b3 b4 b5 l x9 x10 x11))) (cond ((((⟨m0, m1, m2, m3, m4, m5, m6, m7, m8, m9, m10, m11⟩ : TMod)).ans (⟨⟨b0, b1, b2⟩, ⟨b3, b4, b5⟩⟩ : TBox) ⟨((hitAt l v0_2.toNat).p.x), ((hitAt l v0_2.toNat).p.y), ((hitAt l v0_2.toNat).p.z)⟩ (((hitAt l v0_2.toNat).t) - m9 - 1)) != (0 : Int)) (lt ((if x2 > (0 : Int) then x2 else (0 : Int))) fun x12 => lt ((((⟨v0_0, v0_1⟩ : Rg) : Rg).plusW (⟨x4, x12⟩ : Rg)).lo) fun x13 => lt ((((⟨v0_0, v0_1⟩ : Rg) : Rg).plusW (⟨x4, x12⟩ : Rg)).hi) fun x14 => lt (IntKind.i64.wrap (v0_2 + (1 : Int))) fun x15 => J 0 (nn0 :: []) (mk_track_model_scores_0 m0 m1 m2 m3 m4 m5 m6 m7 m8 m9 m10 m11 b0 b1 b2 b3 b4 b5 l x13 x14 x15)) (lt ((((⟨v0_0, v0_1⟩ : Rg) : Rg).plusW (⟨x4, (0 : Int)⟩ : Rg)).lo) fun x16 => lt ((((⟨v0_0, v0_1⟩ : Rg) : Rg).plusW (⟨x4, (0 : Int)⟩ : Rg)).hi) fun x17 => lt (IntKind.i64.wrap (v0_2 + (1 : Int))) fun x18 => J 0 (nn0 :: []) (mk_track_model_scores_0 m0 m1 m2 m3 m4 m5 m6 m7 m8 m9 m10 m11 b0 b1 b2 b3 b4 b5 l x16 x17 x18)))) (cond ((((⟨m0, m1, m2, m3, m4, m5, m6, m7, m8, m9, m10, m11⟩ : TMod)).ans (⟨⟨b0, b1, b2⟩, ⟨b3, b4, b5⟩⟩ : TBox) ⟨((hitAt l v0_2.toNat).p.x), ((hitAt l v0_2.toNat).p.y), ((hitAt l v0_2.toNat).p.z)⟩ (((hitAt l v0_2.toNat).t) + m8)) == (0 : Int)) (cond ((((⟨m0, m1, m2, m3, m4, m5, m6, m7, m8, m9, m10, m11⟩ : TMod)).ans (⟨⟨b0, b1, b2⟩, ⟨b3, b4, b5⟩⟩ : TBox) ⟨((hitAt l v0_2.toNat).p.x), ((hitAt l v0_2.toNat).p.y), ((hitAt l v0_2.toNat).p.z)⟩ (((hitAt l v0_2.toNat).t) + m8)) != (2 : Int)) (cond ((((⟨m0, m1, m2, m3, m4, m5, m6, m7, m8, m9, m10, m11⟩ : TMod)).ans (⟨⟨b0, b1, b2⟩, ⟨b3, b4, b5⟩⟩ : TBox) ⟨((hitAt l v0_2.toNat).p.x), ((hitAt l v0_2.toNat).p.y), ((hitAt l v0_2.toNat).p.z)⟩ (((hitAt l v0_2.toNat).t) - m9 - 1)) != (0 : Int)) (lt ((if x2 > x1 then x2 else x1)) fun x19 => lt ((((⟨v0_0, v0_1⟩ : Rg) : Rg).plusW (⟨x1, x19⟩ : Rg)).lo) fun x20 => lt ((((⟨v0_0, v0_1⟩ : Rg) : Rg).plusW (⟨x1, x19⟩ : Rg)).hi) fun x21 => lt (IntKind.i64.wrap (v0_2 + (1 : Int))) fun x22 => J 0 (nn0 :: []) (mk_track_model_scores_0 m0 m1 m2 m3 m4 m5 m6 m7 m8 m9 m10 m11 b0 b1 b2 b3 b4 b5 l x20 x21 x22)) (lt ((((⟨v0_0, v0_1⟩ : Rg) : Rg).plusW (⟨x1, x1⟩ : Rg)).lo) fun x23 => lt ((((⟨v0_0, v0_1⟩ : Rg) : Rg).plusW (⟨x1, x1⟩ : Rg)).hi) fun x24 => lt (IntKind.i64.wrap (v0_2 + (1 : Int))) fun x25 => J 0 (nn0 :: []) (mk_track_model_scores_0 m0 m1 m2 m3 m4 m5 m6 m7 m8 m9 m10 m11 b0 b1 b2 b3 b4 b5 l x23 x24 x25))) (cond ((((⟨m0, m1, m2, m3, m4, m5, m6, m7, m8, m9, m10, m11⟩ : TMod)).ans (⟨⟨b0, b1, b2⟩, ⟨b3, b4, b5⟩⟩ : TBox) ⟨((hitAt l v0_2.toNat).p.x), ((hitAt l v0_2.toNat).p.y), ((hitAt l v0_2.toNat).p.z)⟩ (((hitAt l v0_2.toNat).t) - m9 - 1)) != (0 : Int)) (lt ((if x2 > (0 : Int) then x2 else (0 : Int))) fun x26 => lt ((((⟨v0_0, v0_1⟩ : Rg) : Rg).plusW (⟨x1, x26⟩ : Rg)).lo) fun x27 => lt ((((⟨v0_0, v0_1⟩ : Rg) : Rg).plusW (⟨x1, x26⟩ : Rg)).hi) fun x28 => lt (IntKind.i64.wrap (v0_2 + (1 : Int))) fun x29 => J 0 (nn0 :: []) (mk_track_model_scores_0 m0 m1 m2 m3 m4 m5 m6 m7 m8 m9 m10 m11 b0 b1 b2 b3 b4 b5 l x27 x28 x29)) (lt ((((⟨v0_0, v0_1⟩ : Rg) : Rg).plusW (⟨x1, (0 : Int)⟩ : Rg)).lo) fun x30 => lt ((((⟨v0_0, v0_1⟩ : Rg) : Rg).plusW (⟨x1, (0 : Int)⟩ : Rg)).hi) fun x31 => lt (IntKind.i64.wrap (v0_2 + (1 : Int))) fun x32 => J 0 (nn0 :: []) (mk_track_model_scores_0 m0 m1 m2 m3 m4 m5 m6 m7 m8 m9 m10 m11 b0 b1 b2 b3 b4 b5 l x30 x31 x32)))) (cond ((((⟨m0, m1, m2, m3, m4, m5, m6, m7, m8, m9, m10, m11⟩ : TMod)).ans (⟨⟨b0, b1, b2⟩, ⟨b3, b4, b5⟩⟩ : TBox) ⟨((hitAt l v0_2.toNat).p.x), ((hitAt l v0_2.toNat).p.y), ((hitAt l v0_2.toNat).p.z)⟩ (((hitAt l v0_2.toNat).t) - m9 - 1)) == (2 : Int)) (cond ((((⟨m0, m1, m2, m3, m4, m5, m6, m7, m8, m9, m10, m11⟩ : TMod)).ans (⟨⟨b0, b1, b2⟩, ⟨b3, b4, b5⟩⟩ : TBox) ⟨((hitAt l v0_2.toNat).p.x), ((hitAt l v0_2.toNat).p.y), ((hitAt l v0_2.toNat).p.z)⟩ (((hitAt l v0_2.toNat).t) + m8)) != (2 : Int)) (cond ((((⟨m0, m1, m2, m3, m4, m5, m6, m7, m8, m9, m10, m11⟩ : TMod)).ans (⟨⟨b0, b1, b2⟩, ⟨b3, b4, b5⟩⟩ : TBox) ⟨((hitAt l v0_2.toNat).p.x), ((hitAt l v0_2.toNat).p.y), ((hitAt l v0_2.toNat).p.z)⟩ (((hitAt l v0_2.toNat).t) - m9 - 1)) != (0 : Int)) (lt ((if x2 > x1 then x2 else x1)) fun x33 => lt ((((⟨v0_0, v0_1⟩ : Rg) : Rg).plusW (⟨x2, x33⟩ : Rg)).lo) fun x34 => lt ((((⟨v0_0, v0_1⟩ : Rg) : Rg).plusW (⟨x2, x33⟩ : Rg)).hi) fun x35 => lt (IntKind.i64.wrap (v0_2 + (1 : Int))) fun x36 => J 0 (nn0 :: []) (mk_track_model_scores_0 m0 m1 m2 m3 m4 m5 m6 m7 m8 m9 m10 m11 b0 b1 b2 b3 b4 b5 l x34 x35 x36)) (lt ((((⟨v0_0, v0_1⟩ : Rg) : Rg).plusW (⟨x2, x1⟩ : Rg)).lo) fun x37 => lt ((((⟨v0_0, v0_1⟩ : Rg) : Rg).plusW (⟨x2, x1⟩ : Rg)).hi) fun x38 => lt (IntKind.i64.wrap (v0_2 + (1 : Int))) fun x39 => J 0 (nn0 :: []) (mk_track_model_scores_0 m0 m1 m2 m3 m4 m5 m6 m7 m8 m9 m10 m11 b0 b1 b2 b3 b4 b5 l x37 x38 x39))) (cond ((((⟨m0, m1, m2, m3, m4, m5, m6, m7, m8, m9, m10, m11⟩ : TMod)).ans (⟨⟨b0, b1, b2⟩, ⟨b3, b4, b5⟩⟩ : TBox) ⟨((hitAt l v0_2.toNat).p.x), ((hitAt l v0_2.toNat).p.y), ((hitAt l v0_2.toNat).p.z)⟩ (((hitAt l v0_2.toNat).t) - m9 - 1)) != (0 : Int)) (lt ((if x2 > (0 : Int) then x2 else (0 : Int))) fun x40 => lt ((((⟨v0_0, v0_1⟩ : Rg) : Rg).plusW (⟨x2, x40⟩ : Rg)).lo) fun x41 => lt ((((⟨v0_0, v0_1⟩ : Rg) : Rg).plusW (⟨x2, x40⟩ : Rg)).hi) fun x42 => lt (IntKind.i64.wrap (v0_2 + (1 : Int))) fun x43 => J 0 (nn0 :: []) (mk_track_model_scores_0 m0 m1 m2 m3 m4 m5 m6 m7 m8 m9 m10 m11 b0 b1 b2 b3 b4 b5 l x41 x42 x43)) (lt ((((⟨v0_0, v0_1⟩ : Rg) : Rg).plusW (⟨x2, (0 : Int)⟩ : Rg)).lo) fun x44 => lt ((((⟨v0_0, v0_1⟩ : Rg) : Rg).plusW (⟨x2, (0 : Int)⟩ : Rg)).hi) fun x45 => lt (IntKind.i64.wrap (v0_2 + (1 : Int))) fun x46 => J 0 (nn0 :: []) (mk_track_model_scores_0 m0 m1 m2 m3 m4 m5 m6 m7 m8 m9 m10 m11 b0 b1 b2 b3 b4 b5 l x44 x45 x46)))) (cond ((((⟨m0, m1, m2, m3, m4, m5, m6, m7, m8, m9, m10, m11⟩ : TMod)).ans (⟨⟨b0, b1, b2⟩, ⟨b3, b4, b5⟩⟩ : TBox) ⟨((hitAt l v0_2.toNat).p.x), ((hitAt l v0_2.toNat).p.y), ((hitAt l v0_2.toNat).p.z)⟩ (((hitAt l v0_2.toNat).t) + m8)) != (2 : Int)) (cond ((((⟨m0, m1, m2, m3, m4, m5, m6, m7, m8, m9, m10, m11⟩ : TMod)).ans (⟨⟨b0, b1, b2⟩, ⟨b3, b4, b5⟩⟩ : TBox) ⟨((hitAt l v0_2.toNat).p.x), ((hitAt l v0_2.toNat).p.y), ((hitAt l v0_2.toNat).p.z)⟩ (((hitAt l v0_2.toNat).t) - m9 - 1)) != (0 : Int)) (lt ((if x2 > x1 then x2 else x1)) fun x47 => lt ((((⟨v0_0, v0_1⟩ : Rg) : Rg).plusW (⟨(0 : Int), x47⟩ : Rg)).lo) fun x48 => lt ((((⟨v0_0, v0_1⟩ : Rg) : Rg).plusW (⟨(0 : Int), x47⟩ : Rg)).hi) fun x49 => lt (IntKind.i64.wrap (v0_2 + (1 : Int))) fun x50 => J 0 (nn0 :: []) (mk_track_model_scores_0 m0 m1 m2 m3 m4 m5 m6 m7 m8 m9 m10 m11 b0 b1 b2 b3 b4 b5 l x48 x49 x50)) (lt ((((⟨v0_0, v0_1⟩ : Rg) : Rg).plusW (⟨(0 : Int), x1⟩ : Rg)).lo) fun x51 => lt ((((⟨v0_0, v0_1⟩ : Rg) : Rg).plusW (⟨(0 : Int), x1⟩ : Rg)).hi) fun x52 => lt (IntKind.i64.wrap (v0_2 + (1 : Int))) fun x53 => J 0 (nn0 :: []) (mk_track_model_scores_0 m0 m1 m2 m3 m4 m5 m6 m7 m8 m9 m10 m11 b0 b1 b2 b3 b4 b5 l x51 x52 x53))) (cond ((((⟨m0, m1, m2, m3, m4, m5, m6, m7, m8, m9, m10, m11⟩ : TMod)).ans (⟨⟨b0, b1, b2⟩, ⟨b3, b4, b5⟩⟩ : TBox) ⟨((hitAt l v0_2.toNat).p.x), ((hitAt l v0_2.toNat).p.y), ((hitAt l v0_2.toNat).p.z)⟩ (((hitAt l v0_2.toNat).t) - m9 - 1)) != (0 : Int)) (lt ((if x2 > (0 : Int) then x2 else (0 : Int))) fun x54 => lt ((((⟨v0_0, v0_1⟩ : Rg) : Rg).plusW (⟨(0 : Int), x54⟩ : Rg)).lo) fun x55 => lt ((((⟨v0_0, v0_1⟩ : Rg) : Rg).plusW (⟨(0 : Int), x54⟩ : Rg)).hi) fun x56 => lt (IntKind.i64.wrap (v0_2 + (1 : Int))) fun x57 => J 0 (nn0 :: []) (mk_track_model_scores_0 m0 m1 m2 m3 m4 m5 m6 m7 m8 m9 m10 m11 b0 b1 b2 b3 b4 b5 l x55 x56 x57)) (lt ((((⟨v0_0, v0_1⟩ : Rg) : Rg).plusW (⟨(0 : Int), (0 : Int)⟩ : Rg)).lo) fun x58 => lt ((((⟨v0_0, v0_1⟩ : Rg) : Rg).plusW (⟨(0 : Int), (0 : Int)⟩ : Rg)).hi) fun x59 => lt (IntKind.i64.wrap (v0_2 + (1 : Int))) fun x60 => J 0 (nn0 :: []) (mk_track_model_scores_0 m0 m1 m2 m3 m4 m5 m6 m7 m8 m9 m10 m11 b0 b1 b2 b3 b4 b5 l x58 x59 x60)))))))))))) (post (.t (.a [.v (.int .i64 v0_0), .v (.int .i64 v0_1)])))
theorem er_track_model_scores_0 (J : Inv) (m0 m1 m2 m3 m4 m5 m6 m7 m8 m9 m10 m11 : Int) (b0 b1 b2 b3 b4 b5 : Int) (l : List THit) (v0_0 : Int) (v0_1 : Int) (v0_2 : Int) (nn0 : Nat) (post : DV → Prop) : round Try.prog tab Sks40 ann_track_model_scores J Try.f64 post 0 (nn0 :: []) (mk_track_model_scores_0 m0 m1 m2 m3 m4 m5 m6 m7 m8 m9 m10 m11 b0 b1 b2 b3 b4 b5 l v0_0 v0_1 v0_2) = rd_track_model_scores_0 J m0 m1 m2 m3 m4 m5 m6 m7 m8 m9 m10 m11 b0 b1 b2 b3 b4 b5 l v0_0 v0_1 v0_2 nn0 post := by kernel_rfl
theorem lp_track_model_scores (J : Inv) (post : DV → Prop) : AllG J (loopsFn Try.prog tab Sks40 ann_track_model_scores J Try.f64 post) = (((∀ F s, ¬ J 0 (0 :: F) s) ∧ ∀ n F s, J 0 ((n + 1) :: F) s → round Try.prog tab Sks40 ann_track_model_scores J Try.f64 post 0 (n :: F) s) ∧ True) := by kernel_rfl
def J_track_model_scores (m0 m1 m2 m3 m4 m5 m6 m7 m8 m9 m10 m11 : Int) (b0 b1 b2 b3 b4 b5 : Int) (l : List THit) : Inv := fun b F s => match b, F with
 | 0, [nn0] => ∃ (v0_0 : Int) (v0_1 : Int) (v0_2 : Int), s = mk_track_model_scores_0 m0 m1 m2 m3 m4 m5 m6 m7 m8 m9 m10 m11 b0 b1 b2 b3 b4 b5 l v0_0 v0_1 v0_2 ∧ (0 ≤ v0_2 ∧ v0_2 ≤ l.length ∧ (nn0 : Int) + v0_2 = l.length + 1 ∧ v0_0 = (((⟨m0, m1, m2, m3, m4, m5, m6, m7, m8, m9, m10, m11⟩ : TMod)).scores (⟨⟨b0, b1, b2⟩, ⟨b3, b4, b5⟩⟩ : TBox) (l.take v0_2.toNat)).lo ∧ v0_1 = (((⟨m0, m1, m2, m3, m4, m5, m6, m7, m8, m9, m10, m11⟩ : TMod)).scores (⟨⟨b0, b1, b2⟩, ⟨b3, b4, b5⟩⟩ : TBox) (l.take v0_2.toNat)).hi)
 | _, _ => False
theorem rnd_track_model_scores_0 (m0 m1 m2 m3 m4 m5 m6 m7 m8 m9 m10 m11 : Int) (b0 b1 b2 b3 b4 b5 : Int) (l : List THit) (v0_0 : Int) (v0_1 : Int) (v0_2 : Int) (nn0 : Nat) (hp : ((⟨m0, m1, m2, m3, m4, m5, m6, m7, m8, m9, m10, m11⟩ : TMod)).Ok ∧ ((⟨⟨b0, b1, b2⟩, ⟨b3, b4, b5⟩⟩ : TBox)).lo.inS 20 = true ∧ ((⟨⟨b0, b1, b2⟩, ⟨b3, b4, b5⟩⟩ : TBox)).hi.inS 20 = true ∧ ((⟨m0, m1, m2, m3, m4, m5, m6, m7, m8, m9, m10, m11⟩ : TMod)).canBe (⟨⟨b0, b1, b2⟩, ⟨b3, b4, b5⟩⟩ : TBox) ∧ (l).length ≤ 12 ∧ ∀ i, i < (l).length → (hitAt l i).Ok) (hi : 0 ≤ v0_2 ∧ v0_2 ≤ l.length ∧ ((nn0 + 1) : Int) + v0_2 = l.length + 1 ∧ v0_0 = (((⟨m0, m1, m2, m3, m4, m5, m6, m7, m8, m9, m10, m11⟩ : TMod)).scores (⟨⟨b0, b1, b2⟩, ⟨b3, b4, b5⟩⟩ : TBox) (l.take v0_2.toNat)).lo ∧ v0_1 = (((⟨m0, m1, m2, m3, m4, m5, m6, m7, m8, m9, m10, m11⟩ : TMod)).scores (⟨⟨b0, b1, b2⟩, ⟨b3, b4, b5⟩⟩ : TBox) (l.take v0_2.toNat)).hi) : rd_track_model_scores_0 (J_track_model_scores m0 m1 m2 m3 m4 m5 m6 m7 m8 m9 m10 m11 b0 b1 b2 b3 b4 b5 l) m0 m1 m2 m3 m4 m5 m6 m7 m8 m9 m10 m11 b0 b1 b2 b3 b4 b5 l v0_0 v0_1 v0_2 nn0 (fun r => LeD r (.t (.a [.v (.int .i64 ((((⟨m0, m1, m2, m3, m4, m5, m6, m7, m8, m9, m10, m11⟩ : TMod)).scores (⟨⟨b0, b1, b2⟩, ⟨b3, b4, b5⟩⟩ : TBox) l).lo)), .v (.int .i64 ((((⟨m0, m1, m2, m3, m4, m5, m6, m7, m8, m9, m10, m11⟩ : TMod)).scores (⟨⟨b0, b1, b2⟩, ⟨b3, b4, b5⟩⟩ : TBox) l).hi))]))) := by
 obtain ⟨i1, i2, i3, i4, i5⟩ := hi
 obtain ⟨ho, hl, hh, hc, hn, hok⟩ := hp
 obtain ⟨k, rfl⟩ : ∃ k : Nat, v0_2 = k := ⟨v0_2.toNat, by omega⟩
 have hk : (k : Int).toNat = k := rfl
 rw [hk] at i4 i5
 unfold rd_track_model_scores_0
 rw [hk]
 refine cond_i (fun h => ?_) (fun h => ?_)
 rotate_left
 ·have hkl : k = l.length := by have := of_decide_eq_false h; omega
  rw [hkl, List.take_length] at i4 i5
  rw [i4, i5]
  exact LeD.refl _
 have hlt : k < l.length := by have := of_decide_eq_true h; omega
 have hh0 := hok k hlt
 have u1 := hh0.t; have u2 := ho.ea; have u3 := ho.la
 simp only at u2 u3
 obtain ⟨⟨g1, g2⟩, g3, g4⟩ := hit_prod ho hh0
 simp only at g1 g2 g3 g4
 obtain ⟨⟨s1, s2⟩, s3, s4⟩ := scores_bd (b := (⟨⟨b0, b1, b2⟩, ⟨b3, b4, b5⟩⟩ : TBox)) ho hok k (by omega)
 have HS := scores_take ((⟨m0, m1, m2, m3, m4, m5, m6, m7, m8, m9, m10, m11⟩ : TMod)) ((⟨⟨b0, b1, b2⟩, ⟨b3, b4, b5⟩⟩ : TBox)) hlt
 rw [← i4] at s1 s2
 rw [← i5] at s3 s4
 refine ⟨by omega, ⟨ho, hh0⟩, lt_i fun x1 h1 => lt_i fun x2 h2 => ⟨⟨ho, hl, hh, hc, hh0.p, by omega, by omega⟩, ⟨ho, hl, hh, hc, hh0.p, by omega, by omega⟩, cond_i (fun _ => trivial) (fun _ => ⟨rfl, trivial⟩), lt_i fun x3 h3 => ?_⟩⟩
 rw [wi (by omega)] at h1 h2
 have eh : ∀ q : V3, (⟨q.x, q.y, q.z⟩ : V3) = q := fun q => rfl
 simp only [eh] at h3 ⊢
 have HR : ((⟨m0, m1, m2, m3, m4, m5, m6, m7, m8, m9, m10, m11⟩ : TMod)).hitR ((⟨⟨b0, b1, b2⟩, ⟨b3, b4, b5⟩⟩ : TBox)) (hitAt l k) = ownR (((⟨m0, m1, m2, m3, m4, m5, m6, m7, m8, m9, m10, m11⟩ : TMod)).ans ((⟨⟨b0, b1, b2⟩, ⟨b3, b4, b5⟩⟩ : TBox)) (hitAt l k).p ((hitAt l k).t + m8)) (((⟨m0, m1, m2, m3, m4, m5, m6, m7, m8, m9, m10, m11⟩ : TMod)).ans ((⟨⟨b0, b1, b2⟩, ⟨b3, b4, b5⟩⟩ : TBox)) (hitAt l k).p ((hitAt l k).t - m9 - 1)) x1 x2 := by rw [← h1, ← h2]; rfl
 rw [HR] at HS
 rw [h1] at g1 g2
 rw [h2] at g3 g4
 clear HR h1 h2
 have hE := ans_val ((⟨m0, m1, m2, m3, m4, m5, m6, m7, m8, m9, m10, m11⟩ : TMod)) ((⟨⟨b0, b1, b2⟩, ⟨b3, b4, b5⟩⟩ : TBox)) (hitAt l k).p ((hitAt l k).t + m8)
 have hL := ans_val ((⟨m0, m1, m2, m3, m4, m5, m6, m7, m8, m9, m10, m11⟩ : TMod)) ((⟨⟨b0, b1, b2⟩, ⟨b3, b4, b5⟩⟩ : TBox)) (hitAt l k).p ((hitAt l k).t - m9 - 1)
 generalize ((⟨m0, m1, m2, m3, m4, m5, m6, m7, m8, m9, m10, m11⟩ : TMod)).ans ((⟨⟨b0, b1, b2⟩, ⟨b3, b4, b5⟩⟩ : TBox)) (hitAt l k).p ((hitAt l k).t + m8) = E at *
 generalize ((⟨m0, m1, m2, m3, m4, m5, m6, m7, m8, m9, m10, m11⟩ : TMod)).ans ((⟨⟨b0, b1, b2⟩, ⟨b3, b4, b5⟩⟩ : TBox)) (hitAt l k).p ((hitAt l k).t - m9 - 1) = L at *
 generalize hS0 : ((⟨m0, m1, m2, m3, m4, m5, m6, m7, m8, m9, m10, m11⟩ : TMod)).scores (⟨⟨b0, b1, b2⟩, ⟨b3, b4, b5⟩⟩ : TBox) (l.take k) = S0 at *
 generalize hS1 : ((⟨m0, m1, m2, m3, m4, m5, m6, m7, m8, m9, m10, m11⟩ : TMod)).scores (⟨⟨b0, b1, b2⟩, ⟨b3, b4, b5⟩⟩ : TBox) (l.take (k + 1)) = S1 at *
 have eS : (⟨v0_0, v0_1⟩ : Rg) = S0 := by rw [i4, i5]
 rw [← eS] at HS
 rcases hE with rfl | rfl | rfl <;> rcases hL with rfl | rfl | rfl
 all_goals
  simp only [Int.reduceBEq, Int.reduceBNe, cond_true, cond_false] at h3 ⊢
  subst h3
  simp only [cond_true, cond_false]
  (repeat (refine lt_i ?_; intro _ hq; subst hq))
  refine ⟨_, _, _, rfl, by rw [wi (by omega)]; omega, by rw [wi (by omega)]; omega, by rw [wi (by omega)]; omega, ?_, ?_⟩
  all_goals
   rw [wi (n := (k : Int) + 1) (by omega), show ((k : Int) + 1).toNat = k + 1 by omega, hS1, HS]
   simp [Rg.plusW, Rg.plus, ownR, mn_if, mx_if]
   try exact wri (by omega)
theorem zero_track_model_scores_0 (m0 m1 m2 m3 m4 m5 m6 m7 m8 m9 m10 m11 : Int) (b0 b1 b2 b3 b4 b5 : Int) (l : List THit) (v0_0 : Int) (v0_1 : Int) (v0_2 : Int)  (hi : 0 ≤ v0_2 ∧ v0_2 ≤ l.length ∧ (0 : Int) + v0_2 = l.length + 1 ∧ v0_0 = (((⟨m0, m1, m2, m3, m4, m5, m6, m7, m8, m9, m10, m11⟩ : TMod)).scores (⟨⟨b0, b1, b2⟩, ⟨b3, b4, b5⟩⟩ : TBox) (l.take v0_2.toNat)).lo ∧ v0_1 = (((⟨m0, m1, m2, m3, m4, m5, m6, m7, m8, m9, m10, m11⟩ : TMod)).scores (⟨⟨b0, b1, b2⟩, ⟨b3, b4, b5⟩⟩ : TBox) (l.take v0_2.toNat)).hi) : False := by
 omega
theorem spec_track_model_scores (m0 m1 m2 m3 m4 m5 m6 m7 m8 m9 m10 m11 : Int) (b0 b1 b2 b3 b4 b5 : Int) (l : List THit) (hp : ((⟨m0, m1, m2, m3, m4, m5, m6, m7, m8, m9, m10, m11⟩ : TMod)).Ok ∧ ((⟨⟨b0, b1, b2⟩, ⟨b3, b4, b5⟩⟩ : TBox)).lo.inS 20 = true ∧ ((⟨⟨b0, b1, b2⟩, ⟨b3, b4, b5⟩⟩ : TBox)).hi.inS 20 = true ∧ ((⟨m0, m1, m2, m3, m4, m5, m6, m7, m8, m9, m10, m11⟩ : TMod)).canBe (⟨⟨b0, b1, b2⟩, ⟨b3, b4, b5⟩⟩ : TBox) ∧ (l).length ≤ 12 ∧ ∀ i, i < (l).length → (hitAt l i).Ok) : vc_track_model_scores (J_track_model_scores m0 m1 m2 m3 m4 m5 m6 m7 m8 m9 m10 m11 b0 b1 b2 b3 b4 b5 l) m0 m1 m2 m3 m4 m5 m6 m7 m8 m9 m10 m11 b0 b1 b2 b3 b4 b5 l (fun r => LeD r (.t (.a [.v (.int .i64 ((((⟨m0, m1, m2, m3, m4, m5, m6, m7, m8, m9, m10, m11⟩ : TMod)).scores (⟨⟨b0, b1, b2⟩, ⟨b3, b4, b5⟩⟩ : TBox) l).lo)), .v (.int .i64 ((((⟨m0, m1, m2, m3, m4, m5, m6, m7, m8, m9, m10, m11⟩ : TMod)).scores (⟨⟨b0, b1, b2⟩, ⟨b3, b4, b5⟩⟩ : TBox) l).hi))]))) := by
 unfold vc_track_model_scores
 exact ⟨l.length + 1, 0, 0, 0, rfl, by omega, by omega, by omega, rfl, rfl⟩
theorem all_track_model_scores (m0 m1 m2 m3 m4 m5 m6 m7 m8 m9 m10 m11 : Int) (b0 b1 b2 b3 b4 b5 : Int) (l : List THit) (hp : ((⟨m0, m1, m2, m3, m4, m5, m6, m7, m8, m9, m10, m11⟩ : TMod)).Ok ∧ ((⟨⟨b0, b1, b2⟩, ⟨b3, b4, b5⟩⟩ : TBox)).lo.inS 20 = true ∧ ((⟨⟨b0, b1, b2⟩, ⟨b3, b4, b5⟩⟩ : TBox)).hi.inS 20 = true ∧ ((⟨m0, m1, m2, m3, m4, m5, m6, m7, m8, m9, m10, m11⟩ : TMod)).canBe (⟨⟨b0, b1, b2⟩, ⟨b3, b4, b5⟩⟩ : TBox) ∧ (l).length ≤ 12 ∧ ∀ i, i < (l).length → (hitAt l i).Ok) : AllG (J_track_model_scores m0 m1 m2 m3 m4 m5 m6 m7 m8 m9 m10 m11 b0 b1 b2 b3 b4 b5 l) (loopsFn Try.prog tab Sks40 ann_track_model_scores (J_track_model_scores m0 m1 m2 m3 m4 m5 m6 m7 m8 m9 m10 m11 b0 b1 b2 b3 b4 b5 l) Try.f64 (fun r => LeD r (.t (.a [.v (.int .i64 ((((⟨m0, m1, m2, m3, m4, m5, m6, m7, m8, m9, m10, m11⟩ : TMod)).scores (⟨⟨b0, b1, b2⟩, ⟨b3, b4, b5⟩⟩ : TBox) l).lo)), .v (.int .i64 ((((⟨m0, m1, m2, m3, m4, m5, m6, m7, m8, m9, m10, m11⟩ : TMod)).scores (⟨⟨b0, b1, b2⟩, ⟨b3, b4, b5⟩⟩ : TBox) l).hi))])))) := by
 rw [lp_track_model_scores]
 refine ⟨⟨?_, ?_⟩, trivial⟩
 ·intro F s h
  obtain _ | ⟨g, F⟩ := F
  case cons => exact h.elim
  obtain ⟨w0, w1, w2, rfl, hi⟩ := h
  exact zero_track_model_scores_0 m0 m1 m2 m3 m4 m5 m6 m7 m8 m9 m10 m11 b0 b1 b2 b3 b4 b5 l w0 w1 w2 hi
 ·intro n F s h
  obtain _ | ⟨g, F⟩ := F
  case cons => exact h.elim
  obtain ⟨w0, w1, w2, rfl, hi⟩ := h
  rw [er_track_model_scores_0]
  exact rnd_track_model_scores_0 m0 m1 m2 m3 m4 m5 m6 m7 m8 m9 m10 m11 b0 b1 b2 b3 b4 b5 l _ _ _ _ hp hi
def con_track_model_scores : Con := fun args => match args with
 | [.t (.a [.v (.int .i64 m0), .v (.int .i64 m1), .v (.int .i64 m2), .v (.int .i64 m3), .v (.int .i64 m4), .v (.int .i64 m5), .v (.int .i64 m6), .v (.int .i64 m7), .v (.int .i64 m8), .v (.int .i64 m9), .v (.int .i64 m10), .v (.int .i64 m11)]), .t (.a [.v (.int .i64 b0), .v (.int .i64 b1), .v (.int .i64 b2), .v (.int .i64 b3), .v (.int .i64 b4), .v (.int .i64 b5)]), .t (.c (.sl 5 n_l c_l))] => some (.t (.a [.v (.int .i64 ((((⟨m0, m1, m2, m3, m4, m5, m6, m7, m8, m9, m10, m11⟩ : TMod)).scores (⟨⟨b0, b1, b2⟩, ⟨b3, b4, b5⟩⟩ : TBox) (listC n_l mkHit c_l)).lo)), .v (.int .i64 ((((⟨m0, m1, m2, m3, m4, m5, m6, m7, m8, m9, m10, m11⟩ : TMod)).scores (⟨⟨b0, b1, b2⟩, ⟨b3, b4, b5⟩⟩ : TBox) (listC n_l mkHit c_l)).hi))]), some (numsP 5 n_l c_l ∧ ((⟨m0, m1, m2, m3, m4, m5, m6, m7, m8, m9, m10, m11⟩ : TMod)).Ok ∧ ((⟨⟨b0, b1, b2⟩, ⟨b3, b4, b5⟩⟩ : TBox)).lo.inS 20 = true ∧ ((⟨⟨b0, b1, b2⟩, ⟨b3, b4, b5⟩⟩ : TBox)).hi.inS 20 = true ∧ ((⟨m0, m1, m2, m3, m4, m5, m6, m7, m8, m9, m10, m11⟩ : TMod)).canBe (⟨⟨b0, b1, b2⟩, ⟨b3, b4, b5⟩⟩ : TBox) ∧ ((listC n_l mkHit c_l)).length ≤ 12 ∧ ∀ i, i < ((listC n_l mkHit c_l)).length → (hitAt (listC n_l mkHit c_l) i).Ok), false)
 | _ => none
theorem ok_track_model_scores : Ok Try.prog 64 con_track_model_scores := by
 refine Ok.fn (ann := ann_track_model_scores) mixed tabOK VSks40 ValidIt.no (fn := Try.f64) (by kernel_rfl) (by kernel_rfl) fit_track_model_scores fun args r pre fresh h hp => ?_
 unfold con_track_model_scores at h
 split at h
 ·rename_i m0 m1 m2 m3 m4 m5 m6 m7 m8 m9 m10 m11 b0 b1 b2 b3 b4 b5 n_l c_l
  cases h
  obtain ⟨hp0, hp⟩ := hp
  refine ⟨rfl, J_track_model_scores m0 m1 m2 m3 m4 m5 m6 m7 m8 m9 m10 m11 b0 b1 b2 b3 b4 b5 (listC n_l mkHit c_l), [.t (.a [.v (.int .i64 m0), .v (.int .i64 m1), .v (.int .i64 m2), .v (.int .i64 m3), .v (.int .i64 m4), .v (.int .i64 m5), .v (.int .i64 m6), .v (.int .i64 m7), .v (.int .i64 m8), .v (.int .i64 m9), .v (.int .i64 m10), .v (.int .i64 m11)]), .t (.a [.v (.int .i64 b0), .v (.int .i64 b1), .v (.int .i64 b2), .v (.int .i64 b3), .v (.int .i64 b4), .v (.int .i64 b5)]), .t (.c (.sl 5 ((listC n_l mkHit c_l).length) (hitsC (listC n_l mkHit c_l))))], ?_, Nat.le_of_ble_eq_true (by kernel_rfl), ?_, ?_⟩
  ·exact (LeA_cons (LeD.refl _) (LeA_cons (LeD.refl _) (LeA_cons (leT_c ((leL_THit hp0))) LeA_nil)))
  ·rw [ev_track_model_scores]; exact spec_track_model_scores m0 m1 m2 m3 m4 m5 m6 m7 m8 m9 m10 m11 b0 b1 b2 b3 b4 b5 (listC n_l mkHit c_l) hp
  ·exact all_track_model_scores m0 m1 m2 m3 m4 m5 m6 m7 m8 m9 m10 m11 b0 b1 b2 b3 b4 b5 (listC n_l mkHit c_l) hp
 ·cases h
def Sku41 : Sum := addS Sks40 64 con_track_model_scores
theorem VSku41 : Valid Try.prog Sku41 := Valid.add VSks40 ok_track_model_scores
def vc_track_ScoresIn (m0 m1 m2 m3 m4 m5 m6 m7 m8 m9 m10 m11 : Int) (b0 b1 b2 b3 b4 b5 : Int) (l : List THit) (post : DV → Prop) : Prop := (numsP 5 l.length (hitsC l)) ∧ (lt ((sqsW (⟨⟨b0, b1, b2⟩, ⟨b3, b4, b5⟩⟩ : TBox)).lo) fun x1 => lt ((sqsW (⟨⟨b0, b1, b2⟩, ⟨b3, b4, b5⟩⟩ : TBox)).hi) fun x2 => lt (canW (⟨m0, m1, m2, m3, m4, m5, m6, m7, m8, m9, m10, m11⟩ : TMod) (⟨⟨b0, b1, b2⟩, ⟨b3, b4, b5⟩⟩ : TBox)) fun x3 => (numsP 1 2 (genC [[.v (.int .i64 (firstNZ [firstNZ [((⟨m0, m1, m2, m3, m4, m5, m6, m7, m8, m9, m10, m11⟩ : TMod)).err, ((⟨⟨b0, b1, b2⟩, ⟨b3, b4, b5⟩⟩ : TBox)).err], hitsE (listC l.length mkHit (hitsC l))]))], [.v (.int .i64 (unl x3 (12 : Int)))]]) ∧ (([(firstNZ [firstNZ [((⟨m0, m1, m2, m3, m4, m5, m6, m7, m8, m9, m10, m11⟩ : TMod)).err, ((⟨⟨b0, b1, b2⟩, ⟨b3, b4, b5⟩⟩ : TBox)).err], hitsE (listC l.length mkHit (hitsC l))]), (unl x3 (12 : Int))] : List Int)).length ≤ 100) ∧ (cond ((firstNZ ([(firstNZ [firstNZ [((⟨m0, m1, m2, m3, m4, m5, m6, m7, m8, m9, m10, m11⟩ : TMod)).err, ((⟨⟨b0, b1, b2⟩, ⟨b3, b4, b5⟩⟩ : TBox)).err], hitsE (listC l.length mkHit (hitsC l))]), (unl x3 (12 : Int))] : List Int)) != (0 : Int)) (post (.tu [.a [.v (.int .i64 0), .v (.int .i64 0)], .c (.v (.int .i64 (firstNZ ([(firstNZ [firstNZ [((⟨m0, m1, m2, m3, m4, m5, m6, m7, m8, m9, m10, m11⟩ : TMod)).err, ((⟨⟨b0, b1, b2⟩, ⟨b3, b4, b5⟩⟩ : TBox)).err], hitsE (listC l.length mkHit (hitsC l))]), (unl x3 (12 : Int))] : List Int))))])) ((numsP 5 l.length (hitsC l) ∧ ((⟨m0, m1, m2, m3, m4, m5, m6, m7, m8, m9, m10, m11⟩ : TMod)).Ok ∧ ((⟨⟨b0, b1, b2⟩, ⟨b3, b4, b5⟩⟩ : TBox)).lo.inS 20 = true ∧ ((⟨⟨b0, b1, b2⟩, ⟨b3, b4, b5⟩⟩ : TBox)).hi.inS 20 = true ∧ ((⟨m0, m1, m2, m3, m4, m5, m6, m7, m8, m9, m10, m11⟩ : TMod)).canBe (⟨⟨b0, b1, b2⟩, ⟨b3, b4, b5⟩⟩ : TBox) ∧ ((listC l.length mkHit (hitsC l))).length ≤ 12 ∧ ∀ i, i < ((listC l.length mkHit (hitsC l))).length → (hitAt (listC l.length mkHit (hitsC l)) i).Ok) ∧ (post (.tu [.a [.v (.int .i64 ((((⟨m0, m1, m2, m3, m4, m5, m6, m7, m8, m9, m10, m11⟩ : TMod)).scores (⟨⟨b0, b1, b2⟩, ⟨b3, b4, b5⟩⟩ : TBox) (listC l.length mkHit (hitsC l))).lo)), .v (.int .i64 ((((⟨m0, m1, m2, m3, m4, m5, m6, m7, m8, m9, m10, m11⟩ : TMod)).scores (⟨⟨b0, b1, b2⟩, ⟨b3, b4, b5⟩⟩ : TBox) (listC l.length mkHit (hitsC l))).hi))], .c (.v (.int .i64 0))])))))
def ann_track_ScoresIn : Ann := ⟨fun _ => none, fun _ => none, fun _ => [], noIt, false, fun _ => none, fun _ => none⟩
theorem ev_track_ScoresIn (J : Inv) (m0 m1 m2 m3 m4 m5 m6 m7 m8 m9 m10 m11 : Int) (b0 b1 b2 b3 b4 b5 : Int) (l : List THit) (post : DV → Prop) : evFn Try.prog tab Sku41 ann_track_ScoresIn J Try.f28 [.t (.a [.v (.int .i64 m0), .v (.int .i64 m1), .v (.int .i64 m2), .v (.int .i64 m3), .v (.int .i64 m4), .v (.int .i64 m5), .v (.int .i64 m6), .v (.int .i64 m7), .v (.int .i64 m8), .v (.int .i64 m9), .v (.int .i64 m10), .v (.int .i64 m11)]), .t (.a [.v (.int .i64 b0), .v (.int .i64 b1), .v (.int .i64 b2), .v (.int .i64 b3), .v (.int .i64 b4), .v (.int .i64 b5)]), .t (.c (.sl 5 l.length (hitsC l)))] post = vc_track_ScoresIn m0 m1 m2 m3 m4 m5 m6 m7 m8 m9 m10 m11 b0 b1 b2 b3 b4 b5 l post := by kernel_rfl
theorem fit_track_ScoresIn : okFn ann_track_ScoresIn Try.f28 = true := by kernel_rfl
theorem lp_track_ScoresIn (J : Inv) (post : DV → Prop) : AllG J (loopsFn Try.prog tab Sku41 ann_track_ScoresIn J Try.f28 post) = (True) := by kernel_rfl
theorem spec_track_ScoresIn (m0 m1 m2 m3 m4 m5 m6 m7 m8 m9 m10 m11 : Int) (b0 b1 b2 b3 b4 b5 : Int) (l : List THit) : vc_track_ScoresIn m0 m1 m2 m3 m4 m5 m6 m7 m8 m9 m10 m11 b0 b1 b2 b3 b4 b5 l (fun r => LeD r (.tu [.a [.v (.int .i64 (((⟨m0, m1, m2, m3, m4, m5, m6, m7, m8, m9, m10, m11⟩ : TMod)).siL (⟨⟨b0, b1, b2⟩, ⟨b3, b4, b5⟩⟩ : TBox) l)), .v (.int .i64 (((⟨m0, m1, m2, m3, m4, m5, m6, m7, m8, m9, m10, m11⟩ : TMod)).siH (⟨⟨b0, b1, b2⟩, ⟨b3, b4, b5⟩⟩ : TBox) l))], .c (.v (.int .i64 (((⟨m0, m1, m2, m3, m4, m5, m6, m7, m8, m9, m10, m11⟩ : TMod)).siE (⟨⟨b0, b1, b2⟩, ⟨b3, b4, b5⟩⟩ : TBox) l)))])) := by
 unfold vc_track_ScoresIn
 simp only [hits_listC]
 refine ⟨numsP_hits l, lt_i fun x1 h1 => lt_i fun x2 h2 => lt_i fun x3 h3 => ⟨⟨numsP_gen [_, _], Nat.le_of_ble_eq_true rfl⟩, ?_⟩⟩
 subst h1 h2 h3
 have e : firstNZ ([firstNZ [firstNZ [((⟨m0, m1, m2, m3, m4, m5, m6, m7, m8, m9, m10, m11⟩ : TMod)).err, ((⟨⟨b0, b1, b2⟩, ⟨b3, b4, b5⟩⟩ : TBox)).err], hitsE l], unl (canW (⟨m0, m1, m2, m3, m4, m5, m6, m7, m8, m9, m10, m11⟩ : TMod) (⟨⟨b0, b1, b2⟩, ⟨b3, b4, b5⟩⟩ : TBox)) 12] : List Int) = ((⟨m0, m1, m2, m3, m4, m5, m6, m7, m8, m9, m10, m11⟩ : TMod)).siE ((⟨⟨b0, b1, b2⟩, ⟨b3, b4, b5⟩⟩ : TBox)) l := rfl
 rw [e]
 refine cond_i (fun h => ?_) (fun h => ?_)
 ·have h : ((⟨m0, m1, m2, m3, m4, m5, m6, m7, m8, m9, m10, m11⟩ : TMod)).siE ((⟨⟨b0, b1, b2⟩, ⟨b3, b4, b5⟩⟩ : TBox)) l ≠ 0 := by simpa using h
  rw [show ((⟨m0, m1, m2, m3, m4, m5, m6, m7, m8, m9, m10, m11⟩ : TMod)).siL ((⟨⟨b0, b1, b2⟩, ⟨b3, b4, b5⟩⟩ : TBox)) l = 0 from if_neg h, show ((⟨m0, m1, m2, m3, m4, m5, m6, m7, m8, m9, m10, m11⟩ : TMod)).siH ((⟨⟨b0, b1, b2⟩, ⟨b3, b4, b5⟩⟩ : TBox)) l = 0 from if_neg h]
  exact LeD.refl _
 ·have h : ((⟨m0, m1, m2, m3, m4, m5, m6, m7, m8, m9, m10, m11⟩ : TMod)).siE ((⟨⟨b0, b1, b2⟩, ⟨b3, b4, b5⟩⟩ : TBox)) l = 0 := by simpa using h
  obtain ⟨r1, r2, r3, r4, r5, r6, _⟩ := si_ok h
  rw [show ((⟨m0, m1, m2, m3, m4, m5, m6, m7, m8, m9, m10, m11⟩ : TMod)).siL ((⟨⟨b0, b1, b2⟩, ⟨b3, b4, b5⟩⟩ : TBox)) l = _ from if_pos h, show ((⟨m0, m1, m2, m3, m4, m5, m6, m7, m8, m9, m10, m11⟩ : TMod)).siH ((⟨⟨b0, b1, b2⟩, ⟨b3, b4, b5⟩⟩ : TBox)) l = _ from if_pos h, h]
  exact ⟨⟨numsP_hits l, r1, r2, r3, r4, r5, r6⟩, LeD.refl _⟩
def con_track_ScoresIn : Con := fun args => match args with
 | [.t (.a [.v (.int .i64 m0), .v (.int .i64 m1), .v (.int .i64 m2), .v (.int .i64 m3), .v (.int .i64 m4), .v (.int .i64 m5), .v (.int .i64 m6), .v (.int .i64 m7), .v (.int .i64 m8), .v (.int .i64 m9), .v (.int .i64 m10), .v (.int .i64 m11)]), .t (.a [.v (.int .i64 b0), .v (.int .i64 b1), .v (.int .i64 b2), .v (.int .i64 b3), .v (.int .i64 b4), .v (.int .i64 b5)]), .t (.c (.sl 5 n_l c_l))] => some (.tu [.a [.v (.int .i64 (((⟨m0, m1, m2, m3, m4, m5, m6, m7, m8, m9, m10, m11⟩ : TMod)).siL (⟨⟨b0, b1, b2⟩, ⟨b3, b4, b5⟩⟩ : TBox) (listC n_l mkHit c_l))), .v (.int .i64 (((⟨m0, m1, m2, m3, m4, m5, m6, m7, m8, m9, m10, m11⟩ : TMod)).siH (⟨⟨b0, b1, b2⟩, ⟨b3, b4, b5⟩⟩ : TBox) (listC n_l mkHit c_l)))], .c (.v (.int .i64 (((⟨m0, m1, m2, m3, m4, m5, m6, m7, m8, m9, m10, m11⟩ : TMod)).siE (⟨⟨b0, b1, b2⟩, ⟨b3, b4, b5⟩⟩ : TBox) (listC n_l mkHit c_l))))], some (numsP 5 n_l c_l), false)
 | _ => none
theorem ok_track_ScoresIn : Ok Try.prog 28 con_track_ScoresIn := by
 refine Ok.fn (ann := ann_track_ScoresIn) mixed tabOK VSku41 ValidIt.no (fn := Try.f28) (by kernel_rfl) (by kernel_rfl) fit_track_ScoresIn fun args r pre fresh h hp => ?_
 unfold con_track_ScoresIn at h
 split at h
 ·rename_i m0 m1 m2 m3 m4 m5 m6 m7 m8 m9 m10 m11 b0 b1 b2 b3 b4 b5 n_l c_l
  cases h
  have hp0 := hp
  refine ⟨rfl, fun _ _ _ => False, [.t (.a [.v (.int .i64 m0), .v (.int .i64 m1), .v (.int .i64 m2), .v (.int .i64 m3), .v (.int .i64 m4), .v (.int .i64 m5), .v (.int .i64 m6), .v (.int .i64 m7), .v (.int .i64 m8), .v (.int .i64 m9), .v (.int .i64 m10), .v (.int .i64 m11)]), .t (.a [.v (.int .i64 b0), .v (.int .i64 b1), .v (.int .i64 b2), .v (.int .i64 b3), .v (.int .i64 b4), .v (.int .i64 b5)]), .t (.c (.sl 5 ((listC n_l mkHit c_l).length) (hitsC (listC n_l mkHit c_l))))], ?_, Nat.le_of_ble_eq_true (by kernel_rfl), ?_, ?_⟩
  ·exact (LeA_cons (LeD.refl _) (LeA_cons (LeD.refl _) (LeA_cons (leT_c ((leL_THit hp0))) LeA_nil)))
  ·rw [ev_track_ScoresIn]; exact spec_track_ScoresIn m0 m1 m2 m3 m4 m5 m6 m7 m8 m9 m10 m11 b0 b1 b2 b3 b4 b5 (listC n_l mkHit c_l)
  ·rw [lp_track_ScoresIn]; trivial
 ·cases h
def Sku42 : Sum := addS Sku41 28 con_track_ScoresIn
theorem VSku42 : Valid Try.prog Sku42 := Valid.add VSku41 ok_track_ScoresIn
def vc_law05_Model  (post : DV → Prop) : Prop := post (.t (.a [.v (.int .i64 0), .v (.int .i64 0), .v (.int .i64 0), .v (.int .i64 0), .v (.int .i64 1), .v (.int .i64 25), .v (.int .i64 50), .v (.int .i64 9), .v (.int .i64 0), .v (.int .i64 0), .v (.int .i64 1), .v (.int .i64 2)]))
def ann_law05_Model : Ann := ⟨fun _ => none, fun _ => none, fun _ => [], noIt, false, fun _ => none, fun _ => none⟩
theorem ev_law05_Model (J : Inv)  (post : DV → Prop) : evFn Try.prog tab Sku42 ann_law05_Model J Try.f25 [] post = vc_law05_Model  post := by kernel_rfl
theorem fit_law05_Model : okFn ann_law05_Model Try.f25 = true := by kernel_rfl
theorem lp_law05_Model (J : Inv) (post : DV → Prop) : AllG J (loopsFn Try.prog tab Sku42 ann_law05_Model J Try.f25 post) = (True) := by kernel_rfl
theorem spec_law05_Model  : vc_law05_Model  (fun r => LeD r (.t (.a [.v (.int .i64 0), .v (.int .i64 0), .v (.int .i64 0), .v (.int .i64 0), .v (.int .i64 1), .v (.int .i64 25), .v (.int .i64 50), .v (.int .i64 9), .v (.int .i64 0), .v (.int .i64 0), .v (.int .i64 1), .v (.int .i64 2)]))) := by
 exact LeD.refl _
def con_law05_Model : Con := fun args => match args with
 | [] => some (.t (.a [.v (.int .i64 0), .v (.int .i64 0), .v (.int .i64 0), .v (.int .i64 0), .v (.int .i64 1), .v (.int .i64 25), .v (.int .i64 50), .v (.int .i64 9), .v (.int .i64 0), .v (.int .i64 0), .v (.int .i64 1), .v (.int .i64 2)]), none, false)
 | _ => none
theorem ok_law05_Model : Ok Try.prog 25 con_law05_Model := by
 refine Ok.fn (ann := ann_law05_Model) mixed tabOK VSku42 ValidIt.no (fn := Try.f25) (by kernel_rfl) (by kernel_rfl) fit_law05_Model fun args r pre fresh h hp => ?_
 unfold con_law05_Model at h
 split at h
 ·cases h
  refine ⟨rfl, fun _ _ _ => False, _, LeA.refl _, Nat.le_of_ble_eq_true (by kernel_rfl), ?_, ?_⟩
  ·rw [ev_law05_Model]; exact spec_law05_Model 
  ·rw [lp_law05_Model]; trivial
 ·cases h
def Sku43 : Sum := addS Sku42 25 con_law05_Model
theorem VSku43 : Valid Try.prog Sku43 := Valid.add VSku42 ok_law05_Model
def vc_law05_Hits  (post : DV → Prop) : Prop := post (.t (.c (.sl 5 2 (genC [[.v (.int .i64 0), .v (.int .i64 12), .v (.int .i64 0), .v (.int .i64 4), .v (.int .i64 1)], [.v (.int .i64 5), .v (.int .i64 0), .v (.int .i64 0), .v (.int .i64 0), .v (.int .i64 3)]]))))
def ann_law05_Hits : Ann := ⟨fun _ => none, fun _ => none, fun _ => [], noIt, true, fun _ => none, fun _ => none⟩
theorem ev_law05_Hits (J : Inv)  (post : DV → Prop) : evFn Try.prog tab Sku43 ann_law05_Hits J Try.f27 [] post = vc_law05_Hits  post := by kernel_rfl
theorem fit_law05_Hits : okFn ann_law05_Hits Try.f27 = true := by kernel_rfl
theorem lp_law05_Hits (J : Inv) (post : DV → Prop) : AllG J (loopsFn Try.prog tab Sku43 ann_law05_Hits J Try.f27 post) = (True) := by kernel_rfl
theorem spec_law05_Hits  : vc_law05_Hits  (fun r => LeD r (.t (.c (.sl 5 exH.length (hitsC exH))))) := by
 exact le_hits exH
def con_law05_Hits : Con := fun args => match args with
 | [] => some (.t (.c (.sl 5 exH.length (hitsC exH))), none, true)
 | _ => none
theorem ok_law05_Hits : Ok Try.prog 27 con_law05_Hits := by
 refine Ok.fnFr (ann := ann_law05_Hits) mixed tabOK VSku43 ValidIt.no rfl (fn := Try.f27) (by kernel_rfl) (by kernel_rfl) fit_law05_Hits fun args r pre fresh h hp => ?_
 unfold con_law05_Hits at h
 split at h
 ·cases h
  refine ⟨rfl, (fun i j _ hj => plain_THit _ i j), fun _ _ _ => False, _, LeA.refl _, Nat.le_of_ble_eq_true (by kernel_rfl), ?_, ?_⟩
  ·rw [ev_law05_Hits]; exact spec_law05_Hits 
  ·rw [lp_law05_Hits]; trivial
 ·cases h
def Sku44 : Sum := addS Sku43 27 con_law05_Hits
theorem VSku44 : Valid Try.prog Sku44 := Valid.add VSku43 ok_law05_Hits
def con_track_FirstAt_x : Con := fun args => match args with
 | [.t (.a [.v (.int .i64 m0), .v (.int .i64 m1), .v (.int .i64 m2), .v (.int .i64 m3), .v (.int .i64 m4), .v (.int .i64 m5), .v (.int .i64 m6), .v (.int .i64 m7), .v (.int .i64 m8), .v (.int .i64 m9), .v (.int .i64 m10), .v (.int .i64 m11)]), .t (.a [.v (.int .i64 s0), .v (.int .i64 s1), .v (.int .i64 s2)]), .t (.a [.v (.int .i64 p0), .v (.int .i64 p1), .v (.int .i64 p2)])] => some (.tu [.c (.v (.int .i64 4)), .c (.v (.int .i64 0))], some (((⟨m0, m1, m2, m3, m4, m5, m6, m7, m8, m9, m10, m11⟩ : TMod)).fE (⟨s0, s1, s2⟩ : V3) (⟨p0, p1, p2⟩ : V3) = 0 ∧ ((⟨m0, m1, m2, m3, m4, m5, m6, m7, m8, m9, m10, m11⟩ : TMod)).fV (⟨s0, s1, s2⟩ : V3) (⟨p0, p1, p2⟩ : V3) = 4), false)
 | _ => none
theorem ok_track_FirstAt_x : Ok Try.prog 24 con_track_FirstAt_x := by
 refine Ok.over ok_track_FirstAt fun args r pre fresh h hp => ?_
 unfold con_track_FirstAt_x at h
 split at h
 ·rename_i m0 m1 m2 m3 m4 m5 m6 m7 m8 m9 m10 m11 s0 s1 s2 p0 p1 p2
  cases h
  have hq := hp
  (try simp only [okP] at hq)
  refine ⟨_, _, rfl, trivial, ?_⟩
  simp_all
 ·cases h
def Sku45 : Sum := addS Sku44 24 con_track_FirstAt_x
theorem VSku45 : Valid Try.prog Sku45 := Valid.add VSku44 ok_track_FirstAt_x
def con_track_NearestTo_x : Con := fun args => match args with
 | [.t (.a [.v (.int .i64 m0), .v (.int .i64 m1), .v (.int .i64 m2), .v (.int .i64 m3), .v (.int .i64 m4), .v (.int .i64 m5), .v (.int .i64 m6), .v (.int .i64 m7), .v (.int .i64 m8), .v (.int .i64 m9), .v (.int .i64 m10), .v (.int .i64 m11)]), .t (.a [.v (.int .i64 s0), .v (.int .i64 s1), .v (.int .i64 s2)]), .t (.a [.v (.int .i64 p0), .v (.int .i64 p1), .v (.int .i64 p2)])] => some (.tu [.a [.v (.int .i64 144), .v (.int .i64 1)], .c (.v (.int .i64 0))], some (((⟨m0, m1, m2, m3, m4, m5, m6, m7, m8, m9, m10, m11⟩ : TMod)).nE (⟨s0, s1, s2⟩ : V3) (⟨p0, p1, p2⟩ : V3) = 0 ∧ ((⟨m0, m1, m2, m3, m4, m5, m6, m7, m8, m9, m10, m11⟩ : TMod)).nN (⟨s0, s1, s2⟩ : V3) (⟨p0, p1, p2⟩ : V3) = 144 ∧ ((⟨m0, m1, m2, m3, m4, m5, m6, m7, m8, m9, m10, m11⟩ : TMod)).nD (⟨s0, s1, s2⟩ : V3) (⟨p0, p1, p2⟩ : V3) = 1), false)
 | _ => none
theorem ok_track_NearestTo_x : Ok Try.prog 26 con_track_NearestTo_x := by
 refine Ok.over ok_track_NearestTo fun args r pre fresh h hp => ?_
 unfold con_track_NearestTo_x at h
 split at h
 ·rename_i m0 m1 m2 m3 m4 m5 m6 m7 m8 m9 m10 m11 s0 s1 s2 p0 p1 p2
  cases h
  have hq := hp
  (try simp only [okP] at hq)
  refine ⟨_, _, rfl, trivial, ?_⟩
  simp_all
 ·cases h
def Sku46 : Sum := addS Sku45 26 con_track_NearestTo_x
theorem VSku46 : Valid Try.prog Sku46 := Valid.add VSku45 ok_track_NearestTo_x
def con_track_ScoreOf_x : Con := fun args => match args with
 | [.t (.a [.v (.int .i64 m0), .v (.int .i64 m1), .v (.int .i64 m2), .v (.int .i64 m3), .v (.int .i64 m4), .v (.int .i64 m5), .v (.int .i64 m6), .v (.int .i64 m7), .v (.int .i64 m8), .v (.int .i64 m9), .v (.int .i64 m10), .v (.int .i64 m11)]), .t (.a [.v (.int .i64 s0), .v (.int .i64 s1), .v (.int .i64 s2)]), .t (.c (.sl 5 n_l c_l))] => some (.tu [.c (.v (.int .i64 6)), .c (.v (.int .i64 0))], some (numsP 5 n_l c_l ∧ ((⟨m0, m1, m2, m3, m4, m5, m6, m7, m8, m9, m10, m11⟩ : TMod)).sE (⟨s0, s1, s2⟩ : V3) (listC n_l mkHit c_l) = 0 ∧ ((⟨m0, m1, m2, m3, m4, m5, m6, m7, m8, m9, m10, m11⟩ : TMod)).sV (⟨s0, s1, s2⟩ : V3) (listC n_l mkHit c_l) = 6), false)
 | _ => none
theorem ok_track_ScoreOf_x : Ok Try.prog 21 con_track_ScoreOf_x := by
 refine Ok.over ok_track_ScoreOf fun args r pre fresh h hp => ?_
 unfold con_track_ScoreOf_x at h
 split at h
 ·rename_i m0 m1 m2 m3 m4 m5 m6 m7 m8 m9 m10 m11 s0 s1 s2 n_l c_l
  cases h
  have hq := hp.2
  (try simp only [okP] at hq)
  refine ⟨_, _, rfl, hp.1, ?_⟩
  simp_all
 ·cases h
def Sku47 : Sum := addS Sku46 21 con_track_ScoreOf_x
theorem VSku47 : Valid Try.prog Sku47 := Valid.add VSku46 ok_track_ScoreOf_x
def con_track_ScoresIn_x : Con := fun args => match args with
 | [.t (.a [.v (.int .i64 m0), .v (.int .i64 m1), .v (.int .i64 m2), .v (.int .i64 m3), .v (.int .i64 m4), .v (.int .i64 m5), .v (.int .i64 m6), .v (.int .i64 m7), .v (.int .i64 m8), .v (.int .i64 m9), .v (.int .i64 m10), .v (.int .i64 m11)]), .t (.a [.v (.int .i64 b0), .v (.int .i64 b1), .v (.int .i64 b2), .v (.int .i64 b3), .v (.int .i64 b4), .v (.int .i64 b5)]), .t (.c (.sl 5 n_l c_l))] => some (.tu [.a [.v (.int .i64 6), .v (.int .i64 6)], .c (.v (.int .i64 0))], some (numsP 5 n_l c_l ∧ ((⟨m0, m1, m2, m3, m4, m5, m6, m7, m8, m9, m10, m11⟩ : TMod)).siE (⟨⟨b0, b1, b2⟩, ⟨b3, b4, b5⟩⟩ : TBox) (listC n_l mkHit c_l) = 0 ∧ ((⟨m0, m1, m2, m3, m4, m5, m6, m7, m8, m9, m10, m11⟩ : TMod)).siL (⟨⟨b0, b1, b2⟩, ⟨b3, b4, b5⟩⟩ : TBox) (listC n_l mkHit c_l) = 6 ∧ ((⟨m0, m1, m2, m3, m4, m5, m6, m7, m8, m9, m10, m11⟩ : TMod)).siH (⟨⟨b0, b1, b2⟩, ⟨b3, b4, b5⟩⟩ : TBox) (listC n_l mkHit c_l) = 6), false)
 | _ => none
theorem ok_track_ScoresIn_x : Ok Try.prog 28 con_track_ScoresIn_x := by
 refine Ok.over ok_track_ScoresIn fun args r pre fresh h hp => ?_
 unfold con_track_ScoresIn_x at h
 split at h
 ·rename_i m0 m1 m2 m3 m4 m5 m6 m7 m8 m9 m10 m11 b0 b1 b2 b3 b4 b5 n_l c_l
  cases h
  have hq := hp.2
  (try simp only [okP] at hq)
  refine ⟨_, _, rfl, hp.1, ?_⟩
  simp_all
 ·cases h
def Sku48 : Sum := addS Sku47 28 con_track_ScoresIn_x
theorem VSku48 : Valid Try.prog Sku48 := Valid.add VSku47 ok_track_ScoresIn_x
def vc_law05_awake  (post : DV → Prop) : Prop := (((⟨(0 : Int), (0 : Int), (0 : Int), (0 : Int), (1 : Int), (25 : Int), (50 : Int), (9 : Int), (0 : Int), (0 : Int), (1 : Int), (2 : Int)⟩ : TMod)).fE (⟨(5 : Int), (0 : Int), (0 : Int)⟩ : V3) (⟨(0 : Int), (12 : Int), (0 : Int)⟩ : V3) = 0 ∧ ((⟨(0 : Int), (0 : Int), (0 : Int), (0 : Int), (1 : Int), (25 : Int), (50 : Int), (9 : Int), (0 : Int), (0 : Int), (1 : Int), (2 : Int)⟩ : TMod)).fV (⟨(5 : Int), (0 : Int), (0 : Int)⟩ : V3) (⟨(0 : Int), (12 : Int), (0 : Int)⟩ : V3) = 4) ∧ ((((⟨(0 : Int), (0 : Int), (0 : Int), (0 : Int), (1 : Int), (25 : Int), (50 : Int), (9 : Int), (0 : Int), (0 : Int), (1 : Int), (2 : Int)⟩ : TMod)).nE (⟨(5 : Int), (0 : Int), (0 : Int)⟩ : V3) (⟨(7 : Int), (12 : Int), (0 : Int)⟩ : V3) = 0 ∧ ((⟨(0 : Int), (0 : Int), (0 : Int), (0 : Int), (1 : Int), (25 : Int), (50 : Int), (9 : Int), (0 : Int), (0 : Int), (1 : Int), (2 : Int)⟩ : TMod)).nN (⟨(5 : Int), (0 : Int), (0 : Int)⟩ : V3) (⟨(7 : Int), (12 : Int), (0 : Int)⟩ : V3) = 144 ∧ ((⟨(0 : Int), (0 : Int), (0 : Int), (0 : Int), (1 : Int), (25 : Int), (50 : Int), (9 : Int), (0 : Int), (0 : Int), (1 : Int), (2 : Int)⟩ : TMod)).nD (⟨(5 : Int), (0 : Int), (0 : Int)⟩ : V3) (⟨(7 : Int), (12 : Int), (0 : Int)⟩ : V3) = 1) ∧ ((numsP 5 exH.length (hitsC exH) ∧ ((⟨(0 : Int), (0 : Int), (0 : Int), (0 : Int), (1 : Int), (25 : Int), (50 : Int), (9 : Int), (0 : Int), (0 : Int), (1 : Int), (2 : Int)⟩ : TMod)).sE (⟨(5 : Int), (0 : Int), (0 : Int)⟩ : V3) (listC exH.length mkHit (hitsC exH)) = 0 ∧ ((⟨(0 : Int), (0 : Int), (0 : Int), (0 : Int), (1 : Int), (25 : Int), (50 : Int), (9 : Int), (0 : Int), (0 : Int), (1 : Int), (2 : Int)⟩ : TMod)).sV (⟨(5 : Int), (0 : Int), (0 : Int)⟩ : V3) (listC exH.length mkHit (hitsC exH)) = 6) ∧ ((numsP 5 exH.length (hitsC exH) ∧ ((⟨(0 : Int), (0 : Int), (0 : Int), (0 : Int), (1 : Int), (25 : Int), (50 : Int), (9 : Int), (0 : Int), (0 : Int), (1 : Int), (2 : Int)⟩ : TMod)).siE (⟨⟨(5 : Int), (0 : Int), (0 : Int)⟩, ⟨(5 : Int), (0 : Int), (0 : Int)⟩⟩ : TBox) (listC exH.length mkHit (hitsC exH)) = 0 ∧ ((⟨(0 : Int), (0 : Int), (0 : Int), (0 : Int), (1 : Int), (25 : Int), (50 : Int), (9 : Int), (0 : Int), (0 : Int), (1 : Int), (2 : Int)⟩ : TMod)).siL (⟨⟨(5 : Int), (0 : Int), (0 : Int)⟩, ⟨(5 : Int), (0 : Int), (0 : Int)⟩⟩ : TBox) (listC exH.length mkHit (hitsC exH)) = 6 ∧ ((⟨(0 : Int), (0 : Int), (0 : Int), (0 : Int), (1 : Int), (25 : Int), (50 : Int), (9 : Int), (0 : Int), (0 : Int), (1 : Int), (2 : Int)⟩ : TMod)).siH (⟨⟨(5 : Int), (0 : Int), (0 : Int)⟩, ⟨(5 : Int), (0 : Int), (0 : Int)⟩⟩ : TBox) (listC exH.length mkHit (hitsC exH)) = 6) ∧ (cond (bif true then (bif true then true else false) else false) (post (.t (.c (.v (.bool (bif true then (bif true then true else false) else false)))))) ((false = false) ∧ ((false = false) ∧ ((false = false) ∧ ((false = false) ∧ (post (.t (.c (.v (.bool false)))))))))))))
def ann_law05_awake : Ann := ⟨fun _ => none, fun _ => none, fun _ => [], noIt, false, fun _ => none, fun _ => none⟩
theorem ev_law05_awake (J : Inv)  (post : DV → Prop) : evFn Try.prog tab Sku48 ann_law05_awake J Try.f5 [] post = vc_law05_awake  post := by kernel_rfl
theorem fit_law05_awake : okFn ann_law05_awake Try.f5 = true := by kernel_rfl
theorem lp_law05_awake (J : Inv) (post : DV → Prop) : AllG J (loopsFn Try.prog tab Sku48 ann_law05_awake J Try.f5 post) = (True) := by kernel_rfl
set_option maxHeartbeats 8000000 in
set_option maxRecDepth 100000 in
theorem spec_law05_awake  : vc_law05_awake  (fun r => LeD r (.t (.c (.v (.bool true))))) := by
 unfold vc_law05_awake
 simp only [hits_listC]
 obtain ⟨a1, a2, a3, a4, a5, a6, a7, a8, a9, a10⟩ := ex_all
 exact ⟨⟨a1, a2⟩, ⟨a3, a4, a5⟩, ⟨numsP_hits _, a6, a7⟩, ⟨numsP_hits _, a8, a9, a10⟩, cond_t rfl (LeD.refl _)⟩
def con_law05_awake : Con := fun args => match args with
 | [] => some (.t (.c (.v (.bool true))), none, false)
 | _ => none
theorem ok_law05_awake : Ok Try.prog 5 con_law05_awake := by
 refine Ok.fn (ann := ann_law05_awake) mixed tabOK VSku48 ValidIt.no (fn := Try.f5) (by kernel_rfl) (by kernel_rfl) fit_law05_awake fun args r pre fresh h hp => ?_
 unfold con_law05_awake at h
 split at h
 ·cases h
  refine ⟨rfl, fun _ _ _ => False, _, LeA.refl _, Nat.le_of_ble_eq_true (by kernel_rfl), ?_, ?_⟩
  ·rw [ev_law05_awake]; exact spec_law05_awake 
  ·rw [lp_law05_awake]; trivial
 ·cases h
def Sku50 : Sum := addS Sku44 5 con_law05_awake
theorem VSku50 : Valid Try.prog Sku50 := Valid.add VSku44 ok_law05_awake
end Go.Proofs.Ytfadkjcfjkmalaa