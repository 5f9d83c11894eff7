/- Texts of this claim, together. -/
import Derived.Test.YtfadkjcfjkmalaaGreatDoorLT9
import Derived.Lib.AtoiAllCases
import Derived.Lib.AtoiTie
import Derived.Lib.ItoaNum
import Derived.Lib.Split
import Derived.Lib.Join
import Derived.Laws.StructEq
import Derived.Test.YtfadkjcfjkmalaaGreatDoorLT6
import Derived.Test.YtfadkjcfjkmalaaGreatDoorLT7
import Derived.Lib.SmallJoins

set_option maxRecDepth 100000
set_option linter.unusedVariables false
set_option linter.unusedSimpArgs false
namespace Go.Proofs.YtfadkjcfjkmalaaGreatDoor
open Go.RowKit Ev
def sqW (lo hi : Int) : Rg := if lo ≤ 0 ∧ hi ≥ 0 then ⟨0, max (wr (lo * lo)) (wr (hi * hi))⟩ else ⟨min (wr (lo * lo)) (wr (hi * hi)), max (wr (lo * lo)) (wr (hi * hi))⟩
def Rg.plusW (r s : Rg) : Rg := ⟨wr (r.lo + s.lo), wr (r.hi + s.hi)⟩
def sqsW (b : TB) : Rg := ((Rg.plusW ⟨0, 0⟩ (sqW b.lo.x b.hi.x)).plusW (sqW b.lo.y b.hi.y)).plusW (sqW b.lo.z b.hi.z)
def canW (m : TM) (b : TB) : Bool := decide ((sqsW b).hi ≥ m.lo) && decide ((sqsW b).lo ≤ m.hi)
theorem bw {r : Rg} {A B : Int} (h : A ≤ B) (g : r.bd A) : r.bd B := by unfold Rg.bd at *; omega
theorem qgq {r : Rg} {A C : Int} (h : r.bd A) (hC : A * A ≤ C) (hm : C ≤ 4000000000000000000) : sqW r.lo r.hi = r.square := by
 have m1 := qv h.1 h.1 hC
 have m2 := qv h.2 h.2 hC
 have e1 : wr (r.lo * r.lo) = r.lo * r.lo := IntWalk.i64_in _ (by omega)
 have e2 : wr (r.hi * r.hi) = r.hi * r.hi := IntWalk.i64_in _ (by omega)
 unfold sqW Rg.square
 rw [e1, e2]
theorem q6I {r s : Rg} {A B : Int} (h : r.bd A) (g : s.bd B) (hm : A + B ≤ 8000000000000000000) : r.plusW s = r.plus s := by
 unfold Rg.bd at h g
 have e1 : wr (r.lo + s.lo) = r.lo + s.lo := IntWalk.i64_in _ (by omega)
 have e2 : wr (r.hi + s.hi) = r.hi + s.hi := IntWalk.i64_in _ (by omega)
 unfold Rg.plusW Rg.plus
 rw [e1, e2]
theorem sqsW_eq {b : TB} (hl : b.lo.inS 20 = true) (hh : b.hi.inS 20 = true) : sqsW b = b.squares := by
 obtain ⟨a1, a2, a3⟩ := qn.1 hl
 obtain ⟨b1, b2, b3⟩ := qn.1 hh
 have r1 : b.rx.bd 20 := ⟨a1, b1⟩
 have r2 : b.ry.bd 20 := ⟨a2, b2⟩
 have r3 : b.rz.bd 20 := ⟨a3, b3⟩
 have s1 := (Rg.square_bd r1 (C := 400) (by decide)).1
 have s2 := (Rg.square_bd r2 (C := 400) (by decide)).1
 have s3 := (Rg.square_bd r3 (C := 400) (by decide)).1
 have z : (Rg.mk 0 0).bd 0 := by unfold Rg.bd; simp
 have p1 := Rg.plus_bd z s1 (C := 400) (by decide)
 have p2 := Rg.plus_bd p1 s2 (C := 800) (by decide)
 have e1 : sqW b.lo.x b.hi.x = b.rx.square := qgq r1 (C := 400) (by decide) (by decide)
 have e2 : sqW b.lo.y b.hi.y = b.ry.square := qgq r2 (C := 400) (by decide) (by decide)
 have e3 : sqW b.lo.z b.hi.z = b.rz.square := qgq r3 (C := 400) (by decide) (by decide)
 unfold sqsW TB.squares
 rw [e1, e2, e3, q6I z s1 (by decide), q6I p1 s2 (by decide), q6I p2 s3 (by decide)]
theorem q6J {m : TM} {b : TB} (hl : b.lo.inS 20 = true) (hh : b.hi.inS 20 = true) : canW m b = m.canB b := by
 unfold canW TM.canB
 rw [sqsW_eq hl hh]
theorem coordT {tk d A i : Int} {r0 r1 P0 P1 L0 L1 : Int} (htk : 1 ≤ tk ∧ tk ≤ 20) (hd : -2000 ≤ d ∧ d ≤ 2000) (hA : -1010101 ≤ A ∧ A ≤ 1010101) (hr : (Rg.mk r0 r1).bd 20) (hP : (Rg.mk P0 P1).bd 1000000000) (hL : (Rg.mk L0 L1).bd 1000000000000000) (hi : 0 ≤ i ∧ i < ((3 : Nat) : Int)) {K : Int → Int → Int → Int → Prop}
  (hK : ∀ a b c e, a = ((Rg.mk P0 P1).plus ((qS tk ⟨r0, r1⟩ d A).times ⟨r0, r1⟩)).lo → b = ((Rg.mk P0 P1).plus ((qS tk ⟨r0, r1⟩ d A).times ⟨r0, r1⟩)).hi → c = ((Rg.mk L0 L1).plus (qS tk ⟨r0, r1⟩ d A).square).lo → e = ((Rg.mk L0 L1).plus (qS tk ⟨r0, r1⟩ d A).square).hi →
   ((qS tk ⟨r0, r1⟩ d A).times ⟨r0, r1⟩).bd 404840400 → (qS tk ⟨r0, r1⟩ d A).square.bd 409739373680400 → K a b c e) :
  (0 ≤ i ∧ i < ((3 : Nat) : Int)) ∧ ((0 ≤ i ∧ i < ((3 : Nat) : Int)) ∧ (lt (IntKind.i64.wrap ((0 : Int) - A)) fun x5 => lt (IntKind.i64.wrap ((0 : Int) - A)) fun x6 => lt ((((Rg.mk r0 r1) : Rg).times (Rg.mk x5 x6)).lo) fun x7 => lt ((((Rg.mk r0 r1) : Rg).times (Rg.mk x5 x6)).hi) fun x8 =>
   ((-4000000000000000000 ≤ r0 * x5 ∧ r0 * x5 ≤ 4000000000000000000) ∧ (-4000000000000000000 ≤ r0 * x6 ∧ r0 * x6 ≤ 4000000000000000000) ∧ (-4000000000000000000 ≤ r1 * x5 ∧ r1 * x5 ≤ 4000000000000000000) ∧ (-4000000000000000000 ≤ r1 * x6 ∧ r1 * x6 ≤ 4000000000000000000)) ∧ ((0 ≤ i ∧ i < ((3 : Nat) : Int)) ∧
   (lt (IntKind.i64.wrap (tk * d)) fun x9 => (0 ≤ i ∧ i < ((3 : Nat) : Int)) ∧ (lt (IntKind.i64.wrap (tk * d)) fun x10 => lt ((((Rg.mk x7 x8) : Rg).plusW (Rg.mk x9 x10)).lo) fun x11 => lt ((((Rg.mk x7 x8) : Rg).plusW (Rg.mk x9 x10)).hi) fun x12 => lt ((((Rg.mk x11 x12) : Rg).times (Rg.mk r0 r1)).lo) fun x13 => lt ((((Rg.mk x11 x12) : Rg).times (Rg.mk r0 r1)).hi) fun x14 =>
   ((-4000000000000000000 ≤ x11 * r0 ∧ x11 * r0 ≤ 4000000000000000000) ∧ (-4000000000000000000 ≤ x11 * r1 ∧ x11 * r1 ≤ 4000000000000000000) ∧ (-4000000000000000000 ≤ x12 * r0 ∧ x12 * r0 ≤ 4000000000000000000) ∧ (-4000000000000000000 ≤ x12 * r1 ∧ x12 * r1 ≤ 4000000000000000000)) ∧
   (lt ((((Rg.mk P0 P1) : Rg).plusW (Rg.mk x13 x14)).lo) fun x15 => lt ((((Rg.mk P0 P1) : Rg).plusW (Rg.mk x13 x14)).hi) fun x16 => lt ((sqW x11 x12).lo) fun x17 => lt ((sqW x11 x12).hi) fun x18 => lt ((((Rg.mk L0 L1) : Rg).plusW (Rg.mk x17 x18)).lo) fun x19 => lt ((((Rg.mk L0 L1) : Rg).plusW (Rg.mk x17 x18)).hi) fun x20 => K x15 x16 x19 x20)))))) := by
 have hT := qv (x := tk) (y := d) (A := 20) (B := 2000) (C := 40000) (by omega) hd (by decide)
 have hn : (⟨-A, -A⟩ : Rg).bd 1010101 := by unfold Rg.bd; simp only; omega
 have hR := Rg.times_bd hr hn (C := 20202020) (by decide)
 have hTD : (⟨tk * d, tk * d⟩ : Rg).bd 40000 := ⟨hT, hT⟩
 have hS : (qS tk ⟨r0, r1⟩ d A).bd 20242020 := Rg.plus_bd hR hTD (C := 20242020) (by decide)
 have hU := Rg.times_bd hS hr (C := 404840400) (by decide)
 have hV := (Rg.square_bd hS (C := 409739373680400) (by decide)).1
 have en : IntKind.i64.wrap ((0 : Int) - A) = -A := by rw [IntWalk.i64_in _ (by omega)]; omega
 have et : IntKind.i64.wrap (tk * d) = tk * d := IntWalk.i64_in _ (by omega)
 have b20 : ∀ {x y : Int} {C : Int}, (-1010101 ≤ y ∧ y ≤ 1010101) → (-20 ≤ x ∧ x ≤ 20) → -4000000000000000000 ≤ x * y ∧ x * y ≤ 4000000000000000000 := fun {x y C} h g => by
  have := qv (x := x) (y := y) (A := 20) (B := 1010101) (C := 20202020) g h (by decide); omega
 have b21 : ∀ {x y : Int}, (-20242020 ≤ x ∧ x ≤ 20242020) → (-20 ≤ y ∧ y ≤ 20) → -4000000000000000000 ≤ x * y ∧ x * y ≤ 4000000000000000000 := fun {x y} g h => by
  have := qv (x := x) (y := y) (A := 20242020) (B := 20) (C := 404840400) g h (by decide); omega
 refine ⟨hi, hi, ?_⟩
 rw [en, et]
 refine lt_i fun x5 h5 => lt_i fun x6 h6 => ?_
 subst h5; subst h6
 refine lt_i fun x7 h7 => lt_i fun x8 h8 => ⟨⟨b20 (C := 0) hn.1 hr.1, b20 (C := 0) hn.1 hr.1, b20 (C := 0) hn.1 hr.2, b20 (C := 0) hn.1 hr.2⟩, hi, lt_i fun x9 h9 => ⟨hi, lt_i fun x10 h10 => ?_⟩⟩
 subst h9; subst h10
 have eR : (Rg.mk x7 x8) = (Rg.mk r0 r1).times ⟨-A, -A⟩ := by rw [← h7, ← h8]
 rw [eR, q6I hR hTD (by decide)]
 have eS : ((Rg.mk r0 r1).times ⟨-A, -A⟩).plus ⟨tk * d, tk * d⟩ = qS tk ⟨r0, r1⟩ d A := rfl
 rw [eS]
 refine lt_i fun x11 h11 => lt_i fun x12 h12 => ?_
 subst h11; subst h12
 refine lt_i fun x13 h13 => lt_i fun x14 h14 => ⟨⟨b21 hS.1 hr.1, b21 hS.1 hr.2, b21 hS.2 hr.1, b21 hS.2 hr.2⟩, ?_⟩
 have eU : (Rg.mk x13 x14) = (qS tk ⟨r0, r1⟩ d A).times ⟨r0, r1⟩ := by rw [← h13, ← h14]
 rw [eU, q6I hP hU (by decide)]
 have e1 : sqW (qS tk ⟨r0, r1⟩ d A).lo (qS tk ⟨r0, r1⟩ d A).hi = (qS tk ⟨r0, r1⟩ d A).square := qgq hS (C := 409739373680400) (by decide) (by decide)
 rw [e1]
 refine lt_i fun x15 h15 => lt_i fun x16 h16 => lt_i fun x17 h17 => lt_i fun x18 h18 => ?_
 have eV : (Rg.mk x17 x18) = (qS tk ⟨r0, r1⟩ d A).square := by rw [← h17, ← h18]
 rw [eV, q6I hL hV (by decide)]
 exact lt_i fun x19 h19 => lt_i fun x20 h20 => hK _ _ _ _ h15.symm h16.symm h19.symm h20.symm hU hV
theorem numsP4 {x y z u : Int} : qj 1 4 (fun i j => boxC [.v (.int .i64 x), .v (.int .i64 y), .v (.int .i64 z), .v (.int .i64 u)] (0 + i * 1 + j)) := by
 intro i j hi hj
 obtain rfl : j = 0 := by omega
 rcases (by omega : i = 0 ∨ i = 1 ∨ i = 2 ∨ i = 3) with rfl | rfl | rfl | rfl <;> rfl
theorem list4 {l : List Int} (h : l.length = 4) : l = [l.getD 0 0, l.getD 1 0, l.getD 2 0, l.getD 3 0] := by
 match l, h with
 | [a, b, c, d], _ => rfl
def q7H (b0 b1 b2 b3 b4 b5 : Int) (post : DV → Prop) : Prop := (fun (Z1 : TB) => (0 ≤ (20 : Int) ∧ (20 : Int) ≤ 100000) ∧ ((cond (!(((V3.mk b0 b1 b2) : V3).inS (20 : Int))) ((true = true) ∧ (True)) ((0 ≤ (20 : Int) ∧ (20 : Int) ≤ 100000) ∧ (True))) ∧ (lt ((bif (!(((V3.mk b0 b1 b2) : V3).inS (20 : Int))) then true else (!(((V3.mk b3 b4 b5) : V3).inS (20 : Int))))) fun x1 => cond x1 (post (.t (.c (.v (.int .i64 2))))) ((0 ≤ (0 : Int) ∧ (0 : Int) < ((3 : Nat) : Int)) ∧ ((0 ≤ (0 : Int) ∧ (0 : Int) < ((3 : Nat) : Int)) ∧ (cond (decide (b0 > b3)) (post (.t (.c (.v (.int .i64 9))))) ((0 ≤ (1 : Int) ∧ (1 : Int) < ((3 : Nat) : Int)) ∧ ((0 ≤ (1 : Int) ∧ (1 : Int) < ((3 : Nat) : Int)) ∧ (cond (decide (b1 > b4)) (post (.t (.c (.v (.int .i64 9))))) ((0 ≤ (2 : Int) ∧ (2 : Int) < ((3 : Nat) : Int)) ∧ ((0 ≤ (2 : Int) ∧ (2 : Int) < ((3 : Nat) : Int)) ∧ (cond (decide (b2 > b5)) (post (.t (.c (.v (.int .i64 9))))) (((Z1).lo.inS 20 = true ∧ (Z1).hi.inS 20 = true ∧ (Z1).ok) ∧ (post (.t (.c (.v (.int .i64 (unl (decide (((Z1).count) ≤ (700 : Int))) (8 : Int)))))))))))))))))))) (TB.mk (.mk b0 b1 b2) (.mk b3 b4 b5))
def qd2 : Ann := ⟨fun r => qr r [(6, ([[], [], [0, 1], [0, 1, 2], [], [], [4, 5], [4, 5, 6], [0, 1, 2, 3, 4, 5, 6, 7]], [[], [], [], [], [], [], [], [], []]))], fun b => qr b [(0, (some 4, some ⟨[1, 14], [1], []⟩))], fun _ => [], noIt, false, fun r => qr r [(1, (5, [13]))], fun _ => none⟩
theorem qcf (b0 b1 b2 b3 b4 b5 : Int) : q7H b0 b1 b2 b3 b4 b5 (fun r => LeD r (.t (.c (.v (.int .i64 (((TB.mk (.mk b0 b1 b2) (.mk b3 b4 b5))).err)))))) := by
 have hE : ∀ {a b c : Int}, a ≠ 0 → qd [a, b, c] = a := by intro a b c h; simp [qd, h]
 unfold q7H
 unfold TB.err
 simp only
 refine ⟨by decide, qg (fun _ => ⟨by trivial, trivial⟩) (fun _ => ⟨by decide, trivial⟩), lt_i fun x1 h1 => qg (fun e => leI ?_) (fun e => ⟨by decide, by decide, ?_⟩)⟩
 ·have e2 : ((V3.mk b0 b1 b2).inS 20 && (V3.mk b3 b4 b5).inS 20) = false := by
   rw [← h1] at e
   cases q : (V3.mk b0 b1 b2).inS 20 <;> cases r : (V3.mk b3 b4 b5).inS 20 <;> rw [q, r] at e <;> first | rfl | cases e
  rw [e2]
  rfl
 have e2 : (V3.mk b0 b1 b2).inS 20 = true ∧ (V3.mk b3 b4 b5).inS 20 = true := by
  rw [← h1] at e
  cases q : (V3.mk b0 b1 b2).inS 20 <;> cases r : (V3.mk b3 b4 b5).inS 20 <;> rw [q, r] at e <;> first | exact ⟨rfl, rfl⟩ | cases e
 rw [e2.1, e2.2]
 have f9 : ∀ {k : Bool} {c : Int}, k = false → (9 : Int) = qd [unl (true && true) 2, unl k 9, c] := by rintro k c rfl; rfl
 refine qg (fun g => leI (f9 ?_)) (fun g => ⟨by decide, by decide, qg (fun g2 => leI (f9 ?_)) (fun g2 => ⟨by decide, by decide, qg (fun g3 => leI (f9 ?_)) (fun g3 => ⟨⟨rfl, rfl, ⟨show b0 ≤ b3 by have := of_decide_eq_false g; omega, show b1 ≤ b4 by have := of_decide_eq_false g2; omega, show b2 ≤ b5 by have := of_decide_eq_false g3; omega⟩⟩, leI ?_⟩)⟩)⟩)
 ·have g := of_decide_eq_true g
  rw [decide_eq_false (show ¬ b0 ≤ b3 by omega)]; rfl
 ·have g := of_decide_eq_true g2
  rw [decide_eq_false (show ¬ b1 ≤ b4 by omega)]; simp
 ·have g := of_decide_eq_true g3
  rw [decide_eq_false (show ¬ b2 ≤ b5 by omega)]; simp
 ·have g := of_decide_eq_false g
  have g2 := of_decide_eq_false g2
  have g3 := of_decide_eq_false g3
  rw [decide_eq_true (show b0 ≤ b3 by omega), decide_eq_true (show b1 ≤ b4 by omega), decide_eq_true (show b2 ≤ b5 by omega)]
  show unl _ 8 = qd [0, 0, unl _ 8]
  simp only [qd]
  by_cases q : ((TB.mk (.mk b0 b1 b2) (.mk b3 b4 b5))).count ≤ 700
  ·rw [decide_eq_true q]; rfl
  ·rw [decide_eq_false q]; rfl
def q4a : Con := fun args => match args with
 | [.t (.a [.v (.int .i64 b0), .v (.int .i64 b1), .v (.int .i64 b2), .v (.int .i64 b3), .v (.int .i64 b4), .v (.int .i64 b5)])] => some (.t (.c (.v (.int .i64 (((TB.mk (.mk b0 b1 b2) (.mk b3 b4 b5))).err)))), none, false)
 | _ => none
theorem qee : Ok Tryz.prog 41 q4a := by
 refine Ok.fn (ann := qd2) mixed qo VSkr30 ValidIt.no (fn := Tryz.f41) (by kernel_rfl) (by kernel_rfl) (by kernel_rfl) fun args r pre fresh h hp => ?_
 unfold q4a at h
 split at h
 ·rename_i b0 b1 b2 b3 b4 b5
  cases h
  refine ⟨rfl, fun _ _ _ => False, _, LeA.refl _, Nat.le_of_ble_eq_true (by kernel_rfl), ?_, ?_⟩
  ·exact cast (by kernel_rfl) (qcf b0 b1 b2 b3 b4 b5)
  ·exact cast (by kernel_rfl) trivial
 ·cases h
def Sks31 : Sum := addS Skr30 41 q4a
theorem VSks31 : Valid Tryz.prog Sks31 := Valid.add VSkr30 qee
def q8E (m0 m1 m2 m3 m4 m5 m6 m7 m8 m9 mA mB b0 b1 b2 b3 b4 b5 : Int) (post : DV → Prop) : Prop := (fun (Z1 : TM) => (qj 1 2 (genC [[.v (.int .i64 ((Z1).err))], [.v (.int .i64 (((TB.mk (.mk b0 b1 b2) (.mk b3 b4 b5))).err))]]) ∧ (([((Z1).err), (((TB.mk (.mk b0 b1 b2) (.mk b3 b4 b5))).err)] : List Int)).length ≤ 100) ∧ (post (.tu [.a [.v (.int .i64 m0), .v (.int .i64 m1), .v (.int .i64 m2), .v (.int .i64 m3), .v (.int .i64 m4), .v (.int .i64 m5), .v (.int .i64 m6), .v (.int .i64 m7), .v (.int .i64 m8), .v (.int .i64 m9), .v (.int .i64 mA), .v (.int .i64 mB)], .c (.v (.int .i64 (qd ([((Z1).err), (((TB.mk (.mk b0 b1 b2) (.mk b3 b4 b5))).err)] : List Int))))]))) (TM.mk m0 m1 m2 m3 m4 m5 m6 m7 m8 m9 mA mB)
def qef : Ann := An (fun r => qr r [(2, ([[], [], [], [2], [1, 2, 3], [1, 2, 3, 4], [0, 1, 2, 3, 4, 5], [0, 1, 2, 3, 4, 5, 6]], [[16, 17, 18], [16, 17, 18], [16, 17, 18], [17, 18], [18], [], [], []]))]) fun _ => none
theorem qd3 (m0 m1 m2 m3 m4 m5 m6 m7 m8 m9 mA mB b0 b1 b2 b3 b4 b5 : Int) : q8E m0 m1 m2 m3 m4 m5 m6 m7 m8 m9 mA mB b0 b1 b2 b3 b4 b5 (fun r => LeD r (.tu [.a [.v (.int .i64 m0), .v (.int .i64 m1), .v (.int .i64 m2), .v (.int .i64 m3), .v (.int .i64 m4), .v (.int .i64 m5), .v (.int .i64 m6), .v (.int .i64 m7), .v (.int .i64 m8), .v (.int .i64 m9), .v (.int .i64 mA), .v (.int .i64 mB)], .c (.v (.int .i64 (qd [((TM.mk m0 m1 m2 m3 m4 m5 m6 m7 m8 m9 mA mB)).err, ((TB.mk (.mk b0 b1 b2) (.mk b3 b4 b5))).err])))])) := by
 unfold q8E
 exact ⟨⟨q0n [_, _], Nat.le_of_ble_eq_true rfl⟩, LeD.refl _⟩
def q4D : Con := fun args => match args with
 | [.t (.a [.v (.int .i64 m0), .v (.int .i64 m1), .v (.int .i64 m2), .v (.int .i64 m3), .v (.int .i64 m4), .v (.int .i64 m5), .v (.int .i64 m6), .v (.int .i64 m7), .v (.int .i64 m8), .v (.int .i64 m9), .v (.int .i64 mA), .v (.int .i64 mB)]), .t (.a [.v (.int .i64 b0), .v (.int .i64 b1), .v (.int .i64 b2), .v (.int .i64 b3), .v (.int .i64 b4), .v (.int .i64 b5)])] => some (.tu [.a [.v (.int .i64 m0), .v (.int .i64 m1), .v (.int .i64 m2), .v (.int .i64 m3), .v (.int .i64 m4), .v (.int .i64 m5), .v (.int .i64 m6), .v (.int .i64 m7), .v (.int .i64 m8), .v (.int .i64 m9), .v (.int .i64 mA), .v (.int .i64 mB)], .c (.v (.int .i64 (qd [((TM.mk m0 m1 m2 m3 m4 m5 m6 m7 m8 m9 mA mB)).err, ((TB.mk (.mk b0 b1 b2) (.mk b3 b4 b5))).err])))], none, false)
 | _ => none
theorem qfm : Ok Tryz.prog 97 q4D := by
 refine Ok.fn (ann := qef) mixed qo VSks31 ValidIt.no (fn := Tryz.f97) (by kernel_rfl) (by kernel_rfl) (by kernel_rfl) fun args r pre fresh h hp => ?_
 unfold q4D at h
 split at h
 ·rename_i m0 m1 m2 m3 m4 m5 m6 m7 m8 m9 mA mB b0 b1 b2 b3 b4 b5
  cases h
  refine ⟨rfl, fun _ _ _ => False, _, LeA.refl _, Nat.le_of_ble_eq_true (by kernel_rfl), ?_, ?_⟩
  ·exact cast (by kernel_rfl) (qd3 m0 m1 m2 m3 m4 m5 m6 m7 m8 m9 mA mB b0 b1 b2 b3 b4 b5)
  ·exact cast (by kernel_rfl) trivial
 ·cases h
def Sks32 : Sum := addS Sks31 97 q4D
theorem VSks32 : Valid Tryz.prog Sks32 := Valid.add VSks31 qfm
def q7I (m0 m1 m2 m3 m4 m5 m6 m7 m8 m9 mA mB b0 b1 b2 b3 b4 b5 : Int) (l : List TH) (post : DV → Prop) : Prop := (fun (Z1 : TM) => (qj 5 l.length (qi l)) ∧ ((qj 1 2 (genC [[.v (.int .i64 (qd [(Z1).err, ((TB.mk (.mk b0 b1 b2) (.mk b3 b4 b5))).err]))], [.v (.int .i64 (ql (qa l.length qc (qi l))))]]) ∧ (([(qd [(Z1).err, ((TB.mk (.mk b0 b1 b2) (.mk b3 b4 b5))).err]), (ql (qa l.length qc (qi l)))] : List Int)).length ≤ 100) ∧ (post (.tu [.a [.v (.int .i64 m0), .v (.int .i64 m1), .v (.int .i64 m2), .v (.int .i64 m3), .v (.int .i64 m4), .v (.int .i64 m5), .v (.int .i64 m6), .v (.int .i64 m7), .v (.int .i64 m8), .v (.int .i64 m9), .v (.int .i64 mA), .v (.int .i64 mB)], .c (.v (.int .i64 (qd ([(qd [(Z1).err, ((TB.mk (.mk b0 b1 b2) (.mk b3 b4 b5))).err]), (ql (qa l.length qc (qi l)))] : List Int))))])))) (TM.mk m0 m1 m2 m3 m4 m5 m6 m7 m8 m9 mA mB)
def qd4 : Ann := An (fun r => qr r [(2, ([[], [], [], [2], [1, 2, 3], [1, 2, 3, 4], [0, 1, 2, 3, 4, 5], [0, 1, 2, 3, 4, 5, 6]], [[19, 20, 21], [19, 20, 21], [19, 20, 21], [20, 21], [21], [], [], []]))]) fun _ => none
theorem qcg (m0 m1 m2 m3 m4 m5 m6 m7 m8 m9 mA mB b0 b1 b2 b3 b4 b5 : Int) (l : List TH) : q7I m0 m1 m2 m3 m4 m5 m6 m7 m8 m9 mA mB b0 b1 b2 b3 b4 b5 l (fun r => LeD r (.tu [.a [.v (.int .i64 m0), .v (.int .i64 m1), .v (.int .i64 m2), .v (.int .i64 m3), .v (.int .i64 m4), .v (.int .i64 m5), .v (.int .i64 m6), .v (.int .i64 m7), .v (.int .i64 m8), .v (.int .i64 m9), .v (.int .i64 mA), .v (.int .i64 mB)], .c (.v (.int .i64 (qd [qd [((TM.mk m0 m1 m2 m3 m4 m5 m6 m7 m8 m9 mA mB)).err, ((TB.mk (.mk b0 b1 b2) (.mk b3 b4 b5))).err], ql l])))])) := by
 unfold q7I
 rw [qP]
 exact ⟨qA l, ⟨q0n [_, _], Nat.le_of_ble_eq_true rfl⟩, LeD.refl _⟩
def q4b : Con := fun args => match args with
 | [.t (.a [.v (.int .i64 m0), .v (.int .i64 m1), .v (.int .i64 m2), .v (.int .i64 m3), .v (.int .i64 m4), .v (.int .i64 m5), .v (.int .i64 m6), .v (.int .i64 m7), .v (.int .i64 m8), .v (.int .i64 m9), .v (.int .i64 mA), .v (.int .i64 mB)]), .t (.a [.v (.int .i64 b0), .v (.int .i64 b1), .v (.int .i64 b2), .v (.int .i64 b3), .v (.int .i64 b4), .v (.int .i64 b5)]), .t (.c (.sl 5 n_l c_l))] => some (.tu [.a [.v (.int .i64 m0), .v (.int .i64 m1), .v (.int .i64 m2), .v (.int .i64 m3), .v (.int .i64 m4), .v (.int .i64 m5), .v (.int .i64 m6), .v (.int .i64 m7), .v (.int .i64 m8), .v (.int .i64 m9), .v (.int .i64 mA), .v (.int .i64 mB)], .c (.v (.int .i64 (qd [qd [((TM.mk m0 m1 m2 m3 m4 m5 m6 m7 m8 m9 mA mB)).err, ((TB.mk (.mk b0 b1 b2) (.mk b3 b4 b5))).err], ql (qa n_l qc c_l)])))], some (qj 5 n_l c_l), false)
 | _ => none
theorem qeg : Ok Tryz.prog 60 q4b := by
 refine Ok.fn (ann := qd4) mixed qo VSks32 ValidIt.no (fn := Tryz.f60) (by kernel_rfl) (by kernel_rfl) (by kernel_rfl) fun args r pre fresh h hp => ?_
 unfold q4b at h
 split at h
 ·rename_i m0 m1 m2 m3 m4 m5 m6 m7 m8 m9 mA mB b0 b1 b2 b3 b4 b5 n_l c_l
  cases h
  have hp0 := hp
  refine ⟨rfl, fun _ _ _ => False, _, (qk (LeD.refl _) (qk (LeD.refl _) (qk (leT_c ((qY hp0))) qM))), Nat.le_of_ble_eq_true (by kernel_rfl), ?_, ?_⟩
  ·exact cast (by kernel_rfl) (qcg m0 m1 m2 m3 m4 m5 m6 m7 m8 m9 mA mB b0 b1 b2 b3 b4 b5 (qa n_l qc c_l))
  ·exact cast (by kernel_rfl) trivial
 ·cases h
def Sks33 : Sum := addS Sks32 60 q4b
theorem VSks33 : Valid Tryz.prog Sks33 := Valid.add VSks32 qeg
def q5U (r0 r1 : Int) (post : DV → Prop) : Prop := lt (IntKind.i64.wrap (r0 * r0)) fun x1 => lt (IntKind.i64.wrap (r1 * r1)) fun x2 => cond (decide (r0 ≤ (0 : Int))) (cond (decide (r1 ≥ (0 : Int))) (lt ((if x2 > x1 then x2 else x1)) fun x3 => post (.t (.a [.v (.int .i64 0), .v (.int .i64 x3)]))) (lt ((if x2 < x1 then x2 else x1)) fun x4 => lt ((if x2 > x1 then x2 else x1)) fun x5 => post (.t (.a [.v (.int .i64 x4), .v (.int .i64 x5)])))) ((false = false) ∧ (lt ((if x2 < x1 then x2 else x1)) fun x6 => lt ((if x2 > x1 then x2 else x1)) fun x7 => post (.t (.a [.v (.int .i64 x6), .v (.int .i64 x7)]))))
def qau : Ann := An (fun r => qr r [(1, ([[], [0], [], [2], [0, 1, 2, 3], [], [5], [], [7], [5, 6, 7, 8], [0, 1, 2, 3, 4], [0, 1, 2, 3, 4, 5, 6, 7, 8, 9, 10]], [[], [], [], [], [], [], [], [], [], [], [], []]))]) fun _ => none
theorem q9X (r0 r1 : Int) : q5U r0 r1 (fun r => LeD r (.t (.a [.v (.int .i64 ((sqW r0 r1).lo)), .v (.int .i64 ((sqW r0 r1).hi))]))) := by
 unfold q5U
 refine lt_i fun x1 h1 => lt_i fun x2 h2 => ?_
 subst h1; subst h2
 refine qg (fun h => ?_) (fun h => ?_)
 ·have h := of_decide_eq_true h
  refine qg (fun g => lt_i fun x hx => LeD.of ?_) (fun g => lt_i fun x hx => lt_i fun y hy => LeD.of ?_)
  ·have g := of_decide_eq_true g
   unfold sqW
   rw [if_pos ⟨h, g⟩, ← hx]
   congr 6
   simp only
   rw [mx_if]
  ·have g := of_decide_eq_false g
   unfold sqW
   rw [if_neg (fun q => g q.2), ← hx, ← hy]
   simp only [mn_if, mx_if]
 ·have h := of_decide_eq_false h
  refine ⟨rfl, lt_i fun x hx => lt_i fun y hy => LeD.of ?_⟩
  unfold sqW
  rw [if_neg (fun q => h q.1), ← hx, ← hy]
  simp only [mn_if, mx_if]
def q2B : Con := fun args => match args with
 | [.t (.a [.v (.int .i64 r0), .v (.int .i64 r1)])] => some (.t (.a [.v (.int .i64 ((sqW r0 r1).lo)), .v (.int .i64 ((sqW r0 r1).hi))]), none, false)
 | _ => none
theorem qbF : Ok Tryz.prog 102 q2B := by
 refine Ok.fn (ann := qau) mixed qo VSks33 ValidIt.no (fn := Tryz.f102) (by kernel_rfl) (by kernel_rfl) (by kernel_rfl) fun args r pre fresh h hp => ?_
 unfold q2B at h
 split at h
 ·rename_i r0 r1
  cases h
  refine ⟨rfl, fun _ _ _ => False, _, LeA.refl _, Nat.le_of_ble_eq_true (by kernel_rfl), ?_, ?_⟩
  ·exact cast (by kernel_rfl) (q9X r0 r1)
  ·exact cast (by kernel_rfl) trivial
 ·cases h
def Sks34 : Sum := addS Sks33 102 q2B
theorem VSks34 : Valid Tryz.prog Sks34 := Valid.add VSks33 qbF
def q7l (r0 r1 s0 s1 : Int) (post : DV → Prop) : Prop := lt (IntKind.i64.wrap (r0 + s0)) fun x1 => lt (IntKind.i64.wrap (r1 + s1)) fun x2 => post (.t (.a [.v (.int .i64 x1), .v (.int .i64 x2)]))
def qch : Ann := An (fun _ => none) fun _ => none
theorem qbG (r0 r1 s0 s1 : Int) : q7l r0 r1 s0 s1 (fun r => LeD r (.t (.a [.v (.int .i64 ((((Rg.mk r0 r1) : Rg).plusW (Rg.mk s0 s1)).lo)), .v (.int .i64 ((((Rg.mk r0 r1) : Rg).plusW (Rg.mk s0 s1)).hi))]))) := by
 unfold q7l
 (repeat' with_reducible first | (refine lt_i ?_; intro _ _) | (refine qg ?_ ?_ <;> intro _) | (refine And.intro (by decide) ?_))
 subst_vars
 exact LeD.refl _
def q3z : Con := fun args => match args with
 | [.t (.a [.v (.int .i64 r0), .v (.int .i64 r1)]), .t (.a [.v (.int .i64 s0), .v (.int .i64 s1)])] => some (.t (.a [.v (.int .i64 ((((Rg.mk r0 r1) : Rg).plusW (Rg.mk s0 s1)).lo)), .v (.int .i64 ((((Rg.mk r0 r1) : Rg).plusW (Rg.mk s0 s1)).hi))]), none, false)
 | _ => none
theorem qd5 : Ok Tryz.prog 101 q3z := by
 refine Ok.fn (ann := qch) mixed qo VSks34 ValidIt.no (fn := Tryz.f101) (by kernel_rfl) (by kernel_rfl) (by kernel_rfl) fun args r pre fresh h hp => ?_
 unfold q3z at h
 split at h
 ·rename_i r0 r1 s0 s1
  cases h
  refine ⟨rfl, fun _ _ _ => False, _, LeA.refl _, Nat.le_of_ble_eq_true (by kernel_rfl), ?_, ?_⟩
  ·exact cast (by kernel_rfl) (qbG r0 r1 s0 s1)
  ·exact cast (by kernel_rfl) trivial
 ·cases h
def Sks35 : Sum := addS Sks34 101 q3z
theorem VSks35 : Valid Tryz.prog Sks35 := Valid.add VSks34 qd5
def q2k : Con := fun args => match args with
 | [.t (.c (.sl 1 n_l c_l))] => some (.t (.c (.v (.int .i64 (mn4 (((qa n_l qF c_l)).getD 0 0) (((qa n_l qF c_l)).getD 1 0) (((qa n_l qF c_l)).getD 2 0) (((qa n_l qF c_l)).getD 3 0))))), some (qj 1 n_l c_l ∧ ((qa n_l qF c_l)).length = 4), false)
 | _ => none
theorem qav : Ok Tryz.prog 137 q2k := by
 refine Ok.oldG (Enters.of (fn := Tryz.f137) (by kernel_rfl) (by kernel_rfl) (by kernel_rfl)) fun args r pre fresh h hp => ?_
 unfold q2k at h
 split at h
 ·rename_i n_l c_l
  cases h
  refine ⟨rfl, _, rfl, fun W N vs hv => ?_⟩
  obtain ⟨hp0, hp⟩ := hp
  obtain ⟨v_l, ws0, k0, g0, hv0⟩ := hv.cons_inv
  subst k0
  have h_l := at_int hp0 g0
  have ev := hv0.nil_inv
  subst ev
  generalize qa n_l qF c_l = l at *
  exact qgi _ _ _ _ v_l W (by rw [← list4 hp]; exact h_l)
 ·cases h
def Sks36 : Sum := addS Sks35 137 q2k
theorem VSks36 : Valid Tryz.prog Sks36 := Valid.add VSks35 qav
def q2l : Con := fun args => match args with
 | [.t (.c (.sl 1 n_l c_l))] => some (.t (.c (.v (.int .i64 (mx4 (((qa n_l qF c_l)).getD 0 0) (((qa n_l qF c_l)).getD 1 0) (((qa n_l qF c_l)).getD 2 0) (((qa n_l qF c_l)).getD 3 0))))), some (qj 1 n_l c_l ∧ ((qa n_l qF c_l)).length = 4), false)
 | _ => none
theorem qaw : Ok Tryz.prog 138 q2l := by
 refine Ok.oldG (Enters.of (fn := Tryz.f138) (by kernel_rfl) (by kernel_rfl) (by kernel_rfl)) fun args r pre fresh h hp => ?_
 unfold q2l at h
 split at h
 ·rename_i n_l c_l
  cases h
  refine ⟨rfl, _, rfl, fun W N vs hv => ?_⟩
  obtain ⟨hp0, hp⟩ := hp
  obtain ⟨v_l, ws0, k0, g0, hv0⟩ := hv.cons_inv
  subst k0
  have h_l := at_int hp0 g0
  have ev := hv0.nil_inv
  subst ev
  generalize qa n_l qF c_l = l at *
  exact qgj _ _ _ _ v_l W (by rw [← list4 hp]; exact h_l)
 ·cases h
def Sks37 : Sum := addS Sks36 138 q2l
theorem VSks37 : Valid Tryz.prog Sks37 := Valid.add VSks36 qaw
def q6v (r0 r1 s0 s1 : Int) (post : DV → Prop) : Prop := lt (IntKind.i64.wrap (r0 * s0)) fun x1 => lt (IntKind.i64.wrap (r0 * s1)) fun x2 => lt (IntKind.i64.wrap (r1 * s0)) fun x3 => lt (IntKind.i64.wrap (r1 * s1)) fun x4 => (qj 1 4 (fun i j => boxC [.v (.int .i64 x1), .v (.int .i64 x2), .v (.int .i64 x3), .v (.int .i64 x4)] (0 + i * 1 + j)) ∧ (([x1, x2, x3, x4] : List Int)).length = 4) ∧ ((qj 1 4 (fun i j => boxC [.v (.int .i64 x1), .v (.int .i64 x2), .v (.int .i64 x3), .v (.int .i64 x4)] (0 + i * 1 + j)) ∧ (([x1, x2, x3, x4] : List Int)).length = 4) ∧ (post (.t (.a [.v (.int .i64 (mn4 ((([x1, x2, x3, x4] : List Int)).getD 0 0) ((([x1, x2, x3, x4] : List Int)).getD 1 0) ((([x1, x2, x3, x4] : List Int)).getD 2 0) ((([x1, x2, x3, x4] : List Int)).getD 3 0))), .v (.int .i64 (mx4 ((([x1, x2, x3, x4] : List Int)).getD 0 0) ((([x1, x2, x3, x4] : List Int)).getD 1 0) ((([x1, x2, x3, x4] : List Int)).getD 2 0) ((([x1, x2, x3, x4] : List Int)).getD 3 0)))]))))
def qbH : Ann := An (fun r => qr r [(2, ([[], [0], [], [0, 1, 2], [0, 1, 2, 3], [0, 1, 2, 3, 4]], [[28, 30], [30], [28, 30], [], [], []]))]) fun _ => none
theorem qax (r0 r1 s0 s1 : Int) (hp : (-4000000000000000000 ≤ r0 * s0 ∧ r0 * s0 ≤ 4000000000000000000) ∧ (-4000000000000000000 ≤ r0 * s1 ∧ r0 * s1 ≤ 4000000000000000000) ∧ (-4000000000000000000 ≤ r1 * s0 ∧ r1 * s0 ≤ 4000000000000000000) ∧ (-4000000000000000000 ≤ r1 * s1 ∧ r1 * s1 ≤ 4000000000000000000)) : q6v r0 r1 s0 s1 (fun r => LeD r (.t (.a [.v (.int .i64 ((((Rg.mk r0 r1) : Rg).times (Rg.mk s0 s1)).lo)), .v (.int .i64 ((((Rg.mk r0 r1) : Rg).times (Rg.mk s0 s1)).hi))]))) := by
 unfold q6v
 obtain ⟨q1, q2, q3, q4⟩ := hp
 refine lt_i fun x1 h1 => lt_i fun x2 h2 => lt_i fun x3 h3 => lt_i fun x4 h4 => ?_
 rw [wi (by omega)] at h1 h2 h3 h4
 subst h1 h2 h3 h4
 exact ⟨⟨numsP4, rfl⟩, ⟨numsP4, rfl⟩, LeD.refl _⟩
def q3c : Con := fun args => match args with
 | [.t (.a [.v (.int .i64 r0), .v (.int .i64 r1)]), .t (.a [.v (.int .i64 s0), .v (.int .i64 s1)])] => some (.t (.a [.v (.int .i64 ((((Rg.mk r0 r1) : Rg).times (Rg.mk s0 s1)).lo)), .v (.int .i64 ((((Rg.mk r0 r1) : Rg).times (Rg.mk s0 s1)).hi))]), some ((-4000000000000000000 ≤ r0 * s0 ∧ r0 * s0 ≤ 4000000000000000000) ∧ (-4000000000000000000 ≤ r0 * s1 ∧ r0 * s1 ≤ 4000000000000000000) ∧ (-4000000000000000000 ≤ r1 * s0 ∧ r1 * s0 ≤ 4000000000000000000) ∧ (-4000000000000000000 ≤ r1 * s1 ∧ r1 * s1 ≤ 4000000000000000000)), false)
 | _ => none
theorem qci : Ok Tryz.prog 121 q3c := by
 refine Ok.fn (ann := qbH) mixed qo VSks37 ValidIt.no (fn := Tryz.f121) (by kernel_rfl) (by kernel_rfl) (by kernel_rfl) fun args r pre fresh h hp => ?_
 unfold q3c at h
 split at h
 ·rename_i r0 r1 s0 s1
  cases h
  refine ⟨rfl, fun _ _ _ => False, _, LeA.refl _, Nat.le_of_ble_eq_true (by kernel_rfl), ?_, ?_⟩
  ·exact cast (by kernel_rfl) (qax r0 r1 s0 s1 hp)
  ·exact cast (by kernel_rfl) trivial
 ·cases h
def Sks38 : Sum := addS Sks37 121 q3c
theorem VSks38 : Valid Tryz.prog Sks38 := Valid.add VSks37 qci
def q4R (m0 m1 m2 m3 m4 m5 m6 m7 m8 m9 mA mB b0 b1 b2 b3 b4 b5 : Int) (post : DV → Prop) : Prop := (0 ≤ (0 : Int) ∧ (0 : Int) < ((3 : Nat) : Int)) ∧ ((0 ≤ (0 : Int) ∧ (0 : Int) < ((3 : Nat) : Int)) ∧ (lt ((sqW b0 b3).lo) fun x1 => lt ((sqW b0 b3).hi) fun x2 => lt ((((⟨(0 : Int), (0 : Int)⟩ : Rg) : Rg).plusW (Rg.mk x1 x2)).lo) fun x3 => lt ((((⟨(0 : Int), (0 : Int)⟩ : Rg) : Rg).plusW (Rg.mk x1 x2)).hi) fun x4 => (0 ≤ (1 : Int) ∧ (1 : Int) < ((3 : Nat) : Int)) ∧ ((0 ≤ (1 : Int) ∧ (1 : Int) < ((3 : Nat) : Int)) ∧ (lt ((sqW b1 b4).lo) fun x5 => lt ((sqW b1 b4).hi) fun x6 => lt ((((Rg.mk x3 x4) : Rg).plusW (Rg.mk x5 x6)).lo) fun x7 => lt ((((Rg.mk x3 x4) : Rg).plusW (Rg.mk x5 x6)).hi) fun x8 => (0 ≤ (2 : Int) ∧ (2 : Int) < ((3 : Nat) : Int)) ∧ ((0 ≤ (2 : Int) ∧ (2 : Int) < ((3 : Nat) : Int)) ∧ (lt ((sqW b2 b5).lo) fun x9 => lt ((sqW b2 b5).hi) fun x10 => lt ((((Rg.mk x7 x8) : Rg).plusW (Rg.mk x9 x10)).lo) fun x11 => lt ((((Rg.mk x7 x8) : Rg).plusW (Rg.mk x9 x10)).hi) fun x12 => cond (decide (x12 ≥ m5)) (post (.tu [.a [.v (.int .i64 x11), .v (.int .i64 x12)], .c (.v (.bool (decide (x11 ≤ m6))))])) ((false = false) ∧ (post (.tu [.a [.v (.int .i64 x11), .v (.int .i64 x12)], .c (.v (.bool false))])))))))))
def q9d : Ann := An (fun r => qr r [(5, ([[], [], [], [1, 2], [1, 2, 3], [], [], [5, 6], [5, 6, 7], [1, 2, 3, 4, 5, 6, 7, 8], [1, 2, 3, 4, 5, 6, 7, 8, 9], [0, 1, 2, 3, 4, 5, 6, 7, 8, 9, 10], [0, 1, 2, 3, 4, 5, 6, 7, 8, 9, 10, 11]], [[21, 22], [21, 22], [21, 22], [21, 22], [21, 22], [21, 22], [21, 22], [21, 22], [21, 22], [21, 22], [22], [], []])), (7, ([[], [], [1], [], [3], [3, 4], [3, 4, 5], [1, 2, 3, 4, 5, 6], [1, 2, 3, 4, 5, 6, 7], [1, 2, 3, 4, 5, 6, 7, 8], [1, 2, 3, 4, 5, 6, 7, 8, 9], [1, 2, 3, 4, 5, 6, 7, 8], [1, 2, 3, 4, 5, 6, 7, 8, 11], [1, 2, 3, 4, 5, 6, 7, 8, 11, 12], [1, 2, 3, 4, 5, 6, 7, 8, 11, 12, 13], [1, 2, 3, 4, 5, 6, 7, 8, 9, 10, 11, 12, 13, 14], [1, 2, 3, 4, 5, 6, 7, 8, 9, 10, 11, 12, 13, 14, 15], [0, 1, 2, 3, 4, 5, 6, 7, 8], [0, 1, 2, 3, 4, 5, 6, 7, 8, 9, 10, 11, 12, 13, 14, 15, 16, 17]], [[], [], [], [], [], [], [], [], [], [], [4], [], [], [], [4], [], [], [9999, 4], []]))]) fun b => qr b [(0, (some 4, some ⟨[2, 3, 4, 6, 8], [2, 3, 4, 6], []⟩))]
theorem q8F (m0 m1 m2 m3 m4 m5 m6 m7 m8 m9 mA mB b0 b1 b2 b3 b4 b5 : Int) : q4R m0 m1 m2 m3 m4 m5 m6 m7 m8 m9 mA mB b0 b1 b2 b3 b4 b5 (fun r => LeD r (.tu [.a [.v (.int .i64 ((sqsW (TB.mk (.mk b0 b1 b2) (.mk b3 b4 b5))).lo)), .v (.int .i64 ((sqsW (TB.mk (.mk b0 b1 b2) (.mk b3 b4 b5))).hi))], .c (.v (.bool (canW (TM.mk m0 m1 m2 m3 m4 m5 m6 m7 m8 m9 mA mB) (TB.mk (.mk b0 b1 b2) (.mk b3 b4 b5)))))])) := by
 unfold q4R
 (repeat' with_reducible first | (refine lt_i ?_; intro _ _) | (refine qg ?_ ?_ <;> intro _) | (refine And.intro (by decide) ?_))
 all_goals subst_vars
 all_goals refine LeD.of ?_
 all_goals unfold sqsW canW sqsW
 all_goals simp only [*]
 all_goals first | rfl | simp_all
def q2b : Con := fun args => match args with
 | [.t (.a [.v (.int .i64 m0), .v (.int .i64 m1), .v (.int .i64 m2), .v (.int .i64 m3), .v (.int .i64 m4), .v (.int .i64 m5), .v (.int .i64 m6), .v (.int .i64 m7), .v (.int .i64 m8), .v (.int .i64 m9), .v (.int .i64 mA), .v (.int .i64 mB)]), .t (.a [.v (.int .i64 b0), .v (.int .i64 b1), .v (.int .i64 b2), .v (.int .i64 b3), .v (.int .i64 b4), .v (.int .i64 b5)])] => some (.tu [.a [.v (.int .i64 ((sqsW (TB.mk (.mk b0 b1 b2) (.mk b3 b4 b5))).lo)), .v (.int .i64 ((sqsW (TB.mk (.mk b0 b1 b2) (.mk b3 b4 b5))).hi))], .c (.v (.bool (canW (TM.mk m0 m1 m2 m3 m4 m5 m6 m7 m8 m9 mA mB) (TB.mk (.mk b0 b1 b2) (.mk b3 b4 b5)))))], none, false)
 | _ => none
theorem q9Y : Ok Tryz.prog 64 q2b := by
 refine Ok.fn (ann := q9d) mixed qo VSks38 ValidIt.no (fn := Tryz.f64) (by kernel_rfl) (by kernel_rfl) (by kernel_rfl) fun args r pre fresh h hp => ?_
 unfold q2b at h
 split at h
 ·rename_i m0 m1 m2 m3 m4 m5 m6 m7 m8 m9 mA mB b0 b1 b2 b3 b4 b5
  cases h
  refine ⟨rfl, fun _ _ _ => False, _, LeA.refl _, Nat.le_of_ble_eq_true (by kernel_rfl), ?_, ?_⟩
  ·exact cast (by kernel_rfl) (q8F m0 m1 m2 m3 m4 m5 m6 m7 m8 m9 mA mB b0 b1 b2 b3 b4 b5)
  ·exact cast (by kernel_rfl) trivial
 ·cases h
def Sks39 : Sum := addS Sks38 64 q2b
theorem VSks39 : Valid Tryz.prog Sks39 := Valid.add VSks38 q9Y
def q5v (m0 m1 m2 m3 m4 m5 m6 m7 m8 m9 mA mB b0 b1 b2 b3 b4 b5 p0 p1 p2 p3 : Int) (post : DV → Prop) : Prop := lt (wr (p0 - m0)) fun x1 => lt (wr (p1 - m1)) fun x2 => lt (wr (p2 - m2)) fun x3 => lt (IntKind.i64.wrap (p3 - m3)) fun x4 => (0 ≤ (0 : Int) ∧ (0 : Int) < ((3 : Nat) : Int)) ∧ ((0 ≤ (0 : Int) ∧ (0 : Int) < ((3 : Nat) : Int)) ∧ (lt (IntKind.i64.wrap ((0 : Int) - x4)) fun x5 => lt (IntKind.i64.wrap ((0 : Int) - x4)) fun x6 => lt ((((Rg.mk b0 b3) : Rg).times (Rg.mk x5 x6)).lo) fun x7 => lt ((((Rg.mk b0 b3) : Rg).times (Rg.mk x5 x6)).hi) fun x8 => ((-4000000000000000000 ≤ b0 * x5 ∧ b0 * x5 ≤ 4000000000000000000) ∧ (-4000000000000000000 ≤ b0 * x6 ∧ b0 * x6 ≤ 4000000000000000000) ∧ (-4000000000000000000 ≤ b3 * x5 ∧ b3 * x5 ≤ 4000000000000000000) ∧ (-4000000000000000000 ≤ b3 * x6 ∧ b3 * x6 ≤ 4000000000000000000)) ∧ ((0 ≤ (0 : Int) ∧ (0 : Int) < ((3 : Nat) : Int)) ∧ (lt (IntKind.i64.wrap (m4 * x1)) fun x9 => (0 ≤ (0 : Int) ∧ (0 : Int) < ((3 : Nat) : Int)) ∧ (lt (IntKind.i64.wrap (m4 * x1)) fun x10 => lt ((((Rg.mk x7 x8) : Rg).plusW (Rg.mk x9 x10)).lo) fun x11 => lt ((((Rg.mk x7 x8) : Rg).plusW (Rg.mk x9 x10)).hi) fun x12 => lt ((((Rg.mk x11 x12) : Rg).times (Rg.mk b0 b3)).lo) fun x13 => lt ((((Rg.mk x11 x12) : Rg).times (Rg.mk b0 b3)).hi) fun x14 => ((-4000000000000000000 ≤ x11 * b0 ∧ x11 * b0 ≤ 4000000000000000000) ∧ (-4000000000000000000 ≤ x11 * b3 ∧ x11 * b3 ≤ 4000000000000000000) ∧ (-4000000000000000000 ≤ x12 * b0 ∧ x12 * b0 ≤ 4000000000000000000) ∧ (-4000000000000000000 ≤ x12 * b3 ∧ x12 * b3 ≤ 4000000000000000000)) ∧ (lt ((((⟨(0 : Int), (0 : Int)⟩ : Rg) : Rg).plusW (Rg.mk x13 x14)).lo) fun x15 => lt ((((⟨(0 : Int), (0 : Int)⟩ : Rg) : Rg).plusW (Rg.mk x13 x14)).hi) fun x16 => lt ((sqW x11 x12).lo) fun x17 => lt ((sqW x11 x12).hi) fun x18 => lt ((((⟨(0 : Int), (0 : Int)⟩ : Rg) : Rg).plusW (Rg.mk x17 x18)).lo) fun x19 => lt ((((⟨(0 : Int), (0 : Int)⟩ : Rg) : Rg).plusW (Rg.mk x17 x18)).hi) fun x20 => (0 ≤ (1 : Int) ∧ (1 : Int) < ((3 : Nat) : Int)) ∧ ((0 ≤ (1 : Int) ∧ (1 : Int) < ((3 : Nat) : Int)) ∧ (lt (IntKind.i64.wrap ((0 : Int) - x4)) fun x21 => lt (IntKind.i64.wrap ((0 : Int) - x4)) fun x22 => lt ((((Rg.mk b1 b4) : Rg).times (Rg.mk x21 x22)).lo) fun x23 => lt ((((Rg.mk b1 b4) : Rg).times (Rg.mk x21 x22)).hi) fun x24 => ((-4000000000000000000 ≤ b1 * x21 ∧ b1 * x21 ≤ 4000000000000000000) ∧ (-4000000000000000000 ≤ b1 * x22 ∧ b1 * x22 ≤ 4000000000000000000) ∧ (-4000000000000000000 ≤ b4 * x21 ∧ b4 * x21 ≤ 4000000000000000000) ∧ (-4000000000000000000 ≤ b4 * x22 ∧ b4 * x22 ≤ 4000000000000000000)) ∧ ((0 ≤ (1 : Int) ∧ (1 : Int) < ((3 : Nat) : Int)) ∧ (lt (IntKind.i64.wrap (m4 * x2)) fun x25 => (0 ≤ (1 : Int) ∧ (1 : Int) < ((3 : Nat) : Int)) ∧ (lt (IntKind.i64.wrap (m4 * x2)) fun x26 => lt ((((Rg.mk x23 x24) : Rg).plusW (Rg.mk x25 x26)).lo) fun x27 => lt ((((Rg.mk x23 x24) : Rg).plusW (Rg.mk x25 x26)).hi) fun x28 => lt ((((Rg.mk x27 x28) : Rg).times (Rg.mk b1 b4)).lo) fun x29 => lt ((((Rg.mk x27 x28) : Rg).times (Rg.mk b1 b4)).hi) fun x30 => ((-4000000000000000000 ≤ x27 * b1 ∧ x27 * b1 ≤ 4000000000000000000) ∧ (-4000000000000000000 ≤ x27 * b4 ∧ x27 * b4 ≤ 4000000000000000000) ∧ (-4000000000000000000 ≤ x28 * b1 ∧ x28 * b1 ≤ 4000000000000000000) ∧ (-4000000000000000000 ≤ x28 * b4 ∧ x28 * b4 ≤ 4000000000000000000)) ∧ (lt ((((Rg.mk x15 x16) : Rg).plusW (Rg.mk x29 x30)).lo) fun x31 => lt ((((Rg.mk x15 x16) : Rg).plusW (Rg.mk x29 x30)).hi) fun x32 => lt ((sqW x27 x28).lo) fun x33 => lt ((sqW x27 x28).hi) fun x34 => lt ((((Rg.mk x19 x20) : Rg).plusW (Rg.mk x33 x34)).lo) fun x35 => lt ((((Rg.mk x19 x20) : Rg).plusW (Rg.mk x33 x34)).hi) fun x36 => (0 ≤ (2 : Int) ∧ (2 : Int) < ((3 : Nat) : Int)) ∧ ((0 ≤ (2 : Int) ∧ (2 : Int) < ((3 : Nat) : Int)) ∧ (lt (IntKind.i64.wrap ((0 : Int) - x4)) fun x37 => lt (IntKind.i64.wrap ((0 : Int) - x4)) fun x38 => lt ((((Rg.mk b2 b5) : Rg).times (Rg.mk x37 x38)).lo) fun x39 => lt ((((Rg.mk b2 b5) : Rg).times (Rg.mk x37 x38)).hi) fun x40 => ((-4000000000000000000 ≤ b2 * x37 ∧ b2 * x37 ≤ 4000000000000000000) ∧ (-4000000000000000000 ≤ b2 * x38 ∧ b2 * x38 ≤ 4000000000000000000) ∧ (-4000000000000000000 ≤ b5 * x37 ∧ b5 * x37 ≤ 4000000000000000000) ∧ (-4000000000000000000 ≤ b5 * x38 ∧ b5 * x38 ≤ 4000000000000000000)) ∧ ((0 ≤ (2 : Int) ∧ (2 : Int) < ((3 : Nat) : Int)) ∧ (lt (IntKind.i64.wrap (m4 * x3)) fun x41 => (0 ≤ (2 : Int) ∧ (2 : Int) < ((3 : Nat) : Int)) ∧ (lt (IntKind.i64.wrap (m4 * x3)) fun x42 => lt ((((Rg.mk x39 x40) : Rg).plusW (Rg.mk x41 x42)).lo) fun x43 => lt ((((Rg.mk x39 x40) : Rg).plusW (Rg.mk x41 x42)).hi) fun x44 => lt ((((Rg.mk x43 x44) : Rg).times (Rg.mk b2 b5)).lo) fun x45 => lt ((((Rg.mk x43 x44) : Rg).times (Rg.mk b2 b5)).hi) fun x46 => ((-4000000000000000000 ≤ x43 * b2 ∧ x43 * b2 ≤ 4000000000000000000) ∧ (-4000000000000000000 ≤ x43 * b5 ∧ x43 * b5 ≤ 4000000000000000000) ∧ (-4000000000000000000 ≤ x44 * b2 ∧ x44 * b2 ≤ 4000000000000000000) ∧ (-4000000000000000000 ≤ x44 * b5 ∧ x44 * b5 ≤ 4000000000000000000)) ∧ (lt ((((Rg.mk x31 x32) : Rg).plusW (Rg.mk x45 x46)).lo) fun x47 => lt ((((Rg.mk x31 x32) : Rg).plusW (Rg.mk x45 x46)).hi) fun x48 => lt ((sqW x43 x44).lo) fun x49 => lt ((sqW x43 x44).hi) fun x50 => lt ((((Rg.mk x35 x36) : Rg).plusW (Rg.mk x49 x50)).lo) fun x51 => lt ((((Rg.mk x35 x36) : Rg).plusW (Rg.mk x49 x50)).hi) fun x52 => lt ((sqsW (TB.mk (.mk b0 b1 b2) (.mk b3 b4 b5))).lo) fun x53 => lt ((sqsW (TB.mk (.mk b0 b1 b2) (.mk b3 b4 b5))).hi) fun x54 => lt (canW (TM.mk m0 m1 m2 m3 m4 m5 m6 m7 m8 m9 mA mB) (TB.mk (.mk b0 b1 b2) (.mk b3 b4 b5))) fun x55 => lt ((if m5 > x53 then m5 else x53)) fun x56 => lt (wr (wr (m7 * m4) * m4)) fun x57 => lt (IntKind.i64.wrap (x56 - x57)) fun x58 => lt ((if m6 < x54 then m6 else x54)) fun x59 => lt (wr (wr (m7 * m4) * m4)) fun x60 => lt (IntKind.i64.wrap (x59 - x60)) fun x61 => cond (x52 == (0 : Int)) (cond (x52 == (0 : Int)) (post (.t (.c (.v (.int .i64 2))))) (cond (decide (x51 > (0 : Int))) (cond (decide (x47 > (0 : Int))) ((true = true) ∧ (post (.t (.c (.v (.int .i64 0)))))) (lt (IntKind.i64.wrap (x47 * x47)) fun x62 => lt (IntKind.i64.wrap (x58 * x51)) fun x63 => cond (decide (x62 < x63)) (post (.t (.c (.v (.int .i64 0))))) (post (.t (.c (.v (.int .i64 1))))))) ((false = false) ∧ (post (.t (.c (.v (.int .i64 1)))))))) (cond (decide (x48 ≤ (0 : Int))) (lt (IntKind.i64.wrap (x48 * x48)) fun x64 => lt (IntKind.i64.wrap (x61 * x52)) fun x65 => cond (decide (x64 ≥ x65)) (post (.t (.c (.v (.int .i64 2))))) (cond (decide (x51 > (0 : Int))) (cond (decide (x47 > (0 : Int))) ((true = true) ∧ (post (.t (.c (.v (.int .i64 0)))))) (lt (IntKind.i64.wrap (x47 * x47)) fun x66 => lt (IntKind.i64.wrap (x58 * x51)) fun x67 => cond (decide (x66 < x67)) (post (.t (.c (.v (.int .i64 0))))) (post (.t (.c (.v (.int .i64 1))))))) ((false = false) ∧ (post (.t (.c (.v (.int .i64 1)))))))) ((false = false) ∧ (cond (decide (x51 > (0 : Int))) (cond (decide (x47 > (0 : Int))) ((true = true) ∧ (post (.t (.c (.v (.int .i64 0)))))) (lt (IntKind.i64.wrap (x47 * x47)) fun x68 => lt (IntKind.i64.wrap (x58 * x51)) fun x69 => cond (decide (x68 < x69)) (post (.t (.c (.v (.int .i64 0))))) (post (.t (.c (.v (.int .i64 1))))))) ((false = false) ∧ (post (.t (.c (.v (.int .i64 1)))))))))))))))))))))))))))
def q9Z : Ann := An (fun r => qr r [(1, ([[], [0], [], [2], [2, 3], [0, 1, 2, 3, 4], [], [6], [], [8], [8, 9], [6, 7, 8, 9, 10], [], [0, 1, 2, 3, 4, 5, 12], [0, 1, 2, 3, 4, 5, 6, 7, 8, 9, 10, 11, 12, 13]], [[23, 7], [23, 7], [23, 7], [23, 7], [23, 7], [7], [23, 7], [7, 23], [23, 7], [23, 7], [7, 23], [23, 7], [23], [9999, 7], []])), (6, ([[], [], [0, 1], [0, 1, 2], [], [], [4, 5], [4, 5, 6], [0, 1, 2, 3, 4, 5, 6, 7], [], [0, 1, 2, 3, 4, 5, 6, 7, 8, 9]], [[12], [12], [12], [12], [12], [12], [12], [12], [12], [], []])), (8, ([[], [], [1], [1, 2], [], [4], [4, 5], [1, 2, 3, 4, 5, 6], [], [8], [8, 9], [], [11], [11, 12], [8, 9, 10, 11, 12, 13], [1, 2, 3, 4, 5, 6, 7, 8, 9, 10, 11, 12, 13, 14], [0, 1, 2, 3, 4, 5, 6, 7, 8, 9, 10, 11, 12, 13, 14, 15], [], [0, 1, 2, 3, 4, 5, 6, 7, 8, 9, 10, 11, 12, 13, 14, 15, 16, 17]], [[65, 14], [65, 14], [65, 14], [65, 14], [65, 14], [65, 14], [65, 14], [65, 14], [65, 14], [65, 14], [65, 14], [65, 14], [65, 14], [65, 14], [65, 14], [65, 14], [14], [65], []])), (9, ([[], [], [], [1, 2], [0, 1, 2, 3], [], [], [0, 1, 2, 3, 4, 6], [0, 1, 2, 3, 4, 5, 6, 7], [0, 1, 2, 3, 4, 5, 6, 7, 8], [0, 1, 2, 3, 4, 5, 6, 7, 8, 9]], [[69, 70, 73, 74], [69, 70, 73, 74], [69, 70, 73, 74], [70, 73, 74], [73, 74], [69, 70, 73, 74], [69, 70, 73, 74], [74], [], [], []])), (12, ([[], [0], [], [2], [2, 3], [2, 3, 4], [0, 1, 2, 3, 4, 5], [], [7], [0, 1, 2, 3, 4, 5, 6, 7, 8], [], [10], [], [12], [12, 13], [12, 13, 14], [10, 11, 12, 13, 14, 15], [], [7, 8, 17], [7, 8, 10, 11, 12, 13, 14, 15, 16, 17, 18], [0, 1, 2, 3, 4, 5, 6, 7, 8, 9, 10, 11, 12, 13, 14, 15, 16, 17, 18, 19], [], [0, 1, 2, 3, 4, 5, 6, 7, 8, 9, 10, 11, 12, 13, 14, 15, 16, 17, 18, 19, 20, 21]], [[90, 100, 17], [90, 100, 17], [90, 100, 17], [90, 100, 17], [90, 100, 17], [90, 100, 17], [90, 100, 17], [90, 100, 17], [100, 17], [100, 17], [90, 100, 17], [90, 100, 17], [90, 100, 17], [90, 100, 17], [90, 100, 17], [90, 100, 17], [90, 100, 17], [90, 100, 17], [17], [17], [17], [90, 100], []]))]) fun b => qr b [(0, (some 4, some ⟨[3, 4, 7, 8, 9, 10, 30], [3, 4, 7, 9, 10], []⟩))]
set_option maxHeartbeats 8000000 in
theorem q9e (m0 m1 m2 m3 m4 m5 m6 m7 m8 m9 mA mB b0 b1 b2 b3 b4 b5 p0 p1 p2 p3 : Int) (hp : ((TM.mk m0 m1 m2 m3 m4 m5 m6 m7 m8 m9 mA mB)).Ok ∧ ((TB.mk (.mk b0 b1 b2) (.mk b3 b4 b5))).lo.inS 20 = true ∧ ((TB.mk (.mk b0 b1 b2) (.mk b3 b4 b5))).hi.inS 20 = true ∧ ((TM.mk m0 m1 m2 m3 m4 m5 m6 m7 m8 m9 mA mB)).canBe (TB.mk (.mk b0 b1 b2) (.mk b3 b4 b5)) ∧ (V3.mk p0 p1 p2).inS 1000 = true ∧ -1000101 ≤ p3 ∧ p3 ≤ 1000100) : q5v m0 m1 m2 m3 m4 m5 m6 m7 m8 m9 mA mB b0 b1 b2 b3 b4 b5 p0 p1 p2 p3 (fun r => LeD r (.t (.c (.v (.int .i64 (((TM.mk m0 m1 m2 m3 m4 m5 m6 m7 m8 m9 mA mB)).ans (TB.mk (.mk b0 b1 b2) (.mk b3 b4 b5)) ⟨p0, p1, p2⟩ p3)))))) := by
 obtain ⟨ho, hl, hh, hc, hp, ht1, ht2⟩ := hp
 obtain ⟨a1, a2, a3⟩ := qn.1 hl
 obtain ⟨c1, c2, c3⟩ := qn.1 hh
 obtain ⟨d1, d2, d3⟩ := qn.1 hp
 simp only at a1 a2 a3 c1 c2 c3 d1 d2 d3
 have hA : -1010101 ≤ p3 - m3 ∧ p3 - m3 ≤ 1010101 := by have := ho.tm; simp only at this; omega
 obtain ⟨_, _, _, _, _, _, _, bP, bL, bl0, bl1⟩ := stg3 ho hl hh hp ⟨ht1, ht2⟩
 have P0 : (Rg.mk 0 0).bd 0 := by unfold Rg.bd; simp
 have L0 := P0
 obtain ⟨f1, f2, f3, f4⟩ := fast_bd ho hl hh hc
 unfold q5v
 refine lt_i fun x1 h1 => lt_i fun x2 h2 => lt_i fun x3 h3 => lt_i fun x4 h4 => ?_
 have g1 := ho.px; have g2 := ho.py; have g3 := ho.pz
 simp only at g1 g2 g3
 replace h1 : IntKind.i64.wrap (p0 - m0) = x1 := h1
 replace h2 : IntKind.i64.wrap (p1 - m1) = x2 := h2
 replace h3 : IntKind.i64.wrap (p2 - m2) = x3 := h3
 rw [IntWalk.i64_in _ (by omega)] at h1 h2 h3 h4
 rw [← h1, ← h2, ← h3, ← h4]
 clear h1 h2 h3 h4 g1 g2 g3
 refine coordT ho.tk (by have := ho.px; simp only at this; omega) hA ⟨a1, c1⟩ (bw (by decide) P0) (bw (by decide) L0) (by decide) fun y1 y2 y3 y4 q1 q2 q3 q4 U1 V1 => ?_
 have P1 : Rg.bd ⟨y1, y2⟩ 404840400 := by subst q1 q2; exact Rg.plus_bd P0 U1 (by decide)
 have L1 : Rg.bd ⟨y3, y4⟩ 409739373680400 := by subst q3 q4; exact Rg.plus_bd L0 V1 (by decide)
 refine coordT ho.tk (by have := ho.py; simp only at this; omega) hA ⟨a2, c2⟩ (bw (by decide) P1) (bw (by decide) L1) (by decide) fun z1 z2 z3 z4 w1 w2 w3 w4 U2 V2 => ?_
 have P2 : Rg.bd ⟨z1, z2⟩ 809680800 := by subst w1 w2; exact Rg.plus_bd P1 U2 (by decide)
 have L2 : Rg.bd ⟨z3, z4⟩ 819478747360800 := by subst w3 w4; exact Rg.plus_bd L1 V2 (by decide)
 refine coordT ho.tk (by have := ho.pz; simp only at this; omega) hA ⟨a3, c3⟩ (bw (by decide) P2) (bw (by decide) L2) (by decide) fun x45 x46 x47 x48 e1 e2 e3 e4 _ _ => ?_
 subst w1 w2 w3 w4
 subst q1 q2 q3 q4
 replace e1 : x45 = ((TM.mk m0 m1 m2 m3 m4 m5 m6 m7 m8 m9 mA mB).prodR (TB.mk (.mk b0 b1 b2) (.mk b3 b4 b5)) (V3.mk p0 p1 p2) p3).lo := e1
 replace e2 : x46 = ((TM.mk m0 m1 m2 m3 m4 m5 m6 m7 m8 m9 mA mB).prodR (TB.mk (.mk b0 b1 b2) (.mk b3 b4 b5)) (V3.mk p0 p1 p2) p3).hi := e2
 replace e3 : x47 = ((TM.mk m0 m1 m2 m3 m4 m5 m6 m7 m8 m9 mA mB).leftR (TB.mk (.mk b0 b1 b2) (.mk b3 b4 b5)) (V3.mk p0 p1 p2) p3).lo := e3
 replace e4 : x48 = ((TM.mk m0 m1 m2 m3 m4 m5 m6 m7 m8 m9 mA mB).leftR (TB.mk (.mk b0 b1 b2) (.mk b3 b4 b5)) (V3.mk p0 p1 p2) p3).hi := e4
 refine lt_i fun x53 h53 => lt_i fun x54' h54 => lt_i fun _ _ => lt_i fun x56 h56 => lt_i fun x57 h57 => lt_i fun x52 h58 => lt_i fun x59 h59 => lt_i fun x60 h60 => lt_i fun x54 h61 => ?_
 have k1 := ho.tk; have k2 := ho.li
 have hsl := ho.slo; have hsp := ho.slp
 simp only at k1 k2
 have k3 := qv (x := m7) (y := m4) (A := 100) (B := 20) (C := 2000) (by omega) (by omega) (by decide)
 have k4 := qv (x := m7 * m4) (y := m4) (A := 2000) (B := 20) (C := 40000) k3 (by omega) (by decide)
 have es : wr (wr (m7 * m4) * m4) = (TM.mk m0 m1 m2 m3 m4 m5 m6 m7 m8 m9 mA mB).slow := by
  have s1 : wr (m7 * m4) = m7 * m4 := IntWalk.i64_in _ (by omega)
  rw [s1]
  exact IntWalk.i64_in _ (by omega)
 rw [es] at h57 h60
 rw [sqsW_eq hl hh] at h53 h54
 rw [← h53, mx_if] at h56
 rw [← h54, mn_if] at h59
 have e52 : x52 = ((TM.mk m0 m1 m2 m3 m4 m5 m6 m7 m8 m9 mA mB).fast (TB.mk (.mk b0 b1 b2) (.mk b3 b4 b5))).lo := by rw [← f3, ← h58, ← h56, ← h57]
 have e54 : x54 = ((TM.mk m0 m1 m2 m3 m4 m5 m6 m7 m8 m9 mA mB).fast (TB.mk (.mk b0 b1 b2) (.mk b3 b4 b5))).hi := by rw [← f4, ← h61, ← h59, ← h60]
 have eA : (TM.mk m0 m1 m2 m3 m4 m5 m6 m7 m8 m9 mA mB).ans (TB.mk (.mk b0 b1 b2) (.mk b3 b4 b5)) (V3.mk p0 p1 p2) p3 = ansR ⟨x45, x46⟩ ⟨x47, x48⟩ ⟨x52, x54⟩ := by
  unfold TM.ans; rw [e1, e2, e3, e4, e52, e54]
 rw [← e52] at f1
 rw [← e54] at f2
 obtain ⟨⟨y1, y2⟩, ⟨y3, y4⟩⟩ := bP
 obtain ⟨⟨z1, z2⟩, ⟨z3, z4⟩⟩ := bL
 rw [← e1] at y1 y2
 rw [← e2] at y3 y4
 rw [← e3] at z1 z2
 rw [← e4] at z3 z4
 rw [eA]
 clear eA e1 e2 e3 e4 e52 e54 es h53 h54 h56 h57 h58 h59 h60 h61
 have g1 := qv (x := x46) (y := x46) (A := 1214521200) (B := 1214521200) (C := 2000000000000000000) (by omega) (by omega) (by decide)
 have g2 := qv (x := x54) (y := x48) (A := 1200) (B := 1229218121041200) (C := 2000000000000000000) (by omega) (by omega) (by decide)
 have g3 := qv (x := x45) (y := x45) (A := 1214521200) (B := 1214521200) (C := 2000000000000000000) (by omega) (by omega) (by decide)
 have g4 := qv (x := x52) (y := x47) (A := 1200) (B := 1229218121041200) (C := 2000000000000000000) (by omega) (by omega) (by decide)
 have w1 : IntKind.i64.wrap (x46 * x46) = x46 * x46 := IntWalk.i64_in _ (by omega)
 have w2 : IntKind.i64.wrap (x54 * x48) = x54 * x48 := IntWalk.i64_in _ (by omega)
 have w3 : IntKind.i64.wrap (x45 * x45) = x45 * x45 := IntWalk.i64_in _ (by omega)
 have w4 : IntKind.i64.wrap (x52 * x47) = x52 * x47 := IntWalk.i64_in _ (by omega)
 rw [w1, w2, w3, w4]
 unfold ansR
 simp only
 generalize x46 * x46 = X1 at *
 generalize x54 * x48 = X2 at *
 generalize x45 * x45 = X3 at *
 generalize x52 * x47 = X4 at *
 (repeat' with_reducible first | (refine lt_i ?_; intro _ _) | (refine qg ?_ ?_ <;> intro _) | (refine And.intro ?_ ?_))
 all_goals first
  | decide
  | (refine leI ?_; simp only [beq_iff_eq, beq_eq_false_iff_ne, ne_eq, decide_eq_true_eq, decide_eq_false_iff_not] at *; (repeat' split) <;> omega)
def q2m : Con := fun args => match args with
 | [.t (.a [.v (.int .i64 m0), .v (.int .i64 m1), .v (.int .i64 m2), .v (.int .i64 m3), .v (.int .i64 m4), .v (.int .i64 m5), .v (.int .i64 m6), .v (.int .i64 m7), .v (.int .i64 m8), .v (.int .i64 m9), .v (.int .i64 mA), .v (.int .i64 mB)]), .t (.a [.v (.int .i64 b0), .v (.int .i64 b1), .v (.int .i64 b2), .v (.int .i64 b3), .v (.int .i64 b4), .v (.int .i64 b5)]), .t (.a [.v (.int .i64 p0), .v (.int .i64 p1), .v (.int .i64 p2), .v (.int .i64 p3)])] => some (.t (.c (.v (.int .i64 (((TM.mk m0 m1 m2 m3 m4 m5 m6 m7 m8 m9 mA mB)).ans (TB.mk (.mk b0 b1 b2) (.mk b3 b4 b5)) ⟨p0, p1, p2⟩ p3)))), some (((TM.mk m0 m1 m2 m3 m4 m5 m6 m7 m8 m9 mA mB)).Ok ∧ ((TB.mk (.mk b0 b1 b2) (.mk b3 b4 b5))).lo.inS 20 = true ∧ ((TB.mk (.mk b0 b1 b2) (.mk b3 b4 b5))).hi.inS 20 = true ∧ ((TM.mk m0 m1 m2 m3 m4 m5 m6 m7 m8 m9 mA mB)).canBe (TB.mk (.mk b0 b1 b2) (.mk b3 b4 b5)) ∧ (V3.mk p0 p1 p2).inS 1000 = true ∧ -1000101 ≤ p3 ∧ p3 ≤ 1000100), false)
 | _ => none
theorem qay : Ok Tryz.prog 104 q2m := by
 refine Ok.fn (ann := q9Z) mixed qo VSks39 ValidIt.no (fn := Tryz.f104) (by kernel_rfl) (by kernel_rfl) (by kernel_rfl) fun args r pre fresh h hp => ?_
 unfold q2m at h
 split at h
 ·rename_i m0 m1 m2 m3 m4 m5 m6 m7 m8 m9 mA mB b0 b1 b2 b3 b4 b5 p0 p1 p2 p3
  cases h
  refine ⟨rfl, fun _ _ _ => False, _, LeA.refl _, Nat.le_of_ble_eq_true (by kernel_rfl), ?_, ?_⟩
  ·exact cast (by kernel_rfl) (q9e m0 m1 m2 m3 m4 m5 m6 m7 m8 m9 mA mB b0 b1 b2 b3 b4 b5 p0 p1 p2 p3 hp)
  ·exact cast (by kernel_rfl) trivial
 ·cases h
def Sks40 : Sum := addS Sks39 104 q2m
theorem VSks40 : Valid Tryz.prog Sks40 := Valid.add VSks39 qay
theorem ans_val (m : TM) (b : TB) (p : V3) (t : Int) : m.ans b p t = 0 ∨ m.ans b p t = 1 ∨ m.ans b p t = 2 := by
 unfold TM.ans ansR
 split
 ·omega
 ·split <;> omega
theorem ownR_bd {e l a b : Int} (ha : 0 ≤ a ∧ a ≤ 10000) (hb : 0 ≤ b ∧ b ≤ 10000) : (0 ≤ (ownR e l a b).lo ∧ (ownR e l a b).lo ≤ 10000) ∧ (0 ≤ (ownR e l a b).hi ∧ (ownR e l a b).hi ≤ 10000) := by
 unfold ownR
 simp only
 constructor
 ·(repeat' split) <;> omega
 ·(repeat' split) <;> omega
theorem qeS (m : TM) (b : TB) {l : List TH} {k : Nat} (h : k < l.length) : m.scores b (l.take (k + 1)) = (m.scores b (l.take k)).plus (m.hitR b (qe l k)) := by
 rw [qgg h]; unfold TM.scores; rw [List.foldl_append]; rfl
theorem qk9 {m : TM} {h : TH} (ho : m.Ok) (hh : h.Ok) : (0 ≤ h.w * m.mi ∧ h.w * m.mi ≤ 10000) ∧ (0 ≤ h.w * m.no ∧ h.w * m.no ≤ 10000) := by
 have h1 := qv (x := h.w) (y := m.mi) (A := 100) (B := 100) (C := 10000) (by have := hh.w; omega) (by have := ho.mi; omega) (by decide)
 have h2 := qv (x := h.w) (y := m.no) (A := 100) (B := 100) (C := 10000) (by have := hh.w; omega) (by have := ho.no; omega) (by decide)
 have h3 := Int.mul_nonneg hh.w.1 ho.mi.1
 have h4 := Int.mul_nonneg hh.w.1 ho.no.1
 omega
theorem scores_bd {m : TM} {b : TB} {l : List TH} (ho : m.Ok) (hok : ∀ i, i < l.length → (qe l i).Ok) : ∀ k, k ≤ l.length → (0 ≤ (m.scores b (l.take k)).lo ∧ (m.scores b (l.take k)).lo ≤ 10000 * k) ∧ (0 ≤ (m.scores b (l.take k)).hi ∧ (m.scores b (l.take k)).hi ≤ 10000 * k) := by
 intro k
 induction k with
 | zero => intro _; simp [TM.scores]
 | succ k ih =>
  intro hk
  have h1 := ih (by omega)
  obtain ⟨g1, g2⟩ := qk9 ho (hok k (by omega))
  have h2 := ownR_bd (e := m.ans b (qe l k).p ((qe l k).t + m.ea)) (l := m.ans b (qe l k).p ((qe l k).t - m.la - 1)) g1 g2
  rw [qeS m b (by omega)]
  unfold TM.hitR Rg.plus
  simp only
  push_cast
  omega
def exM : TM := ⟨0, 0, 0, 0, 1, 25, 50, 9, 0, 0, 1, 2⟩
def exS : V3 := ⟨5, 0, 0⟩
def exB : TB := ⟨⟨5, 0, 0⟩, ⟨5, 0, 0⟩⟩
def exH : List TH := [⟨⟨0, 12, 0⟩, 4, 1⟩, ⟨⟨5, 0, 0⟩, 0, 3⟩]
theorem ex_both : exM.both exS = 0 := by decide
theorem ex_ok : exM.Ok ∧ exS.inS 20 = true ∧ exM.permit exS ∧ exM.slow < exS.dot exS := qhu ex_both
theorem qka : exM.first exS ⟨0, 12, 0⟩ = 4 := by
 have h := qeO exM exS ⟨0, 12, 0⟩ ex_ok.1.slp ex_ok.2.2.2 (n := 4) (by decide) (by decide)
 exact first_of exM exS ⟨0, 12, 0⟩ h (by decide) (by decide)
theorem ex_score : exM.score exS exH = 6 := by decide
theorem qgr : (exM.scores exB exH).lo = 6 ∧ (exM.scores exB exH).hi = 6 := ⟨by decide, by decide⟩
def TM.siE (m : TM) (b : TB) (l : List TH) : Int := qd [qd [qd [m.err, b.err], ql l], unl (canW m b) 12]
def TM.siL (m : TM) (b : TB) (l : List TH) : Int := if m.siE b l = 0 then (m.scores b l).lo else 0
def TM.siH (m : TM) (b : TB) (l : List TH) : Int := if m.siE b l = 0 then (m.scores b l).hi else 0
theorem si_ok {m : TM} {b : TB} {l : List TH} (h : m.siE b l = 0) : m.Ok ∧ b.lo.inS 20 = true ∧ b.hi.inS 20 = true ∧ m.canBe b ∧ l.length ≤ 12 ∧ (∀ i, i < l.length → (qe l i).Ok) ∧ b.err = 0 ∧ ql l = 0 := by
 unfold TM.siE at h
 obtain ⟨q1, q3⟩ := fn2 h
 obtain ⟨q0, q2⟩ := fn2 q1
 obtain ⟨q4, q5⟩ := fn2 q0
 have hb := q0Z q5
 have hc := q6J (m := m) hb.1 hb.2
 rw [unl_0 (by decide)] at q3
 obtain ⟨q6, q7⟩ := q1N q2
 exact ⟨q1g q4, hb.1, hb.2, q3U.1 (by rw [← hc]; exact q3), q6, q7, q5, q2⟩
theorem ex_all : exM.fE ⟨5, 0, 0⟩ ⟨0, 12, 0⟩ = 0 ∧ exM.fV ⟨5, 0, 0⟩ ⟨0, 12, 0⟩ = 4 ∧ exM.nE ⟨5, 0, 0⟩ ⟨7, 12, 0⟩ = 0 ∧ exM.nN ⟨5, 0, 0⟩ ⟨7, 12, 0⟩ = 144 ∧ exM.nD ⟨5, 0, 0⟩ ⟨7, 12, 0⟩ = 1 ∧ exM.sE ⟨5, 0, 0⟩ exH = 0 ∧ exM.sV ⟨5, 0, 0⟩ exH = 6 ∧ exM.siE exB exH = 0 ∧ exM.siL exB exH = 6 ∧ exM.siH exB exH = 6 := by
 have a1 : exM.fE ⟨5, 0, 0⟩ ⟨0, 12, 0⟩ = 0 := by
  unfold TM.fE
  rw [show exM.first ⟨5, 0, 0⟩ ⟨0, 12, 0⟩ = 4 from qka]; decide
 have a2 : exM.fV ⟨5, 0, 0⟩ ⟨0, 12, 0⟩ = 4 := (if_pos a1).trans qka
 have e1 : exM.num ⟨5, 0, 0⟩ ⟨7, 12, 0⟩ = 3600 := by decide
 have e2 : (V3.mk 5 0 0).dot ⟨5, 0, 0⟩ = 25 := by decide
 have a3 : exM.nE ⟨5, 0, 0⟩ ⟨7, 12, 0⟩ = 0 := by
  unfold TM.nE
  rw [e1, e2]; decide
 have a4 : exM.nN ⟨5, 0, 0⟩ ⟨7, 12, 0⟩ = 144 := by unfold TM.nN; rw [if_pos a3, e1, e2]; decide
 have a5 : exM.nD ⟨5, 0, 0⟩ ⟨7, 12, 0⟩ = 1 := by unfold TM.nD; rw [if_pos a3, e1, e2]; decide
 have a6 : exM.sE ⟨5, 0, 0⟩ exH = 0 := by decide
 have a7 : exM.sV ⟨5, 0, 0⟩ exH = 6 := (if_pos a6).trans ex_score
 have a8 : exM.siE exB exH = 0 := by
  unfold TM.siE
  rw [q6J (by decide) (by decide)]; decide
 exact ⟨a1, a2, a3, a4, a5, a6, a7, a8, (if_pos a8).trans qgr.1, (if_pos a8).trans qgr.2⟩
def qp (m0 m1 m2 m3 m4 m5 m6 m7 m8 m9 mA mB b0 b1 b2 b3 b4 b5 : Int) (l : List TH) (v0_0 v0_1 v0_2 : Int) : DS := ⟨[none, none, none, some (.t (.c (.p 3 0))), some (.t (.c (.p 4 0))), none, some (.t (.c (.p 6 0))), some (.t (.c (.p 7 0))), none, none, none, none, none, none, none, none, none, some (.t (.c (.sl 5 l.length (qi l)))), some (.t (.c (.v (.int .i64 ((l.length : Nat) : Int))))), some (.t (.c (.v (.int .i64 v0_2)))), none, none, none, none, none, none, none, none, none, none, none, none, none, none, none, none, none, none, none, none, none, none, none, none, none, none, none, none, none, none, none, none, none, none, none, none, none, none, none, none, none, none, none, none, none, none, none, none, none, none, none, none, none, none, none, none, none, none, none, none, none, none, none, none, none, none], [none, none, none, some (.box 106 [.v (.int .i64 m0), .v (.int .i64 m1), .v (.int .i64 m2), .v (.int .i64 m3), .v (.int .i64 m4), .v (.int .i64 m5), .v (.int .i64 m6), .v (.int .i64 m7), .v (.int .i64 m8), .v (.int .i64 m9), .v (.int .i64 mA), .v (.int .i64 mB)]), some (.box 25 [.v (.int .i64 b0), .v (.int .i64 b1), .v (.int .i64 b2), .v (.int .i64 b3), .v (.int .i64 b4), .v (.int .i64 b5)]), none, some (.box 127 [.v (.int .i64 0), .v (.int .i64 0)]), some (.box 127 [.v (.int .i64 v0_0), .v (.int .i64 v0_1)]), none, none, none, none, none, none, none, none, none, none, none, none, none, none, none, none, none, none, none, none, none, none, none, none, none, none, none, none, none, none, none, none, none, none, none, none, none, none, none, none, none, none, none, none, none, none, none, none, none, none, none, none, none, none, none, none, none, none, none, none, none, none, none, none, none, none, none, none, none, none, none, none, none, none, none, none, none, none]⟩
def q5w (J : Inv) (m0 m1 m2 m3 m4 m5 m6 m7 m8 m9 mA mB b0 b1 b2 b3 b4 b5 : Int) (l : List TH) (post : DV → Prop) : Prop := ∃ n, J 0 (n :: []) (qp m0 m1 m2 m3 m4 m5 m6 m7 m8 m9 mA mB b0 b1 b2 b3 b4 b5 l 0 0 0)
def q1e : Ann := ⟨fun r => qr r [(6, ([[], [0], [], [2], [2, 3], [0, 1, 2, 3, 4], [], [6], [], [8], [8, 9], [6, 7, 8, 9, 10], [0, 1, 2, 3, 4, 5], [0, 1, 2, 3, 4, 5, 6, 7, 8, 9, 10, 11, 12]], [[], [], [], [], [], [], [], [], [], [], [], [], [], []])), (7, ([[], [], [], [0, 1, 2], [], [], [], [0, 1, 2, 3, 4, 5, 6], [0, 1, 2, 3, 4, 5, 6, 7], [0, 1, 2, 3, 4, 5, 6, 7, 8]], [[44, 48], [44, 48], [44, 48], [48], [44, 48], [44, 48], [44, 48], [], [], []]))], fun b => qr b [(0, (none, some ⟨[3, 4, 6, 7, 17, 18, 19], [3, 4, 6, 7], []⟩))], fun _ => [], noIt, false, fun r => qr r [(9, (3, [49]))], fun _ => none⟩
def q4x (J : Inv) (m0 m1 m2 m3 m4 m5 m6 m7 m8 m9 mA mB b0 b1 b2 b3 b4 b5 : Int) (l : List TH) (v0_0 v0_1 v0_2 : Int) (nn0 : Nat) (post : DV → Prop) : Prop := (fun (Z1 : TM) (Z2 : Rg) (Z3 : TB) => cond (decide (v0_2 < ((l.length : Nat) : Int))) ((0 ≤ v0_2 ∧ v0_2 < ((l.length : Nat) : Int)) ∧ (((Z1).Ok ∧ ((qe l v0_2.toNat)).Ok) ∧ (lt (IntKind.i64.wrap (((qe l v0_2.toNat).w) * mB)) fun x1 => lt (IntKind.i64.wrap (((qe l v0_2.toNat).w) * mA)) fun x2 => ((Z1).Ok ∧ (Z3).lo.inS 20 = true ∧ (Z3).hi.inS 20 = true ∧ (Z1).canBe Z3 ∧ (⟨((qe l v0_2.toNat).p.x), ((qe l v0_2.toNat).p.y), ((qe l v0_2.toNat).p.z)⟩ : V3).inS 1000 = true ∧ -1000101 ≤ (((qe l v0_2.toNat).t) + m8) ∧ (((qe l v0_2.toNat).t) + m8) ≤ 1000100) ∧ (((Z1).Ok ∧ (Z3).lo.inS 20 = true ∧ (Z3).hi.inS 20 = true ∧ (Z1).canBe Z3 ∧ (⟨((qe l v0_2.toNat).p.x), ((qe l v0_2.toNat).p.y), ((qe l v0_2.toNat).p.z)⟩ : V3).inS 1000 = true ∧ -1000101 ≤ (((qe l v0_2.toNat).t) - m9 - 1) ∧ (((qe l v0_2.toNat).t) - m9 - 1) ≤ 1000100) ∧ ((cond (((Z1).ans Z3 ⟨((qe l v0_2.toNat).p.x), ((qe l v0_2.toNat).p.y), ((qe l v0_2.toNat).p.z)⟩ (((qe l v0_2.toNat).t) + m8)) == (0 : Int)) (True) ((false = false) ∧ (True))) ∧ (lt ((bif (((Z1).ans Z3 ⟨((qe l v0_2.toNat).p.x), ((qe l v0_2.toNat).p.y), ((qe l v0_2.toNat).p.z)⟩ (((qe l v0_2.toNat).t) + m8)) == (0 : Int)) then (((Z1).ans Z3 ⟨((qe l v0_2.toNat).p.x), ((qe l v0_2.toNat).p.y), ((qe l v0_2.toNat).p.z)⟩ (((qe l v0_2.toNat).t) - m9 - 1)) == (2 : Int)) else false)) fun x3 => cond x3 (lt ((if x2 < x1 then x2 else x1)) fun x4 => cond (((Z1).ans Z3 ⟨((qe l v0_2.toNat).p.x), ((qe l v0_2.toNat).p.y), ((qe l v0_2.toNat).p.z)⟩ (((qe l v0_2.toNat).t) + m8)) != (2 : Int)) (cond (((Z1).ans Z3 ⟨((qe l v0_2.toNat).p.x), ((qe l v0_2.toNat).p.y), ((qe l v0_2.toNat).p.z)⟩ (((qe l v0_2.toNat).t) - m9 - 1)) != (0 : Int)) (lt ((if x2 > x1 then x2 else x1)) fun x5 => lt (((Z2 : Rg).plusW (Rg.mk x4 x5)).lo) fun x6 => lt (((Z2 : Rg).plusW (Rg.mk x4 x5)).hi) fun x7 => lt (IntKind.i64.wrap (v0_2 + (1 : Int))) fun x8 => J 0 (nn0 :: []) (qp m0 m1 m2 m3 m4 m5 m6 m7 m8 m9 mA mB b0 b1 b2 b3 b4 b5 l x6 x7 x8)) (lt (((Z2 : Rg).plusW (Rg.mk x4 x1)).lo) fun x9 => lt (((Z2 : Rg).plusW (Rg.mk x4 x1)).hi) fun x10 => lt (IntKind.i64.wrap (v0_2 + (1 : Int))) fun x11 => J 0 (nn0 :: []) (qp m0 m1 m2 m3 m4 m5 m6 m7 m8 m9 mA mB b0 b1 b2 b3 b4 b5 l x9 x10 x11))) (cond (((Z1).ans Z3 ⟨((qe l v0_2.toNat).p.x), ((qe l v0_2.toNat).p.y), ((qe l v0_2.toNat).p.z)⟩ (((qe l v0_2.toNat).t) - m9 - 1)) != (0 : Int)) (lt ((if x2 > (0 : Int) then x2 else (0 : Int))) fun x12 => lt (((Z2 : Rg).plusW (Rg.mk x4 x12)).lo) fun x13 => lt (((Z2 : Rg).plusW (Rg.mk x4 x12)).hi) fun x14 => lt (IntKind.i64.wrap (v0_2 + (1 : Int))) fun x15 => J 0 (nn0 :: []) (qp m0 m1 m2 m3 m4 m5 m6 m7 m8 m9 mA mB b0 b1 b2 b3 b4 b5 l x13 x14 x15)) (lt (((Z2 : Rg).plusW (⟨x4, (0 : Int)⟩ : Rg)).lo) fun x16 => lt (((Z2 : Rg).plusW (⟨x4, (0 : Int)⟩ : Rg)).hi) fun x17 => lt (IntKind.i64.wrap (v0_2 + (1 : Int))) fun x18 => J 0 (nn0 :: []) (qp m0 m1 m2 m3 m4 m5 m6 m7 m8 m9 mA mB b0 b1 b2 b3 b4 b5 l x16 x17 x18)))) (cond (((Z1).ans Z3 ⟨((qe l v0_2.toNat).p.x), ((qe l v0_2.toNat).p.y), ((qe l v0_2.toNat).p.z)⟩ (((qe l v0_2.toNat).t) + m8)) == (0 : Int)) (cond (((Z1).ans Z3 ⟨((qe l v0_2.toNat).p.x), ((qe l v0_2.toNat).p.y), ((qe l v0_2.toNat).p.z)⟩ (((qe l v0_2.toNat).t) + m8)) != (2 : Int)) (cond (((Z1).ans Z3 ⟨((qe l v0_2.toNat).p.x), ((qe l v0_2.toNat).p.y), ((qe l v0_2.toNat).p.z)⟩ (((qe l v0_2.toNat).t) - m9 - 1)) != (0 : Int)) (lt ((if x2 > x1 then x2 else x1)) fun x19 => lt (((Z2 : Rg).plusW (Rg.mk x1 x19)).lo) fun x20 => lt (((Z2 : Rg).plusW (Rg.mk x1 x19)).hi) fun x21 => lt (IntKind.i64.wrap (v0_2 + (1 : Int))) fun x22 => J 0 (nn0 :: []) (qp m0 m1 m2 m3 m4 m5 m6 m7 m8 m9 mA mB b0 b1 b2 b3 b4 b5 l x20 x21 x22)) (lt (((Z2 : Rg).plusW (Rg.mk x1 x1)).lo) fun x23 => lt (((Z2 : Rg).plusW (Rg.mk x1 x1)).hi) fun x24 => lt (IntKind.i64.wrap (v0_2 + (1 : Int))) fun x25 => J 0 (nn0 :: []) (qp m0 m1 m2 m3 m4 m5 m6 m7 m8 m9 mA mB b0 b1 b2 b3 b4 b5 l x23 x24 x25))) (cond (((Z1).ans Z3 ⟨((qe l v0_2.toNat).p.x), ((qe l v0_2.toNat).p.y), ((qe l v0_2.toNat).p.z)⟩ (((qe l v0_2.toNat).t) - m9 - 1)) != (0 : Int)) (lt ((if x2 > (0 : Int) then x2 else (0 : Int))) fun x26 => lt (((Z2 : Rg).plusW (Rg.mk x1 x26)).lo) fun x27 => lt (((Z2 : Rg).plusW (Rg.mk x1 x26)).hi) fun x28 => lt (IntKind.i64.wrap (v0_2 + (1 : Int))) fun x29 => J 0 (nn0 :: []) (qp m0 m1 m2 m3 m4 m5 m6 m7 m8 m9 mA mB b0 b1 b2 b3 b4 b5 l x27 x28 x29)) (lt (((Z2 : Rg).plusW (⟨x1, (0 : Int)⟩ : Rg)).lo) fun x30 => lt (((Z2 : Rg).plusW (⟨x1, (0 : Int)⟩ : Rg)).hi) fun x31 => lt (IntKind.i64.wrap (v0_2 + (1 : Int))) fun x32 => J 0 (nn0 :: []) (qp m0 m1 m2 m3 m4 m5 m6 m7 m8 m9 mA mB b0 b1 b2 b3 b4 b5 l x30 x31 x32)))) (cond (((Z1).ans Z3 ⟨((qe l v0_2.toNat).p.x), ((qe l v0_2.toNat).p.y), ((qe l v0_2.toNat).p.z)⟩ (((qe l v0_2.toNat).t) - m9 - 1)) == (2 : Int)) (cond (((Z1).ans Z3 ⟨((qe l v0_2.toNat).p.x), ((qe l v0_2.toNat).p.y), ((qe l v0_2.toNat).p.z)⟩ (((qe l v0_2.toNat).t) + m8)) != (2 : Int)) (cond (((Z1).ans Z3 ⟨((qe l v0_2.toNat).p.x), ((qe l v0_2.toNat).p.y), ((qe l v0_2.toNat).p.z)⟩ (((qe l v0_2.toNat).t) - m9 - 1)) != (0 : Int)) (lt ((if x2 > x1 then x2 else x1)) fun x33 => lt (((Z2 : Rg).plusW (Rg.mk x2 x33)).lo) fun x34 => lt (((Z2 : Rg).plusW (Rg.mk x2 x33)).hi) fun x35 => lt (IntKind.i64.wrap (v0_2 + (1 : Int))) fun x36 => J 0 (nn0 :: []) (qp m0 m1 m2 m3 m4 m5 m6 m7 m8 m9 mA mB b0 b1 b2 b3 b4 b5 l x34 x35 x36)) (lt (((Z2 : Rg).plusW (Rg.mk x2 x1)).lo) fun x37 => lt (((Z2 : Rg).plusW (Rg.mk x2 x1)).hi) fun x38 => lt (IntKind.i64.wrap (v0_2 + (1 : Int))) fun x39 => J 0 (nn0 :: []) (qp m0 m1 m2 m3 m4 m5 m6 m7 m8 m9 mA mB b0 b1 b2 b3 b4 b5 l x37 x38 x39))) (cond (((Z1).ans Z3 ⟨((qe l v0_2.toNat).p.x), ((qe l v0_2.toNat).p.y), ((qe l v0_2.toNat).p.z)⟩ (((qe l v0_2.toNat).t) - m9 - 1)) != (0 : Int)) (lt ((if x2 > (0 : Int) then x2 else (0 : Int))) fun x40 => lt (((Z2 : Rg).plusW (Rg.mk x2 x40)).lo) fun x41 => lt (((Z2 : Rg).plusW (Rg.mk x2 x40)).hi) fun x42 => lt (IntKind.i64.wrap (v0_2 + (1 : Int))) fun x43 => J 0 (nn0 :: []) (qp m0 m1 m2 m3 m4 m5 m6 m7 m8 m9 mA mB b0 b1 b2 b3 b4 b5 l x41 x42 x43)) (lt (((Z2 : Rg).plusW (⟨x2, (0 : Int)⟩ : Rg)).lo) fun x44 => lt (((Z2 : Rg).plusW (⟨x2, (0 : Int)⟩ : Rg)).hi) fun x45 => lt (IntKind.i64.wrap (v0_2 + (1 : Int))) fun x46 => J 0 (nn0 :: []) (qp m0 m1 m2 m3 m4 m5 m6 m7 m8 m9 mA mB b0 b1 b2 b3 b4 b5 l x44 x45 x46)))) (cond (((Z1).ans Z3 ⟨((qe l v0_2.toNat).p.x), ((qe l v0_2.toNat).p.y), ((qe l v0_2.toNat).p.z)⟩ (((qe l v0_2.toNat).t) + m8)) != (2 : Int)) (cond (((Z1).ans Z3 ⟨((qe l v0_2.toNat).p.x), ((qe l v0_2.toNat).p.y), ((qe l v0_2.toNat).p.z)⟩ (((qe l v0_2.toNat).t) - m9 - 1)) != (0 : Int)) (lt ((if x2 > x1 then x2 else x1)) fun x47 => lt (((Z2 : Rg).plusW (⟨(0 : Int), x47⟩ : Rg)).lo) fun x48 => lt (((Z2 : Rg).plusW (⟨(0 : Int), x47⟩ : Rg)).hi) fun x49 => lt (IntKind.i64.wrap (v0_2 + (1 : Int))) fun x50 => J 0 (nn0 :: []) (qp m0 m1 m2 m3 m4 m5 m6 m7 m8 m9 mA mB b0 b1 b2 b3 b4 b5 l x48 x49 x50)) (lt (((Z2 : Rg).plusW (⟨(0 : Int), x1⟩ : Rg)).lo) fun x51 => lt (((Z2 : Rg).plusW (⟨(0 : Int), x1⟩ : Rg)).hi) fun x52 => lt (IntKind.i64.wrap (v0_2 + (1 : Int))) fun x53 => J 0 (nn0 :: []) (qp m0 m1 m2 m3 m4 m5 m6 m7 m8 m9 mA mB b0 b1 b2 b3 b4 b5 l x51 x52 x53))) (cond (((Z1).ans Z3 ⟨((qe l v0_2.toNat).p.x), ((qe l v0_2.toNat).p.y), ((qe l v0_2.toNat).p.z)⟩ (((qe l v0_2.toNat).t) - m9 - 1)) != (0 : Int)) (lt ((if x2 > (0 : Int) then x2 else (0 : Int))) fun x54 => lt (((Z2 : Rg).plusW (⟨(0 : Int), x54⟩ : Rg)).lo) fun x55 => lt (((Z2 : Rg).plusW (⟨(0 : Int), x54⟩ : Rg)).hi) fun x56 => lt (IntKind.i64.wrap (v0_2 + (1 : Int))) fun x57 => J 0 (nn0 :: []) (qp m0 m1 m2 m3 m4 m5 m6 m7 m8 m9 mA mB b0 b1 b2 b3 b4 b5 l x55 x56 x57)) (lt (((Z2 : Rg).plusW (⟨(0 : Int), (0 : Int)⟩ : Rg)).lo) fun x58 => lt (((Z2 : Rg).plusW (⟨(0 : Int), (0 : Int)⟩ : Rg)).hi) fun x59 => lt (IntKind.i64.wrap (v0_2 + (1 : Int))) fun x60 => J 0 (nn0 :: []) (qp m0 m1 m2 m3 m4 m5 m6 m7 m8 m9 mA mB b0 b1 b2 b3 b4 b5 l x58 x59 x60)))))))))))) (post (.t (.a [.v (.int .i64 v0_0), .v (.int .i64 v0_1)])))) (TM.mk m0 m1 m2 m3 m4 m5 m6 m7 m8 m9 mA mB) (Rg.mk v0_0 v0_1) (TB.mk (.mk b0 b1 b2) (.mk b3 b4 b5))
theorem qaz (J : Inv) (post : DV → Prop) : AllG J (qz Tryz.prog tab Sks40 q1e J Tryz.f65 post) = (((∀ F s, ¬ J 0 (0 :: F) s) ∧ ∀ n F s, J 0 ((n + 1) :: F) s → round Tryz.prog tab Sks40 q1e J Tryz.f65 post 0 (n :: F) s) ∧ True) := by kernel_rfl
def q0T (m0 m1 m2 m3 m4 m5 m6 m7 m8 m9 mA mB b0 b1 b2 b3 b4 b5 : Int) (l : List TH) : Inv := fun b F s => match b, F with
 | 0, [nn0] => ∃ (v0_0 : Int) (v0_1 : Int) (v0_2 : Int), s = qp m0 m1 m2 m3 m4 m5 m6 m7 m8 m9 mA mB b0 b1 b2 b3 b4 b5 l v0_0 v0_1 v0_2 ∧ (0 ≤ v0_2 ∧ v0_2 ≤ l.length ∧ (nn0 : Int) + v0_2 = l.length + 1 ∧ v0_0 = (((TM.mk m0 m1 m2 m3 m4 m5 m6 m7 m8 m9 mA mB)).scores (TB.mk (.mk b0 b1 b2) (.mk b3 b4 b5)) (l.take v0_2.toNat)).lo ∧ v0_1 = (((TM.mk m0 m1 m2 m3 m4 m5 m6 m7 m8 m9 mA mB)).scores (TB.mk (.mk b0 b1 b2) (.mk b3 b4 b5)) (l.take v0_2.toNat)).hi)
 | _, _ => False
theorem q8G (m0 m1 m2 m3 m4 m5 m6 m7 m8 m9 mA mB b0 b1 b2 b3 b4 b5 : Int) (l : List TH) (v0_0 v0_1 v0_2 : Int) (nn0 : Nat) (hp : ((TM.mk m0 m1 m2 m3 m4 m5 m6 m7 m8 m9 mA mB)).Ok ∧ ((TB.mk (.mk b0 b1 b2) (.mk b3 b4 b5))).lo.inS 20 = true ∧ ((TB.mk (.mk b0 b1 b2) (.mk b3 b4 b5))).hi.inS 20 = true ∧ ((TM.mk m0 m1 m2 m3 m4 m5 m6 m7 m8 m9 mA mB)).canBe (TB.mk (.mk b0 b1 b2) (.mk b3 b4 b5)) ∧ (l).length ≤ 12 ∧ ∀ i, i < (l).length → (qe l i).Ok) (hi : 0 ≤ v0_2 ∧ v0_2 ≤ l.length ∧ ((nn0 + 1) : Int) + v0_2 = l.length + 1 ∧ v0_0 = (((TM.mk m0 m1 m2 m3 m4 m5 m6 m7 m8 m9 mA mB)).scores (TB.mk (.mk b0 b1 b2) (.mk b3 b4 b5)) (l.take v0_2.toNat)).lo ∧ v0_1 = (((TM.mk m0 m1 m2 m3 m4 m5 m6 m7 m8 m9 mA mB)).scores (TB.mk (.mk b0 b1 b2) (.mk b3 b4 b5)) (l.take v0_2.toNat)).hi) : q4x (q0T m0 m1 m2 m3 m4 m5 m6 m7 m8 m9 mA mB b0 b1 b2 b3 b4 b5 l) m0 m1 m2 m3 m4 m5 m6 m7 m8 m9 mA mB b0 b1 b2 b3 b4 b5 l v0_0 v0_1 v0_2 nn0 (fun r => LeD r (.t (.a [.v (.int .i64 ((((TM.mk m0 m1 m2 m3 m4 m5 m6 m7 m8 m9 mA mB)).scores (TB.mk (.mk b0 b1 b2) (.mk b3 b4 b5)) l).lo)), .v (.int .i64 ((((TM.mk m0 m1 m2 m3 m4 m5 m6 m7 m8 m9 mA mB)).scores (TB.mk (.mk b0 b1 b2) (.mk b3 b4 b5)) l).hi))]))) := by
 obtain ⟨i1, i2, i3, i4, i5⟩ := hi
 obtain ⟨ho, hl, hh, hc, hn, hok⟩ := hp
 obtain ⟨k, rfl⟩ : ∃ k : Nat, v0_2 = k := ⟨v0_2.toNat, by omega⟩
 have hk : (k : Int).toNat = k := rfl
 rw [hk] at i4 i5
 unfold q4x
 rw [hk]
 refine qg (fun h => ?_) (fun h => ?_)
 rotate_left
 ·have hkl : k = l.length := by have := of_decide_eq_false h; omega
  rw [hkl, List.take_length] at i4 i5
  rw [i4, i5]
  exact LeD.refl _
 have hlt : k < l.length := by have := of_decide_eq_true h; omega
 have hh0 := hok k hlt
 have u1 := hh0.t; have u2 := ho.ea; have u3 := ho.la
 simp only at u2 u3
 obtain ⟨⟨g1, g2⟩, g3, g4⟩ := qk9 ho hh0
 simp only at g1 g2 g3 g4
 obtain ⟨⟨s1, s2⟩, s3, s4⟩ := scores_bd (b := (TB.mk (.mk b0 b1 b2) (.mk b3 b4 b5))) ho hok k (by omega)
 have HS := qeS ((TM.mk m0 m1 m2 m3 m4 m5 m6 m7 m8 m9 mA mB)) ((TB.mk (.mk b0 b1 b2) (.mk b3 b4 b5))) hlt
 rw [← i4] at s1 s2
 rw [← i5] at s3 s4
 refine ⟨by omega, ⟨ho, hh0⟩, lt_i fun x1 h1 => lt_i fun x2 h2 => ⟨⟨ho, hl, hh, hc, hh0.p, by omega, by omega⟩, ⟨ho, hl, hh, hc, hh0.p, by omega, by omega⟩, qg (fun _ => trivial) (fun _ => ⟨rfl, trivial⟩), lt_i fun x3 h3 => ?_⟩⟩
 rw [wi (by omega)] at h1 h2
 have eh : ∀ q : V3, (V3.mk q.x q.y q.z) = q := fun q => rfl
 simp only [eh] at h3 ⊢
 have HR : ((TM.mk m0 m1 m2 m3 m4 m5 m6 m7 m8 m9 mA mB)).hitR ((TB.mk (.mk b0 b1 b2) (.mk b3 b4 b5))) (qe l k) = ownR (((TM.mk m0 m1 m2 m3 m4 m5 m6 m7 m8 m9 mA mB)).ans ((TB.mk (.mk b0 b1 b2) (.mk b3 b4 b5))) (qe l k).p ((qe l k).t + m8)) (((TM.mk m0 m1 m2 m3 m4 m5 m6 m7 m8 m9 mA mB)).ans ((TB.mk (.mk b0 b1 b2) (.mk b3 b4 b5))) (qe l k).p ((qe l k).t - m9 - 1)) x1 x2 := by rw [← h1, ← h2]; rfl
 rw [HR] at HS
 rw [h1] at g1 g2
 rw [h2] at g3 g4
 clear HR h1 h2
 have hE := ans_val ((TM.mk m0 m1 m2 m3 m4 m5 m6 m7 m8 m9 mA mB)) ((TB.mk (.mk b0 b1 b2) (.mk b3 b4 b5))) (qe l k).p ((qe l k).t + m8)
 have hL := ans_val ((TM.mk m0 m1 m2 m3 m4 m5 m6 m7 m8 m9 mA mB)) ((TB.mk (.mk b0 b1 b2) (.mk b3 b4 b5))) (qe l k).p ((qe l k).t - m9 - 1)
 generalize ((TM.mk m0 m1 m2 m3 m4 m5 m6 m7 m8 m9 mA mB)).ans ((TB.mk (.mk b0 b1 b2) (.mk b3 b4 b5))) (qe l k).p ((qe l k).t + m8) = E at *
 generalize ((TM.mk m0 m1 m2 m3 m4 m5 m6 m7 m8 m9 mA mB)).ans ((TB.mk (.mk b0 b1 b2) (.mk b3 b4 b5))) (qe l k).p ((qe l k).t - m9 - 1) = L at *
 generalize hS0 : ((TM.mk m0 m1 m2 m3 m4 m5 m6 m7 m8 m9 mA mB)).scores (TB.mk (.mk b0 b1 b2) (.mk b3 b4 b5)) (l.take k) = S0 at *
 generalize hS1 : ((TM.mk m0 m1 m2 m3 m4 m5 m6 m7 m8 m9 mA mB)).scores (TB.mk (.mk b0 b1 b2) (.mk b3 b4 b5)) (l.take (k + 1)) = S1 at *
 have eS : (Rg.mk v0_0 v0_1) = S0 := by rw [i4, i5]
 rw [← eS] at HS
 rcases hE with rfl | rfl | rfl <;> rcases hL with rfl | rfl | rfl
 all_goals
  simp only [Int.reduceBEq, Int.reduceBNe, cond_true, cond_false] at h3 ⊢
  subst h3
  simp only [cond_true, cond_false]
  (repeat (refine lt_i ?_; intro _ hq; subst hq))
  refine ⟨_, _, _, rfl, by rw [wi (by omega)]; omega, by rw [wi (by omega)]; omega, by rw [wi (by omega)]; omega, ?_, ?_⟩
  all_goals
   rw [wi (n := (k : Int) + 1) (by omega), show ((k : Int) + 1).toNat = k + 1 by omega, hS1, HS]
   simp [Rg.plusW, Rg.plus, ownR, mn_if, mx_if]
   try exact wri (by omega)
theorem q9f (m0 m1 m2 m3 m4 m5 m6 m7 m8 m9 mA mB b0 b1 b2 b3 b4 b5 : Int) (l : List TH) (hp : ((TM.mk m0 m1 m2 m3 m4 m5 m6 m7 m8 m9 mA mB)).Ok ∧ ((TB.mk (.mk b0 b1 b2) (.mk b3 b4 b5))).lo.inS 20 = true ∧ ((TB.mk (.mk b0 b1 b2) (.mk b3 b4 b5))).hi.inS 20 = true ∧ ((TM.mk m0 m1 m2 m3 m4 m5 m6 m7 m8 m9 mA mB)).canBe (TB.mk (.mk b0 b1 b2) (.mk b3 b4 b5)) ∧ (l).length ≤ 12 ∧ ∀ i, i < (l).length → (qe l i).Ok) : q5w (q0T m0 m1 m2 m3 m4 m5 m6 m7 m8 m9 mA mB b0 b1 b2 b3 b4 b5 l) m0 m1 m2 m3 m4 m5 m6 m7 m8 m9 mA mB b0 b1 b2 b3 b4 b5 l (fun r => LeD r (.t (.a [.v (.int .i64 ((((TM.mk m0 m1 m2 m3 m4 m5 m6 m7 m8 m9 mA mB)).scores (TB.mk (.mk b0 b1 b2) (.mk b3 b4 b5)) l).lo)), .v (.int .i64 ((((TM.mk m0 m1 m2 m3 m4 m5 m6 m7 m8 m9 mA mB)).scores (TB.mk (.mk b0 b1 b2) (.mk b3 b4 b5)) l).hi))]))) := by
 unfold q5w
 exact ⟨l.length + 1, 0, 0, 0, rfl, by omega, by omega, by omega, rfl, rfl⟩
theorem qa0 (m0 m1 m2 m3 m4 m5 m6 m7 m8 m9 mA mB b0 b1 b2 b3 b4 b5 : Int) (l : List TH) (hp : ((TM.mk m0 m1 m2 m3 m4 m5 m6 m7 m8 m9 mA mB)).Ok ∧ ((TB.mk (.mk b0 b1 b2) (.mk b3 b4 b5))).lo.inS 20 = true ∧ ((TB.mk (.mk b0 b1 b2) (.mk b3 b4 b5))).hi.inS 20 = true ∧ ((TM.mk m0 m1 m2 m3 m4 m5 m6 m7 m8 m9 mA mB)).canBe (TB.mk (.mk b0 b1 b2) (.mk b3 b4 b5)) ∧ (l).length ≤ 12 ∧ ∀ i, i < (l).length → (qe l i).Ok) : AllG (q0T m0 m1 m2 m3 m4 m5 m6 m7 m8 m9 mA mB b0 b1 b2 b3 b4 b5 l) (qz Tryz.prog tab Sks40 q1e (q0T m0 m1 m2 m3 m4 m5 m6 m7 m8 m9 mA mB b0 b1 b2 b3 b4 b5 l) Tryz.f65 (fun r => LeD r (.t (.a [.v (.int .i64 ((((TM.mk m0 m1 m2 m3 m4 m5 m6 m7 m8 m9 mA mB)).scores (TB.mk (.mk b0 b1 b2) (.mk b3 b4 b5)) l).lo)), .v (.int .i64 ((((TM.mk m0 m1 m2 m3 m4 m5 m6 m7 m8 m9 mA mB)).scores (TB.mk (.mk b0 b1 b2) (.mk b3 b4 b5)) l).hi))])))) := by
 rw [qaz]
 refine ⟨⟨?_, ?_⟩, trivial⟩
 ·intro F s h
  obtain _ | ⟨g, F⟩ := F
  case cons => exact h.elim
  obtain ⟨w0, w1, w2, rfl, hi⟩ := h
  omega
 ·intro n F s h
  obtain _ | ⟨g, F⟩ := F
  case cons => exact h.elim
  obtain ⟨w0, w1, w2, rfl, hi⟩ := h
  exact cast (by kernel_rfl) (q8G m0 m1 m2 m3 m4 m5 m6 m7 m8 m9 mA mB b0 b1 b2 b3 b4 b5 l _ _ _ _ hp hi)
def q2n : Con := fun args => match args with
 | [.t (.a [.v (.int .i64 m0), .v (.int .i64 m1), .v (.int .i64 m2), .v (.int .i64 m3), .v (.int .i64 m4), .v (.int .i64 m5), .v (.int .i64 m6), .v (.int .i64 m7), .v (.int .i64 m8), .v (.int .i64 m9), .v (.int .i64 mA), .v (.int .i64 mB)]), .t (.a [.v (.int .i64 b0), .v (.int .i64 b1), .v (.int .i64 b2), .v (.int .i64 b3), .v (.int .i64 b4), .v (.int .i64 b5)]), .t (.c (.sl 5 n_l c_l))] => some (.t (.a [.v (.int .i64 ((((TM.mk m0 m1 m2 m3 m4 m5 m6 m7 m8 m9 mA mB)).scores (TB.mk (.mk b0 b1 b2) (.mk b3 b4 b5)) (qa n_l qc c_l)).lo)), .v (.int .i64 ((((TM.mk m0 m1 m2 m3 m4 m5 m6 m7 m8 m9 mA mB)).scores (TB.mk (.mk b0 b1 b2) (.mk b3 b4 b5)) (qa n_l qc c_l)).hi))]), some (qj 5 n_l c_l ∧ ((TM.mk m0 m1 m2 m3 m4 m5 m6 m7 m8 m9 mA mB)).Ok ∧ ((TB.mk (.mk b0 b1 b2) (.mk b3 b4 b5))).lo.inS 20 = true ∧ ((TB.mk (.mk b0 b1 b2) (.mk b3 b4 b5))).hi.inS 20 = true ∧ ((TM.mk m0 m1 m2 m3 m4 m5 m6 m7 m8 m9 mA mB)).canBe (TB.mk (.mk b0 b1 b2) (.mk b3 b4 b5)) ∧ ((qa n_l qc c_l)).length ≤ 12 ∧ ∀ i, i < ((qa n_l qc c_l)).length → (qe (qa n_l qc c_l) i).Ok), false)
 | _ => none
theorem qaA : Ok Tryz.prog 65 q2n := by
 refine Ok.fn (ann := q1e) mixed qo VSks40 ValidIt.no (fn := Tryz.f65) (by kernel_rfl) (by kernel_rfl) (by kernel_rfl) fun args r pre fresh h hp => ?_
 unfold q2n at h
 split at h
 ·rename_i m0 m1 m2 m3 m4 m5 m6 m7 m8 m9 mA mB b0 b1 b2 b3 b4 b5 n_l c_l
  cases h
  obtain ⟨hp0, hp⟩ := hp
  refine ⟨rfl, q0T m0 m1 m2 m3 m4 m5 m6 m7 m8 m9 mA mB b0 b1 b2 b3 b4 b5 (qa n_l qc c_l), _, (qk (LeD.refl _) (qk (LeD.refl _) (qk (leT_c ((qY hp0))) qM))), Nat.le_of_ble_eq_true (by kernel_rfl), ?_, ?_⟩
  ·exact cast (by kernel_rfl) (q9f m0 m1 m2 m3 m4 m5 m6 m7 m8 m9 mA mB b0 b1 b2 b3 b4 b5 (qa n_l qc c_l) hp)
  ·exact qa0 m0 m1 m2 m3 m4 m5 m6 m7 m8 m9 mA mB b0 b1 b2 b3 b4 b5 (qa n_l qc c_l) hp
 ·cases h
def Sku41 : Sum := addS Sks40 65 q2n
theorem VSku41 : Valid Tryz.prog Sku41 := Valid.add VSks40 qaA
def q7J (m0 m1 m2 m3 m4 m5 m6 m7 m8 m9 mA mB b0 b1 b2 b3 b4 b5 : Int) (l : List TH) (post : DV → Prop) : Prop := (fun (Z1 : TM) (Z2 : TB) (Z3 : List TH) => (qj 5 l.length (qi l)) ∧ (lt ((sqsW Z2).lo) fun x1 => lt ((sqsW Z2).hi) fun x2 => lt (canW Z1 Z2) fun x3 => (qj 1 2 (genC [[.v (.int .i64 (qd [qd [(Z1).err, (Z2).err], ql Z3]))], [.v (.int .i64 (unl x3 (12 : Int)))]]) ∧ (([(qd [qd [(Z1).err, (Z2).err], ql Z3]), (unl x3 (12 : Int))] : List Int)).length ≤ 100) ∧ (cond ((qd ([(qd [qd [(Z1).err, (Z2).err], ql Z3]), (unl x3 (12 : Int))] : List Int)) != (0 : Int)) (post (.tu [.a [.v (.int .i64 0), .v (.int .i64 0)], .c (.v (.int .i64 (qd ([(qd [qd [(Z1).err, (Z2).err], ql Z3]), (unl x3 (12 : Int))] : List Int))))])) ((qj 5 l.length (qi l) ∧ (Z1).Ok ∧ (Z2).lo.inS 20 = true ∧ (Z2).hi.inS 20 = true ∧ (Z1).canBe Z2 ∧ (Z3).length ≤ 12 ∧ ∀ i, i < (Z3).length → (qe Z3 i).Ok) ∧ (post (.tu [.a [.v (.int .i64 (((Z1).scores Z2 Z3).lo)), .v (.int .i64 (((Z1).scores Z2 Z3).hi))], .c (.v (.int .i64 0))])))))) (TM.mk m0 m1 m2 m3 m4 m5 m6 m7 m8 m9 mA mB) (TB.mk (.mk b0 b1 b2) (.mk b3 b4 b5)) (qa l.length qc (qi l))
def qd6 : Ann := An (fun _ => none) fun _ => none
theorem qcj (m0 m1 m2 m3 m4 m5 m6 m7 m8 m9 mA mB b0 b1 b2 b3 b4 b5 : Int) (l : List TH) : q7J m0 m1 m2 m3 m4 m5 m6 m7 m8 m9 mA mB b0 b1 b2 b3 b4 b5 l (fun r => LeD r (.tu [.a [.v (.int .i64 (((TM.mk m0 m1 m2 m3 m4 m5 m6 m7 m8 m9 mA mB)).siL (TB.mk (.mk b0 b1 b2) (.mk b3 b4 b5)) l)), .v (.int .i64 (((TM.mk m0 m1 m2 m3 m4 m5 m6 m7 m8 m9 mA mB)).siH (TB.mk (.mk b0 b1 b2) (.mk b3 b4 b5)) l))], .c (.v (.int .i64 (((TM.mk m0 m1 m2 m3 m4 m5 m6 m7 m8 m9 mA mB)).siE (TB.mk (.mk b0 b1 b2) (.mk b3 b4 b5)) l)))])) := by
 unfold q7J
 simp only [qP]
 refine ⟨qA l, lt_i fun x1 h1 => lt_i fun x2 h2 => lt_i fun x3 h3 => ⟨⟨q0n [_, _], Nat.le_of_ble_eq_true rfl⟩, ?_⟩⟩
 subst h1 h2 h3
 have e : qd ([qd [qd [((TM.mk m0 m1 m2 m3 m4 m5 m6 m7 m8 m9 mA mB)).err, ((TB.mk (.mk b0 b1 b2) (.mk b3 b4 b5))).err], ql l], unl (canW (TM.mk m0 m1 m2 m3 m4 m5 m6 m7 m8 m9 mA mB) (TB.mk (.mk b0 b1 b2) (.mk b3 b4 b5))) 12] : List Int) = ((TM.mk m0 m1 m2 m3 m4 m5 m6 m7 m8 m9 mA mB)).siE ((TB.mk (.mk b0 b1 b2) (.mk b3 b4 b5))) l := rfl
 rw [e]
 refine qg (fun h => ?_) (fun h => ?_)
 ·have h : ((TM.mk m0 m1 m2 m3 m4 m5 m6 m7 m8 m9 mA mB)).siE ((TB.mk (.mk b0 b1 b2) (.mk b3 b4 b5))) l ≠ 0 := by simpa using h
  rw [show ((TM.mk m0 m1 m2 m3 m4 m5 m6 m7 m8 m9 mA mB)).siL ((TB.mk (.mk b0 b1 b2) (.mk b3 b4 b5))) l = 0 from if_neg h, show ((TM.mk m0 m1 m2 m3 m4 m5 m6 m7 m8 m9 mA mB)).siH ((TB.mk (.mk b0 b1 b2) (.mk b3 b4 b5))) l = 0 from if_neg h]
  exact LeD.refl _
 ·have h : ((TM.mk m0 m1 m2 m3 m4 m5 m6 m7 m8 m9 mA mB)).siE ((TB.mk (.mk b0 b1 b2) (.mk b3 b4 b5))) l = 0 := by simpa using h
  obtain ⟨r1, r2, r3, r4, r5, r6, _⟩ := si_ok h
  rw [show ((TM.mk m0 m1 m2 m3 m4 m5 m6 m7 m8 m9 mA mB)).siL ((TB.mk (.mk b0 b1 b2) (.mk b3 b4 b5))) l = _ from if_pos h, show ((TM.mk m0 m1 m2 m3 m4 m5 m6 m7 m8 m9 mA mB)).siH ((TB.mk (.mk b0 b1 b2) (.mk b3 b4 b5))) l = _ from if_pos h, h]
  exact ⟨⟨qA l, r1, r2, r3, r4, r5, r6⟩, LeD.refl _⟩
def q4c : Con := fun args => match args with
 | [.t (.a [.v (.int .i64 m0), .v (.int .i64 m1), .v (.int .i64 m2), .v (.int .i64 m3), .v (.int .i64 m4), .v (.int .i64 m5), .v (.int .i64 m6), .v (.int .i64 m7), .v (.int .i64 m8), .v (.int .i64 m9), .v (.int .i64 mA), .v (.int .i64 mB)]), .t (.a [.v (.int .i64 b0), .v (.int .i64 b1), .v (.int .i64 b2), .v (.int .i64 b3), .v (.int .i64 b4), .v (.int .i64 b5)]), .t (.c (.sl 5 n_l c_l))] => some (.tu [.a [.v (.int .i64 (((TM.mk m0 m1 m2 m3 m4 m5 m6 m7 m8 m9 mA mB)).siL (TB.mk (.mk b0 b1 b2) (.mk b3 b4 b5)) (qa n_l qc c_l))), .v (.int .i64 (((TM.mk m0 m1 m2 m3 m4 m5 m6 m7 m8 m9 mA mB)).siH (TB.mk (.mk b0 b1 b2) (.mk b3 b4 b5)) (qa n_l qc c_l)))], .c (.v (.int .i64 (((TM.mk m0 m1 m2 m3 m4 m5 m6 m7 m8 m9 mA mB)).siE (TB.mk (.mk b0 b1 b2) (.mk b3 b4 b5)) (qa n_l qc c_l))))], some (qj 5 n_l c_l), false)
 | _ => none
theorem qeh : Ok Tryz.prog 29 q4c := by
 refine Ok.fn (ann := qd6) mixed qo VSku41 ValidIt.no (fn := Tryz.f29) (by kernel_rfl) (by kernel_rfl) (by kernel_rfl) fun args r pre fresh h hp => ?_
 unfold q4c at h
 split at h
 ·rename_i m0 m1 m2 m3 m4 m5 m6 m7 m8 m9 mA mB b0 b1 b2 b3 b4 b5 n_l c_l
  cases h
  have hp0 := hp
  refine ⟨rfl, fun _ _ _ => False, _, (qk (LeD.refl _) (qk (LeD.refl _) (qk (leT_c ((qY hp0))) qM))), Nat.le_of_ble_eq_true (by kernel_rfl), ?_, ?_⟩
  ·exact cast (by kernel_rfl) (qcj m0 m1 m2 m3 m4 m5 m6 m7 m8 m9 mA mB b0 b1 b2 b3 b4 b5 (qa n_l qc c_l))
  ·exact cast (by kernel_rfl) trivial
 ·cases h
def Sku42 : Sum := addS Sku41 29 q4c
theorem VSku42 : Valid Tryz.prog Sku42 := Valid.add VSku41 qeh
def qhD  (post : DV → Prop) : Prop := post (.t (.a [.v (.int .i64 0), .v (.int .i64 0), .v (.int .i64 0), .v (.int .i64 0), .v (.int .i64 1), .v (.int .i64 25), .v (.int .i64 50), .v (.int .i64 9), .v (.int .i64 0), .v (.int .i64 0), .v (.int .i64 1), .v (.int .i64 2)]))
def qgs : Ann := An (fun _ => none) fun _ => none
theorem qfn  : qhD  (fun r => LeD r (.t (.a [.v (.int .i64 0), .v (.int .i64 0), .v (.int .i64 0), .v (.int .i64 0), .v (.int .i64 1), .v (.int .i64 25), .v (.int .i64 50), .v (.int .i64 9), .v (.int .i64 0), .v (.int .i64 0), .v (.int .i64 1), .v (.int .i64 2)]))) := by
 exact LeD.refl _
def q5V : Con := fun args => match args with
 | [] => some (.t (.a [.v (.int .i64 0), .v (.int .i64 0), .v (.int .i64 0), .v (.int .i64 0), .v (.int .i64 1), .v (.int .i64 25), .v (.int .i64 50), .v (.int .i64 9), .v (.int .i64 0), .v (.int .i64 0), .v (.int .i64 1), .v (.int .i64 2)]), none, false)
 | _ => none
theorem qhE : Ok Tryz.prog 33 q5V := by
 refine Ok.fn (ann := qgs) mixed qo VSku42 ValidIt.no (fn := Tryz.f33) (by kernel_rfl) (by kernel_rfl) (by kernel_rfl) fun args r pre fresh h hp => ?_
 unfold q5V at h
 split at h
 ·cases h
  refine ⟨rfl, fun _ _ _ => False, _, LeA.refl _, Nat.le_of_ble_eq_true (by kernel_rfl), ?_, ?_⟩
  ·exact cast (by kernel_rfl) (qfn)
  ·exact cast (by kernel_rfl) trivial
 ·cases h
def Sku43 : Sum := addS Sku42 33 q5V
theorem VSku43 : Valid Tryz.prog Sku43 := Valid.add VSku42 qhE
def qiX  (post : DV → Prop) : Prop := post (.t (.c (.sl 5 2 (genC [[.v (.int .i64 0), .v (.int .i64 12), .v (.int .i64 0), .v (.int .i64 4), .v (.int .i64 1)], [.v (.int .i64 5), .v (.int .i64 0), .v (.int .i64 0), .v (.int .i64 0), .v (.int .i64 3)]]))))
def qhF : Ann := ⟨fun _ => none, fun _ => none, fun _ => [], noIt, true, fun _ => none, fun _ => none⟩
theorem qgt  : qiX  (fun r => LeD r (.t (.c (.sl 5 exH.length (qi exH))))) := by
 exact qai exH
def q6K : Con := fun args => match args with
 | [] => some (.t (.c (.sl 5 exH.length (qi exH))), none, true)
 | _ => none
theorem qiY : Ok Tryz.prog 35 q6K := by
 refine Ok.fnFr (ann := qhF) mixed qo VSku43 ValidIt.no rfl (fn := Tryz.f35) (by kernel_rfl) (by kernel_rfl) (by kernel_rfl) fun args r pre fresh h hp => ?_
 unfold q6K at h
 split at h
 ·cases h
  refine ⟨rfl, (fun i j _ hj => qbu _ i j), fun _ _ _ => False, _, LeA.refl _, Nat.le_of_ble_eq_true (by kernel_rfl), ?_, ?_⟩
  ·exact cast (by kernel_rfl) (qgt)
  ·exact cast (by kernel_rfl) trivial
 ·cases h
def Sku44 : Sum := addS Sku43 35 q6K
theorem VSku44 : Valid Tryz.prog Sku44 := Valid.add VSku43 qiY
def Sku50 : Sum := Sku44
theorem VSku50 : Valid Tryz.prog Sku50 := VSku44
end Go.Proofs.YtfadkjcfjkmalaaGreatDoor
namespace Go.Proofs.YtfadkjcfjkmalaaGreatDoor
open Go.Lib
theorem q6L : ∀ (l m : List UInt8) (a : Nat), decFrom a (l ++ m) = (decFrom a l).bind fun n => decFrom n m
 | [], m, a => rfl
 | b :: l, m, a => by
  simp only [List.cons_append, decFrom]
  cases digitVal b with
  | none => rfl
  | some d => exact q6L l m _
theorem qeT {d : Nat} (h : d < 10) : digitVal (UInt8.ofNat (48 + d)) = some d := by
 unfold digitVal
 have e : (UInt8.ofNat (48 + d)).toNat = 48 + d := by rw [UInt8.toNat_ofNat']; omega
 rw [e, if_pos (by omega)]
 congr 1
 omega
theorem qiZ {b : UInt8} {d : Nat} (h : digitVal b = some d) : d < 10 ∧ b = UInt8.ofNat (48 + d) ∧ b.toNat = 48 + d := by
 unfold digitVal at h
 split at h
 ·rename_i hb
  cases h
  refine ⟨by omega, ?_, by omega⟩
  apply UInt8.toNat_inj.1
  rw [UInt8.toNat_ofNat']; omega
 ·cases h
theorem q1J {u : Nat} (h : u < 10) : decDigits u = [UInt8.ofNat (48 + u)] := by rw [decDigits, dif_pos h]
theorem q8g {u : Nat} (h : ¬ u < 10) : decDigits u = decDigits (u / 10) ++ [UInt8.ofNat (48 + u % 10)] := by rw [decDigits, dif_neg h]
theorem qgu (u : Nat) : decDigits u ≠ [] := by
 by_cases h : u < 10
 ·rw [q1J h]; simp
 ·rw [q8g h]; simp
theorem dec_val (u : Nat) : decFrom 0 (decDigits u) = some u := by
 induction u using Nat.strongRecOn with
 | _ u ih =>
  by_cases h : u < 10
  ·rw [q1J h]
   simp only [decFrom, qeT h]
   congr 1
   omega
  ·rw [q8g h, q6L, ih (u / 10) (by omega)]
   simp only [Option.bind_some, decFrom, qeT (show u % 10 < 10 by omega)]
   congr 1
   omega
theorem qhG (u : Nat) : ∀ b ∈ decDigits u, 48 ≤ b.toNat ∧ b.toNat ≤ 57 := by
 induction u using Nat.strongRecOn with
 | _ u ih =>
  intro b hb
  by_cases h : u < 10
  ·rw [q1J h] at hb
   obtain rfl := List.mem_singleton.1 hb
   rw [UInt8.toNat_ofNat']; omega
  ·rw [q8g h] at hb
   rcases List.mem_append.1 hb with hb | hb
   ·exact ih (u / 10) (by omega) b hb
   ·obtain rfl := List.mem_singleton.1 hb
    rw [UInt8.toNat_ofNat']; omega
theorem qkb {u : Nat} (h : 1 ≤ u) : ∀ b, (decDigits u).head? = some b → b.toNat ≠ 48 := by
 induction u using Nat.strongRecOn with
 | _ u ih =>
  intro b hb
  by_cases h10 : u < 10
  ·rw [q1J h10] at hb
   simp only [List.head?_cons, Option.some.injEq] at hb
   subst hb
   rw [UInt8.toNat_ofNat']; omega
  ·rw [q8g h10] at hb
   have hne := qgu (u / 10)
   obtain ⟨x, r, e⟩ := List.exists_cons_of_ne_nil hne
   rw [e] at hb
   simp only [List.cons_append, List.head?_cons, Option.some.injEq] at hb
   subst hb
   exact ih (u / 10) (by omega) (by omega) x (by rw [e]; rfl)
theorem qiE : ∀ (k : Nat) (r : List UInt8) (m : Nat), r.length = k → r ≠ [] → decFrom 0 r = some m → (r.length = 1 ∨ ∀ b, r.head? = some b → b.toNat ≠ 48) → decDigits m = r := by
 intro k
 induction k with
 | zero => intro r m hk hr; exact absurd (List.eq_nil_of_length_eq_zero hk) hr
 | succ k ih =>
  intro r m hk hr hd hc
  obtain ⟨r', b, rfl⟩ : ∃ r' b, r = r' ++ [b] := ⟨r.dropLast, r.getLast hr, (List.dropLast_concat_getLast hr).symm⟩
  rw [q6L] at hd
  cases h1 : decFrom 0 r' with
  | none => rw [h1] at hd; cases hd
  | some m' =>
   rw [h1] at hd
   simp only [Option.bind_some, decFrom] at hd
   cases h2 : digitVal b with
   | none => rw [h2] at hd; cases hd
   | some d =>
    rw [h2] at hd
    simp only [Option.some.injEq] at hd
    obtain ⟨hd10, hb, _⟩ := qiZ h2
    by_cases h0 : r' = []
    ·subst h0
     have : m' = 0 := by simp only [decFrom, Option.some.injEq] at h1; exact h1.symm
     subst this
     rw [← hd, Nat.zero_mul, Nat.zero_add, q1J hd10, hb]
     rfl
    ·have hl : 1 ≤ r'.length := by cases r' with
      | nil => exact absurd rfl h0
      | cons _ _ => simp
     have hc : ∀ b, r'.head? = some b → b.toNat ≠ 48 := by
      rcases hc with hc | hc
      ·rw [List.length_append, List.length_singleton] at hc; omega
      ·intro x hx
       refine hc x ?_
       cases r' with
       | nil => cases hx
       | cons y r'' => exact hx
     have hi := ih r' m' (by simpa using hk) h0 h1 (Or.inr hc)
     have hm : 1 ≤ m' := by
      rcases Nat.eq_zero_or_pos m' with e | e
      ·exfalso
       rw [e, q1J (u := 0) (by omega)] at hi
       exact hc (UInt8.ofNat (48 + 0)) (by rw [← hi]; rfl) (by decide)
      ·exact e
     rw [← hd, q8g (u := m' * 10 + d) (by omega), show (m' * 10 + d) / 10 = m' by omega, show (m' * 10 + d) % 10 = d by omega, hi, hb]
def numR (l : List UInt8) (dg : Nat) : Option Int :=
 if l.head? = some 45 then (if l.drop 1 = [] ∨ (l.drop 1).length > dg ∨ (l.drop 1).head? = some 48 then none else (decFrom 0 (l.drop 1)).map fun m : Nat => -(m : Int))
 else (if l = [] ∨ l.length > dg ∨ (l.head? = some 48 ∧ 1 < l.length) then none else (decFrom 0 l).map fun m : Nat => (m : Int))
def numG (l : List UInt8) (dg : Nat) : Option Int := match atoiAll l with
 | .ok v => if itoa v = l ∧ (if l.head? = some 45 then l.drop 1 else l).length ≤ dg then some v else none
 | _ => none
theorem q6M {n : Int} (h : n < 0) : itoa n = 45 :: decDigits n.natAbs := if_pos h
theorem q6N {n : Int} (h : 0 ≤ n) : itoa n = decDigits n.toNat := if_neg (by omega)
theorem qgv (u : Nat) : (decDigits u).head? ≠ some 45 := by
 intro h
 have : (45 : UInt8) ∈ decDigits u := List.mem_of_head? h
 have := qhG u 45 this
 have e : (45 : UInt8).toNat = 45 := by decide
 omega
theorem dec_len48 {u : Nat} (h : (decDigits u).head? = some 48) : decDigits u = [48] := by
 rcases Nat.eq_zero_or_pos u with e | e
 ·subst e; rw [q1J (by omega)]; rfl
 ·exact absurd (by decide) (qkb e 48 h)
theorem qiF {v : Int} {dg : Nat} (h : (if (itoa v).head? = some 45 then (itoa v).drop 1 else itoa v).length ≤ dg) : numR (itoa v) dg = some v := by
 unfold numR
 by_cases hv : v < 0
 ·rw [q6M hv] at h ⊢
  simp only [List.head?_cons, List.drop_succ_cons, List.drop_zero, if_true] at h ⊢
  rw [if_neg, dec_val]
  ·simp only [Option.map_some, Option.some.injEq]; omega
  ·rintro (c | c | c)
   ·exact qgu _ c
   ·omega
   ·exact qkb (show 1 ≤ v.natAbs by omega) 48 c (by decide)
 ·have hv : 0 ≤ v := by omega
  rw [q6N hv] at h ⊢
  rw [if_neg (qgv _)] at h ⊢
  rw [if_neg, dec_val]
  ·simp only [Option.map_some, Option.some.injEq]; omega
  ·rintro (c | c | ⟨c, d⟩)
   ·exact qgu _ c
   ·omega
   ·rw [dec_len48 c] at d; simp at d
theorem numR_some {l : List UInt8} {dg : Nat} {v : Int} (h : numR l dg = some v) : itoa v = l ∧ (if l.head? = some 45 then l.drop 1 else l).length ≤ dg ∧ ∃ m, decFrom 0 (if l.head? = some 45 then l.drop 1 else l) = some m ∧ (if l.head? = some 45 then l.drop 1 else l) ≠ [] ∧ v = (if l.head? = some 45 then -(m : Int) else m) := by
 unfold numR at h
 split at h
 ·rename_i hh
  split at h
  ·cases h
  ·rename_i hc
   simp only [not_or] at hc
   obtain ⟨c1, c2, c3⟩ := hc
   simp only [Option.map_eq_some_iff] at h
   obtain ⟨m, h1, rfl⟩ := h
   have hcan := qiE _ _ m rfl c1 h1 (Or.inr fun b hb e => c3 (by rw [hb]; exact congrArg some (UInt8.toNat_inj.1 (by rw [e]; decide))))
   have hm : 1 ≤ m := by
    rcases Nat.eq_zero_or_pos m with e | e
    ·exfalso
     rw [e, q1J (u := 0) (by omega)] at hcan
     exact c3 (by rw [← hcan]; rfl)
    ·exact e
   obtain ⟨r, rfl⟩ : ∃ r, l = 45 :: r := by
    cases l with
    | nil => cases hh
    | cons b r => simp only [List.head?_cons, Option.some.injEq] at hh; exact ⟨r, by rw [hh]⟩
   simp only [List.drop_succ_cons, List.drop_zero, List.head?_cons, if_true] at *
   refine ⟨?_, by omega, m, h1, c1, rfl⟩
   rw [q6M (by omega), show (-(m : Int)).natAbs = m by omega, hcan]
 ·rename_i hh
  split at h
  ·cases h
  ·rename_i hc
   simp only [not_or] at hc
   obtain ⟨c1, c2, c3⟩ := hc
   simp only [Option.map_eq_some_iff] at h
   obtain ⟨m, h1, rfl⟩ := h
   have hcan := qiE _ _ m rfl c1 h1 (by
    by_cases e1 : l.length = 1
    ·exact Or.inl e1
    ·refine Or.inr fun b hb e => c3 ⟨by rw [hb]; exact congrArg some (UInt8.toNat_inj.1 (by rw [e]; decide)), ?_⟩
     cases l with
     | nil => exact absurd rfl c1
     | cons x r => simp only [List.length_cons] at e1 ⊢; omega)
   simp only [if_neg hh]
   exact ⟨by rw [q6N (by omega), Int.toNat_natCast, hcan], by omega, m, h1, c1, rfl⟩
theorem atoi_of {l : List UInt8} {m : Nat} (h1 : decFrom 0 (if l.head? = some 45 then l.drop 1 else l) = some m) (h2 : (if l.head? = some 45 then l.drop 1 else l) ≠ []) (h43 : l.head? ≠ some 43) : atoi l = some (if l.head? = some 45 then -(m : Int) else m) := by
 cases l with
 | nil => simp at h2
 | cons b r =>
  simp only [List.head?_cons, Option.some.injEq, List.drop_succ_cons, List.drop_zero] at *
  rw [show atoi (b :: r) = if (b == 45) = true then (decNat r).map (fun m : Nat => -(m : Int)) else if (b == 43) = true then (decNat r).map (fun m : Nat => (m : Int)) else (decNat (b :: r)).map (fun m : Nat => (m : Int)) from rfl]
  by_cases e : b = 45
  ·rw [if_pos e] at h1 h2 ⊢
   rw [if_pos (by rw [e]; rfl)]
   unfold decNat
   rw [if_neg (by simpa using h2), h1]
   rfl
  ·rw [if_neg e] at h1 h2 ⊢
   rw [if_neg (by simpa using e), if_neg (by simpa using h43)]
   unfold decNat
   rw [if_neg (by simp), h1]
   rfl
theorem numG_eq {l : List UInt8} {dg : Nat} (hd : dg ≤ 17) : numG l dg = numR l dg := by
 cases h : numR l dg with
 | some v =>
  obtain ⟨a1, a2, m, a3, a4, a5⟩ := numR_some h
  have hl : l.length ≤ 18 := by
   by_cases e : l.head? = some 45
   ·rw [if_pos e] at a2
    simp at a2; omega
   ·rw [if_neg e] at a2
    omega
  have h43 : l.head? ≠ some 43 := by
   intro e
   have e2 : l.head? ≠ some 45 := by rw [e]; decide
   rw [if_neg e2] at a3 a4
   cases l with
   | nil => cases e
   | cons b r =>
    simp only [List.head?_cons, Option.some.injEq] at e
    subst e
    simp only [decFrom, show digitVal 43 = none from by decide] at a3
    cases a3
  have e1 := atoi_of a3 a4 h43
  unfold numG
  rw [atoiAll_short l hl, e1, ← a5]
  show (if itoa v = l ∧ _ then some v else none) = some v
  rw [if_pos ⟨a1, a2⟩]
 | none =>
  unfold numG
  cases h2 : atoiAll l with
  | ok v =>
   by_cases c : itoa v = l ∧ (if l.head? = some 45 then l.drop 1 else l).length ≤ dg
   ·obtain ⟨c1, c2⟩ := c
    rw [← c1] at c2
    have := qiF c2
    rw [c1, h] at this
    cases this
   ·show (if _ then some v else none) = none
    rw [if_neg c]
  | range => rfl
  | _ => rfl
def hasC (c : UInt8) (l : List UInt8) : Bool := l.contains c
def befC (c : UInt8) (l : List UInt8) : List UInt8 := l.takeWhile (· != c)
def aftC (c : UInt8) (l : List UInt8) : List UInt8 := (l.dropWhile (· != c)).drop 1
def pcs (c : UInt8) : List UInt8 → List (List UInt8)
 | [] => [[]]
 | b :: l => if b = c then [] :: pcs c l else match pcs c l with
  | h :: t => (b :: h) :: t
  | [] => [[b]]
theorem q8H (c : UInt8) : ∀ l, pcs c l ≠ []
 | [] => by simp [pcs]
 | b :: l => by
  unfold pcs
  split
  ·simp
  ·split <;> simp
theorem q5W (c : UInt8) : ∀ l, pcs c l = if hasC c l = true then befC c l :: pcs c (aftC c l) else [l]
 | [] => rfl
 | b :: l => by
  rw [show pcs c (b :: l) = if b = c then [] :: pcs c l else match pcs c l with
   | h :: t => (b :: h) :: t
   | [] => [[b]] from rfl]
  by_cases h : b = c
  ·subst h
   rw [if_pos rfl, if_pos (by simp [hasC])]
   simp [befC, aftC]
  ·rw [if_neg h, q5W c l]
   have hb : (b != c) = true := by simpa using h
   have e1 : hasC c (b :: l) = hasC c l := by
    unfold hasC
    rw [List.contains_cons, show (c == b) = false from by simpa using fun e => h e.symm, Bool.false_or]
   rw [e1]
   by_cases h2 : hasC c l = true
   ·rw [if_pos h2, if_pos h2]
    have e2 : befC c (b :: l) = b :: befC c l := by simp [befC, hb]
    have e3 : aftC c (b :: l) = aftC c l := by simp [aftC, hb]
    rw [e2, e3]
   ·rw [if_neg h2, if_neg h2]
theorem qaB {c : UInt8} {l : List UInt8} (h : hasC c l = true) : l = befC c l ++ c :: aftC c l := by
 induction l with
 | nil => simp [hasC] at h
 | cons b l ih =>
  by_cases e : b = c
  ·subst e; simp [befC, aftC]
  ·have hb : (b != c) = true := by simpa using e
   have h2 : hasC c l = true := by
    unfold hasC at h ⊢
    rw [List.contains_cons, show (c == b) = false from by simpa using fun x => e x.symm, Bool.false_or] at h
    exact h
   have := ih h2
   simp only [befC, aftC, List.takeWhile_cons, List.dropWhile_cons, hb, if_true] at this ⊢
   rw [List.cons_append]
   congr 1
theorem aft_len {c : UInt8} {l : List UInt8} (h : hasC c l = true) : (aftC c l).length < l.length := by
 have := congrArg List.length (qaB h)
 rw [List.length_append, List.length_cons] at this
 omega
theorem pcs_len (c : UInt8) : ∀ l, (pcs c l).length = l.count c + 1
 | [] => rfl
 | b :: l => by
  have := pcs_len c l
  unfold pcs
  by_cases h : b = c
  ·subst h
   rw [if_pos rfl, List.length_cons, this, List.count_cons_self]
  ·rw [if_neg h, List.count_cons_of_ne h]
   split
   ·rename_i x t e; rw [e] at this; simpa using this
   ·rename_i e; exact absurd e (q8H c l)
theorem pcs_part {c : UInt8} {l : List UInt8} {p : List UInt8} (h : p ∈ pcs c l) : p.length ≤ l.length := by
 have key : ∀ l, ∀ p ∈ pcs c l, p.length ≤ l.length := by
  intro l
  induction l with
  | nil => intro p h; simp [pcs] at h; subst h; simp
  | cons b l ih =>
   intro p h
   unfold pcs at h
   by_cases e : b = c
   ·rw [if_pos e] at h
    rcases List.mem_cons.1 h with rfl | h
    ·simp
    ·have := ih p h; simp; omega
   ·rw [if_neg e] at h
    split at h
    ·rename_i x t ex
     rcases List.mem_cons.1 h with rfl | h
     ·have := ih x (by rw [ex]; simp); simp; omega
     ·have := ih p (by rw [ex]; simp [h]); simp; omega
    ·rename_i ex; exact absurd ex (q8H c l)
 exact key l p h
def jnC (c : UInt8) : List (List UInt8) → List UInt8
 | [] => []
 | [p] => p
 | p :: q :: r => p ++ c :: jnC c (q :: r)
theorem jn_join (c : UInt8) : ∀ ps, join ps [c] = jnC c ps
 | [] => rfl
 | [p] => by rw [join_one]; rfl
 | p :: q :: r => by
  have ih := jn_join c (q :: r)
  rw [join_cons] at ih ⊢
  unfold jnC
  rw [← ih]
  simp [joinTail]
theorem pcs_app {c : UInt8} : ∀ {p : List UInt8} (l : List UInt8), hasC c p = false → pcs c (p ++ c :: l) = p :: pcs c l
 | [], l, _ => by rw [List.nil_append, pcs, if_pos rfl]
 | b :: p, l, h => by
  unfold hasC at h
  rw [List.contains_cons, Bool.or_eq_false_iff] at h
  have hb : ¬ b = c := fun e => by have := h.1; rw [e] at this; simp at this
  rw [List.cons_append, pcs, if_neg hb, pcs_app l h.2]
theorem pcs_one {c : UInt8} {p : List UInt8} (h : hasC c p = false) : pcs c p = [p] := by
 rw [q5W, if_neg (by rw [h]; simp)]
theorem pcs_jn {c : UInt8} : ∀ {ps : List (List UInt8)}, ps ≠ [] → (∀ p ∈ ps, hasC c p = false) → pcs c (jnC c ps) = ps
 | [], h, _ => absurd rfl h
 | [p], _, h => pcs_one (h p (by simp))
 | p :: q :: r, _, h => by
  unfold jnC
  rw [pcs_app _ (h p (by simp)), pcs_jn (by simp) fun x hx => h x (List.mem_cons_of_mem _ hx)]
theorem qdN (c : UInt8) : ∀ l, (index l [c] = -1 ∧ hasC c l = false) ∨ (hasC c l = true ∧ index l [c] = (befC c l).length) := by
 intro l
 rw [index_one]
 induction l with
 | nil => exact Or.inl ⟨rfl, rfl⟩
 | cons b l ih =>
  unfold indexByte
  by_cases e : b = c
  ·subst e
   right
   simp [hasC, befC]
  ·have hb : (b == c) = false := by simpa using e
   have hb2 : (b != c) = true := by simpa using e
   have e1 : hasC c (b :: l) = hasC c l := by
    unfold hasC
    rw [List.contains_cons, show (c == b) = false from by simpa using fun z => e z.symm, Bool.false_or]
   have e2 : befC c (b :: l) = b :: befC c l := by simp [befC, hb2]
   rw [hb, e1, e2]
   rcases ih with ⟨h1, h2⟩ | ⟨h1, h2⟩
   ·left; rw [h1]; exact ⟨rfl, h2⟩
   ·right
    rw [h2]
    have : (((befC c l).length : Int) == -1) = false := by rw [beq_eq_false_iff_ne]; omega
    refine ⟨h1, ?_⟩
    rw [this]
    simp
theorem qhH (c : UInt8) (l : List UInt8) : cut l [c] = if hasC c l = true then (befC c l, aftC c l, true) else (l, [], false) := by
 unfold cut
 rcases qdN c l with ⟨h1, h2⟩ | ⟨h1, h2⟩
 ·rw [h1, h2, if_neg (by omega), if_neg (by simp)]
 ·rw [h2, h1, if_pos (by omega), if_pos rfl]
  have e := qaB h1
  have e3 : l.take (befC c l).length = befC c l := by
   have h := congrArg (List.take (befC c l).length) e
   rwa [List.take_left] at h
  have e4 : l.drop ((befC c l).length + 1) = aftC c l := by
   have h := congrArg (List.drop ((befC c l).length + 1)) e
   rw [h, List.drop_append]
   simp
  rw [Int.toNat_natCast, List.length_singleton, e3, e4]
theorem trim_one (l : List UInt8) : trimPrefix l [45] = if l.head? = some 45 then l.drop 1 else l := by
 unfold trimPrefix hasPrefix
 cases l with
 | nil => rfl
 | cons b r =>
  simp only [List.head?_cons, Option.some.injEq]
  by_cases e : b = 45
  ·subst e; simp [List.isPrefixOf]
  ·rw [if_neg e, if_neg]
   simp [List.isPrefixOf]
   exact fun h => e h.symm
end Go.Proofs.YtfadkjcfjkmalaaGreatDoor
namespace Go.Proofs.YtfadkjcfjkmalaaGreatDoor
open Go.RowKit Ev
def txAt (l : List ByteArray) (i : Nat) : ByteArray := l.getD i ByteArray.empty
instance lawfulBytes : LawfulBEq ByteArray where
 eq_of_beq {a b} h := by
  rw [beq_toListBytes, ByteArray.toList_eq, ByteArray.toList_eq] at h
  exact ByteArray.ext (Array.toList_inj.1 (eq_of_beq h))
 rfl {a} := by rw [beq_toListBytes]; simp
def q1V : CV → ByteArray
 | .v (.string s) => s
 | _ => ByteArray.empty
def txsC (l : List ByteArray) : Nat → Nat → CV := fun i _ => .v (.string (txAt l i))
def txOf (n : Nat) (c : Nat → Nat → CV) : List ByteArray := (List.range n).map fun i => q1V (c i 0)
def txP (n : Nat) (c : Nat → Nat → CV) : Prop := ∀ i, i < n → c i 0 = .v (.string (q1V (c i 0)))
theorem q8I {n : Nat} {c : Nat → Nat → CV} : (txOf n c).length = n := by simp [txOf]
def ofL (l : List UInt8) : ByteArray := ⟨l.toArray⟩
theorem q0U (l : List UInt8) : (ofL l).data.toList = l := rfl
theorem q3d (s : ByteArray) : ofL s.data.toList = s := by
 obtain ⟨⟨l⟩⟩ := s
 rfl
theorem q1q (l : List UInt8) : (ofL l).size = l.length := by
 show l.toArray.size = _
 simp
theorem ofL_inj {l m : List UInt8} (h : ofL l = ofL m) : l = m := by rw [← q0U l, h, q0U]
theorem q4d (s : ByteArray) : s.data.toList.length = s.size := Array.length_toList
def q0f (n : Int) : ByteArray := ofL (Lib.itoa n)
def q4V (l : List ByteArray) (sep : ByteArray) : ByteArray := ofL (Lib.join (l.map (·.data.toList)) sep.data.toList)
def q1I (s p : ByteArray) : ByteArray := ofL (Lib.trimPrefix s.data.toList p.data.toList)
def cutA (s sep : ByteArray) : ByteArray := ofL (Lib.cut s.data.toList sep.data.toList).1
def cutZ (s sep : ByteArray) : ByteArray := ofL (Lib.cut s.data.toList sep.data.toList).2.1
def cutH (s sep : ByteArray) : Bool := (Lib.cut s.data.toList sep.data.toList).2.2
def splB (s sep : ByteArray) : List ByteArray := Lib.splitB sep 0 (Lib.countB s sep) s
def atoB (s : ByteArray) : Bool := match Lib.atoiAll s.data.toList with
 | .ok _ => true
 | _ => false
def atoV (s : ByteArray) : Int := match Lib.atoiAll s.data.toList with
 | .ok v => v
 | .range => Lib.atoiSat s.data.toList
 | _ => 0
theorem pow_is {W : World} (h : Gd W) : Lib.TabIs Tryz.prog W "internal/strconv.uint64pow10" .u64 Lib.pow10Tab := by
 unfold Lib.TabIs World.var?
 rw [show Tryz.prog.globalNamed "internal/strconv.uint64pow10" = some 5 from by kernel_rfl]
 exact h.2.pow
theorem qmw (w : World) (os : Array Obj) : Below w.heap.size w (Go.Sort.grow w os) :=
 ⟨rfl, rfl, rfl, by simp, fun k hk => by simp [Go.Sort.grow, Array.getElem?_append_left hk]⟩
theorem below_dn (w : World) (n : Nat) : Below w.heap.size w (w.drewN n) := ⟨rfl, rfl, rfl, Nat.le_refl _, fun _ _ => rfl⟩
def qfo : Con := fun args => match args with
 | [.t (.c (.v (.int .i64 n)))] => some (.t (.c (.v (.string (q0f n)))), some (-9223372036854775808 ≤ n ∧ n ≤ 9223372036854775807), .no)
 | _ => none
theorem ok_Itoa : Ok Tryz.prog 78 qfo := by
 refine Ok.oldGd (Enters.of (fn := Tryz.f78) (by kernel_rfl) (by kernel_rfl) (by kernel_rfl)) fun args r pre fresh h hp => ?_
 unfold qfo at h
 split at h
 ·rename_i n
  cases h
  refine ⟨rfl, _, rfl, fun W N vs hG hv => ?_⟩
  obtain ⟨u0, ws0, rfl, g0, hv0⟩ := hv.cons_inv
  obtain rfl := hv0.nil_inv
  obtain rfl : u0 = .int .i64 n := g0.1
  refine (Tryz.strconv_Itoa n hp.1 hp.2 W (pow_is hG)).mono ?_
  rintro e w' ⟨rfl, k, os, rfl⟩
  exact ⟨rfl, (below_dn W k).trans ((qmw (W.drewN k) os).mono (Nat.le_refl _))⟩
 ·cases h
def qfp : Con := fun args => match args with
 | [.t (.c (.v (.string s))), .t (.c (.v (.string p)))] => some (.t (.c (.v (.string (q1I s p)))), none, .no)
 | _ => none
theorem ok_Trim : Ok Tryz.prog 85 qfp := by
 refine Ok.oldGd (Enters.of (fn := Tryz.f85) (by kernel_rfl) (by kernel_rfl) (by kernel_rfl)) fun args r pre fresh h hp => ?_
 unfold qfp at h
 split at h
 ·rename_i s p
  cases h
  refine ⟨rfl, _, rfl, fun W N vs hG hv => ?_⟩
  obtain ⟨u0, ws0, rfl, g0, hv0⟩ := hv.cons_inv
  obtain ⟨u1, ws1, rfl, g1, hv1⟩ := hv0.cons_inv
  obtain rfl := hv1.nil_inv
  obtain rfl : u0 = .string s := g0.1
  obtain rfl : u1 = .string p := g1.1
  refine (Tryz.strings_TrimPrefix s p W).mono ?_
  rintro e w' ⟨rfl, rfl⟩
  exact ⟨rfl, Below.refl _ _⟩
 ·cases h
def qfq : Con := fun args => match args with
 | [.t (.c (.v (.string s)))] => some (.tu [.c (.v (.int .i64 (atoV s))), .c (.er (atoB s))], some (s.size ≤ 1000000000), .no)
 | _ => none
theorem ok_Atoi : Ok Tryz.prog 84 qfq := by
 intro args r pre fresh h hp
 unfold qfq at h
 split at h
 ·rename_i s
  cases h
  refine ⟨Enters.of (fn := Tryz.f84) (by kernel_rfl) (by kernel_rfl) (by kernel_rfl), fun W N vs hG hv => ?_⟩
  have hv : All2 (RelD (RelF W N)) [.t (.c (.v (.string s)))] vs := hv
  obtain ⟨u0, ws0, rfl, g0, hv0⟩ := hv.cons_inv
  obtain rfl := hv0.nil_inv
  obtain rfl : u0 = .string s := g0.1
  have hp : s.size ≤ 1000000000 := hp
  cases ha : Lib.atoiAll s.data.toList with
  | ok v =>
   refine (Tryz.strconv_Atoi_ok s (by omega) v ha W).mono ?_
   rintro e w' ⟨rfl, hw⟩
   have e1 : atoB s = true := by unfold atoB; rw [ha]
   have e2 : atoV s = v := by unfold atoV; rw [ha]
   refine ⟨_, rfl, ⟨[_, _], rfl, ⟨by rw [e2], rfl⟩, Or.inl ⟨e1, rfl⟩, trivial⟩, ?_⟩
   rcases hw with rfl | ⟨t, rfl⟩
   ·exact Below.refl _ _
   ·exact Go.Joins.below_bytesWorld _ _ _ _ (Nat.le_refl _)
  | range =>
   obtain ⟨t, p, hc⟩ := hG.2.rng
   refine (Tryz.strconv_Atoi_range s (by omega) ha _ W hc (Or.inr ⟨t, p, rfl⟩)).mono ?_
   rintro e w' ⟨n, rfl, _, _, hb⟩
   have e1 : atoB s = false := by unfold atoB; rw [ha]
   have e2 : atoV s = Lib.atoiSat s.data.toList := by unfold atoV; rw [ha]
   exact ⟨_, rfl, ⟨[_, _], rfl, ⟨by rw [e2], rfl⟩, Or.inr ⟨e1, _, _, rfl⟩, trivial⟩, hb⟩
  | _ =>
   obtain ⟨t, p, hc⟩ := hG.2.syn
   refine (Tryz.strconv_Atoi_syntax s (by omega) ha _ W hc (Or.inr ⟨t, p, rfl⟩)).mono ?_
   rintro e w' ⟨n, rfl, _, _, hb⟩
   have e1 : atoB s = false := by unfold atoB; rw [ha]
   have e2 : atoV s = 0 := by unfold atoV; rw [ha]
   exact ⟨_, rfl, ⟨[_, _], rfl, ⟨by rw [e2], rfl⟩, Or.inr ⟨e1, _, _, rfl⟩, trivial⟩, hb⟩
 ·cases h
def qfr : Con := fun args => match args with
 | [.t (.c (.sl 1 n c)), .t (.c (.v (.string p)))] => some (.t (.c (.v (.string (q4V (txOf n c) p)))), some (txP n c ∧ (txOf n c).length ≤ 1000000 ∧ (q4V (txOf n c) p).size ≤ 1000000000), .no)
 | _ => none
theorem ok_Join : Ok Tryz.prog 37 qfr := by
 refine Ok.oldGd (Enters.of (fn := Tryz.f37) (by kernel_rfl) (by kernel_rfl) (by kernel_rfl)) fun args r pre fresh h hp => ?_
 unfold qfr at h
 split at h
 ·rename_i n c p
  cases h
  obtain ⟨hp1, hp2, hp3⟩ := hp
  refine ⟨rfl, _, rfl, fun W N vs hG hv => ?_⟩
  obtain ⟨u0, ws0, rfl, g0, hv0⟩ := hv.cons_inv
  obtain ⟨u1, ws1, rfl, g1, hv1⟩ := hv0.cons_inv
  obtain rfl := hv1.nil_inv
  obtain rfl : u1 = .string p := g1.1
  have g0 : RelF W N (.sl 1 n c) u0 := g0
  obtain ⟨ao, cap, rfl, hcap, hmx, hnil, hcells⟩ := g0
  rw [q8I] at hp2
  rcases Nat.eq_zero_or_pos n with rfl | hn
  ·refine (Tryz.strings_Join_none ao cap p W).mono ?_
   rintro e w' ⟨rfl, rfl⟩
   exact ⟨rfl, Below.refl _ _⟩
  ·obtain ⟨b, off, rfl, hb, hN, hc⟩ := hcells hn
   have hj : (Lib.join ((txOf n c).map (·.data.toList)) p.data.toList).length ≤ 140737488355328 := by
    unfold q4V at hp3
    rw [q1q] at hp3
    omega
   have hq := Tryz.strings_Join b off cap (txOf n c) p W (fun j x hx => by
    have hj : j < n := by have := (List.getElem?_eq_some_iff.1 hx).1; rwa [q8I] at this
    obtain ⟨y, y1, y2⟩ := hc j 0 hj (by omega)
    rw [hp1 j hj] at y2
    rw [show off + j = off + j * 1 + 0 by omega, y1, y2.1]
    have : (txOf n c)[j]? = some (q1V (c j 0)) := by simp [txOf, hj]
    rw [this] at hx
    cases hx
    rfl) hb (by rw [q8I]; omega) (by rw [q8I]; exact hcap) hj
   rw [q8I] at hq
   refine hq.mono ?_
   rintro e w' ⟨rfl, hb⟩
   exact ⟨rfl, hb⟩
 ·cases h
def qd7 : Con := fun args => match args with
 | [.t (.c (.v (.string s))), .t (.c (.v (.string p)))] => some (.t (.c (.sl 1 (splB s p).length (txsC (splB s p)))), some (s.size ≤ 1000000000 ∧ 1 ≤ p.size ∧ (splB s p).length = Lib.countB s p + 1), .new)
 | _ => none
theorem ok_Split : Ok Tryz.prog 83 qd7 := by
 intro args r pre fresh h hp
 unfold qd7 at h
 split at h
 ·rename_i s p
  cases h
  obtain ⟨hp1, hp2, hp3⟩ := hp
  refine ⟨Enters.of (fn := Tryz.f83) (by kernel_rfl) (by kernel_rfl) (by kernel_rfl), fun W N vs hG hv => ?_⟩
  have hv : All2 (RelD (RelF W N)) [.t (.c (.v (.string s))), .t (.c (.v (.string p)))] vs := hv
  obtain ⟨u0, ws0, rfl, g0, hv0⟩ := hv.cons_inv
  obtain ⟨u1, ws1, rfl, g1, hv1⟩ := hv0.cons_inv
  obtain rfl := hv1.nil_inv
  obtain rfl : u0 = .string s := g0.1
  obtain rfl : u1 = .string p := g1.1
  obtain ⟨m, hm⟩ := hG.2.len
  refine (Tryz.strings_Split s p m W (by omega) hm hp2).mono ?_
  rintro e w' ⟨rfl, rfl⟩
  refine ⟨_, rfl, ?_, (Below.refl _ _).alloc (Nat.le_refl _) _⟩
  show RelF _ _ (.sl 1 (splB s p).length (txsC (splB s p))) _
  rw [hp3]
  refine ⟨_, _, rfl, Nat.le_refl _, ?_, (fun h => by cases h), fun _ => ⟨W.heap.size, 0, rfl, by simp, Or.inr (Nat.le_refl _), fun i j hi hj => ?_⟩⟩
  ·have : Lib.countB s p ≤ s.size + 1 := by have := Lib.count_le s.data.toList p.data.toList; rw [q4d] at this; exact this
   unfold maxLen; omega
  ·obtain rfl : j = 0 := by omega
   refine ⟨.string (txAt (splB s p) i), ?_, rfl, rfl⟩
   have hi' : i < (splB s p).length := by rw [hp3]; exact hi
   have hnew : (W.alloc (.cells ((splB s p).map Value.string).toArray 9)).heap[W.heap.size]? = some (.cells ((splB s p).map Value.string).toArray 9) := World.alloc_heap_new W _
   have e : (((splB s p).map Value.string).toArray)[0 + i * 1 + 0]? = some (.string (txAt (splB s p) i)) := by
    simp [txAt, List.getD, hi']
   show World.cell? (W.alloc (.cells ((splB s p).map Value.string).toArray 9)) _ = _
   simp only [World.cell?, hnew]
   exact e
 ·cases h
end Go.Proofs.YtfadkjcfjkmalaaGreatDoor
