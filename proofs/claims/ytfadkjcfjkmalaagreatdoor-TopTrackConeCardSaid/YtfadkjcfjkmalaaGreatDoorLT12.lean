/- Texts of this claim, together. -/
import Derived.Test.YtfadkjcfjkmalaaGreatDoorLT11

set_option maxRecDepth 100000
set_option linter.unusedVariables false
set_option linter.unusedSimpArgs false
namespace Go.Proofs.YtfadkjcfjkmalaaGreatDoor
open Go.RowKit Ev
theorem le_sl {sz n : Nat} {c c' : Nat → Nat → CV} (h : ∀ i j, i < n → j < sz → c i j = c' i j) : LeD (.t (.c (.sl sz n c))) (.t (.c (.sl sz n c'))) := fun w N v g => RelF.sl g h
def plAt (l : List V3) (i : Nat) : V3 := l.getD i ⟨0, 0, 0⟩
def plsC (l : List V3) : Nat → Nat → CV := fun i j => match j with
 | 0 => .v (.int .i64 (plAt l i).x)
 | 1 => .v (.int .i64 (plAt l i).y)
 | _ => .v (.int .i64 (plAt l i).z)
def mkPl (g : Nat → Int) : V3 := ⟨g 0, g 1, g 2⟩
theorem plAt_C {n : Nat} {c : Nat → Nat → CV} {i : Nat} (hi : i < n) : plAt (qa n mkPl c) i = mkPl fun j => qb (c i j) := q7i hi
theorem leL_V3 {n : Nat} {c : Nat → Nat → CV} (hp : qj 3 n c) : LeD (.t (.c (.sl 3 n c))) (.t (.c (.sl 3 (qa n mkPl c).length (plsC (qa n mkPl c))))) := by
 refine leL hp fun i j hi hj => ?_
 unfold plsC
 rw [plAt_C hi]
 rcases (by omega : j = 0 ∨ j = 1 ∨ j = 2) with rfl | rfl | rfl <;> rfl
theorem q7o {l : List V3} {k : Nat} (h : k < l.length) : l.take (k + 1) = l.take k ++ [plAt l k] := by
 rw [List.take_succ_eq_append_getElem h]; simp [plAt, List.getD, h]
def q1f (m : TM) (s p : V3) : Int := if plE p ≠ 0 then plE p else if inB (m.first s p) (-1000000) 1000000 = true ∧ tmE (m.first s p) = 0 then 0 else 22
def simE (m : TM) (s : V3) (l : List V3) : Int := if qd [m.both s, unl (decide (((l.length : Nat) : Int) ≤ (12 : Int))) (8 : Int)] ≠ 0 then qd [m.both s, unl (decide (((l.length : Nat) : Int) ≤ (12 : Int))) (8 : Int)] else scan (fun i => q1f m s (plAt l i)) l.length
def q3u (m : TM) (s p : V3) : TH := ⟨p, m.first s p, 1⟩
def simL (m : TM) (s : V3) (l : List V3) : List TH := if simE m s l ≠ 0 then [] else l.map (q3u m s)
theorem st_ok {m : TM} {s : V3} (h : m.stE s = 0) : s.inS 20 = true ∧ m.permit s := by
 unfold TM.stE at h
 obtain ⟨h1, h2⟩ := fn2 h
 rw [unl_0 (by decide)] at h1 h2
 refine ⟨h1, ?_⟩
 unfold TM.permB at h2
 simpa [TM.permit] using h2
theorem qdf {lo hi : Int} (h : lo ≤ hi) : upto lo hi = lo :: upto (lo + 1) hi := by
 unfold upto
 rw [show (hi - lo + 1).toNat = (hi - (lo + 1) + 1).toNat + 1 by omega, List.range_succ_eq_map, List.map_cons, List.map_map]
 congr 1
 ·simp
 ·apply List.map_congr_left
  intro k _
  simp only [Function.comp_def, Nat.succ_eq_add_one]
  omega
theorem qfw {lo hi : Int} (h : hi < lo) : upto lo hi = [] := by
 unfold upto
 rw [show (hi - lo + 1).toNat = 0 by omega]; rfl
def q6o (b : TB) (x y z : Int) : List V3 := (upto z b.hi.z).map fun z => ⟨x, y, z⟩
def q3o (b : TB) (x y : Int) : List V3 := (upto y b.hi.y).flatMap fun y => q6o b x y b.lo.z
def q2g (b : TB) (x : Int) : List V3 := (upto x b.hi.x).flatMap fun x => q3o b x b.lo.y
theorem qgF {b : TB} {x : Int} (h : x ≤ b.hi.x) : q2g b x = q3o b x b.lo.y ++ q2g b (x + 1) := by unfold q2g; rw [qdf h]; rfl
theorem qiL {b : TB} {x : Int} (h : b.hi.x < x) : q2g b x = [] := by unfold q2g; rw [qfw h]; rfl
theorem qgG {b : TB} {x y : Int} (h : y ≤ b.hi.y) : q3o b x y = q6o b x y b.lo.z ++ q3o b x (y + 1) := by unfold q3o; rw [qdf h]; rfl
theorem qiM {b : TB} {x y : Int} (h : b.hi.y < y) : q3o b x y = [] := by unfold q3o; rw [qfw h]; rfl
theorem qgH {b : TB} {x y z : Int} (h : z ≤ b.hi.z) : q6o b x y z = ⟨x, y, z⟩ :: q6o b x y (z + 1) := by unfold q6o; rw [qdf h]; rfl
theorem qiN {b : TB} {x y z : Int} (h : b.hi.z < z) : q6o b x y z = [] := by unfold q6o; rw [qfw h]; rfl
def v3Cv (s : V3) : List CV := [.v (.int .i64 s.x), .v (.int .i64 s.y), .v (.int .i64 s.z)]
theorem le_v3 (l : List V3) : LeD (.t (.c (.sl 3 (l.map v3Cv).length (genC (l.map v3Cv))))) (.t (.c (.sl 3 l.length (plsC l)))) := by
 rw [List.length_map]
 refine le_sl fun i j hi hj => ?_
 unfold genC plsC plAt
 simp only [List.getD_eq_getElem?_getD, List.getElem?_map, List.getElem?_eq_getElem hi, Option.map_some, Option.getD_some]
 rcases (by omega : j = 0 ∨ j = 1 ∨ j = 2) with rfl | rfl | rfl <;> rfl
theorem qgI {a b : V3} : a = b ↔ a.x = b.x ∧ a.y = b.y ∧ a.z = b.z := by
 obtain ⟨_, _, _⟩ := a
 obtain ⟨_, _, _⟩ := b
 simp
instance : DecidableEq V3 := fun a b => decidable_of_iff _ qgI.symm
theorem q9r {l : List V3} {k : Nat} {s : V3} {r : List V3} (h : l.drop k = s :: r) : k < l.length ∧ plAt l k = s ∧ l.drop (k + 1) = r := by
 have hl : k < l.length := by
  rcases Nat.lt_or_ge k l.length with h1 | h1
  ·exact h1
  ·rw [List.drop_eq_nil_of_le h1] at h; cases h
 rw [List.drop_eq_getElem_cons hl] at h
 injection h with h1 h2
 exact ⟨hl, by simp [plAt, List.getD, hl, h1], h2⟩
theorem sm_in {s : V3} (hx : -20 ≤ s.x ∧ s.x ≤ 20) (hy : -20 ≤ s.y ∧ s.y ≤ 20) (hz : -20 ≤ s.z ∧ s.z ≤ 20) : s.sm s := by
 have h1 := qv (C := 400) hx hx (by decide)
 have h2 := qv (C := 400) hy hy (by decide)
 have h3 := qv (C := 400) hz hz (by decide)
 unfold V3.sm
 omega
theorem sm_box {b : TB} {s : V3} (h : b.has s) (hl : b.lo.inS 20 = true) (hh : b.hi.inS 20 = true) : s.sm s := by
 obtain ⟨a1, a2, a3⟩ := qn.1 hl
 obtain ⟨c1, c2, c3⟩ := qn.1 hh
 unfold TB.has TB.rx TB.ry TB.rz Rg.has at h
 simp only at h
 exact sm_in (by omega) (by omega) (by omega)
theorem qdO {l : List V3} {k : Nat} (h : k < l.length) : plAt l k ∈ l := by simp [plAt, List.getD, h]
theorem qiO {b : TB} (hl : b.lo.inS 20 = true) (hh : b.hi.inS 20 = true) (ho : b.ok) : b.all.length ≤ 68921 := by
 have h := qah ho
 obtain ⟨a1, a2, a3⟩ := qn.1 hl
 obtain ⟨c1, c2, c3⟩ := qn.1 hh
 obtain ⟨o1, o2, o3⟩ := ho
 unfold TB.rx TB.ry TB.rz Rg.ok at *
 simp only at *
 unfold TB.count at h
 have m1 := qv (x := b.hi.x - b.lo.x + 1) (y := b.hi.y - b.lo.y + 1) (A := 41) (B := 41) (C := 1681) (by omega) (by omega) (by decide)
 have m2 := qv (y := b.hi.z - b.lo.z + 1) (A := 1681) (B := 41) (C := 68921) m1 (by omega) (by decide)
 omega
theorem q0c {b : TB} (h : b.err = 0) : b.ok := by
 unfold TB.err at h
 obtain ⟨_, h1, _⟩ := (by simpa only [qD] using h : _ ∧ _ ∧ _)
 rw [unl_0 (by decide)] at h1
 simp only [Bool.and_eq_true, decide_eq_true_eq] at h1
 exact ⟨h1.1.1, h1.1.2, h1.2⟩
def stepsL (m : TM) (b : TB) : List V3 := if qd [m.err, b.err] ≠ 0 then [] else m.steps b
def divE (b : TB) : Int := if b.err ≠ 0 then b.err else if b.count = 1 then 12 else 0
def qC (b0 b1 b2 b3 b4 b5 m0 m1 m2 m3 m4 m5 m6 m7 m8 m9 mA mB : Int) : Nat := (((TM.mk m0 m1 m2 m3 m4 m5 m6 m7 m8 m9 mA mB)).steps (TB.mk (.mk b0 b1 b2) (.mk b3 b4 b5))).length
def qN (b0 b1 b2 b3 b4 b5 m0 m1 m2 m3 m4 m5 m6 m7 m8 m9 mA mB : Int) (i : Nat) : List TV := [.a (v3Cv (plAt (((TM.mk m0 m1 m2 m3 m4 m5 m6 m7 m8 m9 mA mB)).steps (TB.mk (.mk b0 b1 b2) (.mk b3 b4 b5))) i))]
def q1i (l0 : Nat) (b0 b1 b2 b3 b4 b5 m0 m1 m2 m3 m4 m5 m6 m7 m8 m9 mA mB v0_0 : Int) : DS := ⟨[some (.t (.c (.v (.func (.yield l0) #[] #[])))), some (.t (.c (.px 6 0 (boxC [.v (.int .i64 b0), .v (.int .i64 b1), .v (.int .i64 b2), .v (.int .i64 b3), .v (.int .i64 b4), .v (.int .i64 b5)])))), some (.t (.c (.px 12 0 (boxC [.v (.int .i64 m0), .v (.int .i64 m1), .v (.int .i64 m2), .v (.int .i64 m3), .v (.int .i64 m4), .v (.int .i64 m5), .v (.int .i64 m6), .v (.int .i64 m7), .v (.int .i64 m8), .v (.int .i64 m9), .v (.int .i64 mA), .v (.int .i64 mB)])))), none, some (.t (.c (.v (.int .i64 v0_0)))), none, none, none, none, none, none, none, none, none, none, none, none, none, none, none, none, none, none, none, none, none, none, none, none, none, none, none, none, none, none, none, none, none, none, none, none, none, none, none, none, none, none, none, none, none, none], [none, none, none, none, none, none, none, none, none, none, none, none, none, none, none, none, none, none, none, none, none, none, none, none, none, none, none, none, none, none, none, none, none, none, none, none, none, none, none, none, none, none, none, none, none, none, none, none, none, none, none]⟩
def q1j (l0 : Nat) (b0 b1 b2 b3 b4 b5 m0 m1 m2 m3 m4 m5 m6 m7 m8 m9 mA mB v2_0 v2_1 : Int) : DS := ⟨[some (.t (.c (.v (.func (.yield l0) #[] #[])))), some (.t (.c (.px 6 0 (boxC [.v (.int .i64 b0), .v (.int .i64 b1), .v (.int .i64 b2), .v (.int .i64 b3), .v (.int .i64 b4), .v (.int .i64 b5)])))), some (.t (.c (.px 12 0 (boxC [.v (.int .i64 m0), .v (.int .i64 m1), .v (.int .i64 m2), .v (.int .i64 m3), .v (.int .i64 m4), .v (.int .i64 m5), .v (.int .i64 m6), .v (.int .i64 m7), .v (.int .i64 m8), .v (.int .i64 m9), .v (.int .i64 mA), .v (.int .i64 mB)])))), none, some (.t (.c (.v (.int .i64 v2_0)))), some (.t (.c (.v (.int .i64 v2_1)))), none, none, none, none, none, none, none, none, none, none, none, none, none, none, none, none, none, none, none, none, none, none, none, none, none, none, none, none, none, none, none, none, none, none, none, none, none, none, none, none, none, none, none, none, none], [none, none, none, none, none, none, none, none, none, none, none, none, none, none, none, none, none, none, none, none, none, none, none, none, none, none, none, none, none, none, none, none, none, none, none, none, none, none, none, none, none, none, none, none, none, none, none, none, none, none, none]⟩
def q0B (l0 : Nat) (b0 b1 b2 b3 b4 b5 m0 m1 m2 m3 m4 m5 m6 m7 m8 m9 mA mB v4_0 v4_1 v4_2 : Int) : DS := ⟨[some (.t (.c (.v (.func (.yield l0) #[] #[])))), some (.t (.c (.px 6 0 (boxC [.v (.int .i64 b0), .v (.int .i64 b1), .v (.int .i64 b2), .v (.int .i64 b3), .v (.int .i64 b4), .v (.int .i64 b5)])))), some (.t (.c (.px 12 0 (boxC [.v (.int .i64 m0), .v (.int .i64 m1), .v (.int .i64 m2), .v (.int .i64 m3), .v (.int .i64 m4), .v (.int .i64 m5), .v (.int .i64 m6), .v (.int .i64 m7), .v (.int .i64 m8), .v (.int .i64 m9), .v (.int .i64 mA), .v (.int .i64 mB)])))), none, some (.t (.c (.v (.int .i64 v4_0)))), some (.t (.c (.v (.int .i64 v4_1)))), some (.t (.c (.v (.int .i64 v4_2)))), none, none, none, none, none, none, none, none, none, none, none, none, none, none, none, none, none, none, none, none, none, none, none, none, none, none, none, none, none, none, none, none, none, none, none, none, none, none, none, none, none, none, none, none], [none, none, none, none, none, none, none, none, none, none, none, none, none, none, none, none, none, none, none, none, none, none, none, none, none, none, none, none, none, none, none, none, none, none, none, none, none, none, none, none, none, none, none, none, none, none, none, none, none, none, none]⟩
def q1B (J : Inv) (l0 : Nat) (b0 b1 b2 b3 b4 b5 m0 m1 m2 m3 m4 m5 m6 m7 m8 m9 mA mB : Int) : Prop := (0 ≤ (0 : Int) ∧ (0 : Int) < ((3 : Nat) : Int)) ∧ (∃ m, J 0 (0 :: m :: []) (q1i l0 b0 b1 b2 b3 b4 b5 m0 m1 m2 m3 m4 m5 m6 m7 m8 m9 mA mB b0))
def qO : Ann := ⟨fun _ => none, fun b => qr b [(0, (none, some ⟨[0, 1, 2, 4], [], []⟩)), (2, (none, some ⟨[0, 1, 2, 4, 5], [], []⟩)), (4, (none, some ⟨[0, 1, 2, 4, 5, 6], [], []⟩))], fun _ => [], Ilib, false, fun _ => none, fun _ => none⟩
theorem q7T (J : Inv) (l0 : Nat) (b0 b1 b2 b3 b4 b5 m0 m1 m2 m3 m4 m5 m6 m7 m8 m9 mA mB : Int) : evIt Tryz.prog tab Ska63 qO J l0 (qC b0 b1 b2 b3 b4 b5 m0 m1 m2 m3 m4 m5 m6 m7 m8 m9 mA mB) (qN b0 b1 b2 b3 b4 b5 m0 m1 m2 m3 m4 m5 m6 m7 m8 m9 mA mB) (q0W 1 [.px 6 0 (boxC [.v (.int .i64 b0), .v (.int .i64 b1), .v (.int .i64 b2), .v (.int .i64 b3), .v (.int .i64 b4), .v (.int .i64 b5)]), .px 12 0 (boxC [.v (.int .i64 m0), .v (.int .i64 m1), .v (.int .i64 m2), .v (.int .i64 m3), .v (.int .i64 m4), .v (.int .i64 m5), .v (.int .i64 m6), .v (.int .i64 m7), .v (.int .i64 m8), .v (.int .i64 m9), .v (.int .i64 mA), .v (.int .i64 mB)])]) Tryz.f100 ([.px 6 0 (boxC [.v (.int .i64 b0), .v (.int .i64 b1), .v (.int .i64 b2), .v (.int .i64 b3), .v (.int .i64 b4), .v (.int .i64 b5)]), .px 12 0 (boxC [.v (.int .i64 m0), .v (.int .i64 m1), .v (.int .i64 m2), .v (.int .i64 m3), .v (.int .i64 m4), .v (.int .i64 m5), .v (.int .i64 m6), .v (.int .i64 m7), .v (.int .i64 m8), .v (.int .i64 m9), .v (.int .i64 mA), .v (.int .i64 mB)])].map fun x => .t (.c x)) = q1B J l0 b0 b1 b2 b3 b4 b5 m0 m1 m2 m3 m4 m5 m6 m7 m8 m9 mA mB := by kernel_rfl
theorem q7A (b0 b1 b2 b3 b4 b5 m0 m1 m2 m3 m4 m5 m6 m7 m8 m9 mA mB : Int) : okIt qO (q0W 1 [.px 6 0 (boxC [.v (.int .i64 b0), .v (.int .i64 b1), .v (.int .i64 b2), .v (.int .i64 b3), .v (.int .i64 b4), .v (.int .i64 b5)]), .px 12 0 (boxC [.v (.int .i64 m0), .v (.int .i64 m1), .v (.int .i64 m2), .v (.int .i64 m3), .v (.int .i64 m4), .v (.int .i64 m5), .v (.int .i64 m6), .v (.int .i64 m7), .v (.int .i64 m8), .v (.int .i64 m9), .v (.int .i64 mA), .v (.int .i64 mB)])]) Tryz.f100 = true := by kernel_rfl
def q2Q (J : Inv) (l0 : Nat) (b0 b1 b2 b3 b4 b5 m0 m1 m2 m3 m4 m5 m6 m7 m8 m9 mA mB v0_0 : Int) (cc nn0 : Nat) : Prop := (0 ≤ (0 : Int) ∧ (0 : Int) < ((3 : Nat) : Int)) ∧ (cond (decide (v0_0 ≤ b3)) ((0 ≤ (1 : Int) ∧ (1 : Int) < ((3 : Nat) : Int)) ∧ (∃ m, J 2 (cc :: m :: nn0 :: []) (q1j l0 b0 b1 b2 b3 b4 b5 m0 m1 m2 m3 m4 m5 m6 m7 m8 m9 mA mB v0_0 b1))) (cc = (qC b0 b1 b2 b3 b4 b5 m0 m1 m2 m3 m4 m5 m6 m7 m8 m9 mA mB)))
def q2R (J : Inv) (l0 : Nat) (b0 b1 b2 b3 b4 b5 m0 m1 m2 m3 m4 m5 m6 m7 m8 m9 mA mB v2_0 v2_1 : Int) (cc nn2 nn0 : Nat) : Prop := (0 ≤ (1 : Int) ∧ (1 : Int) < ((3 : Nat) : Int)) ∧ (cond (decide (v2_1 ≤ b4)) ((0 ≤ (2 : Int) ∧ (2 : Int) < ((3 : Nat) : Int)) ∧ (∃ m, J 4 (cc :: m :: nn2 :: nn0 :: []) (q0B l0 b0 b1 b2 b3 b4 b5 m0 m1 m2 m3 m4 m5 m6 m7 m8 m9 mA mB v2_0 v2_1 b2))) (lt (IntKind.i64.wrap (v2_0 + (1 : Int))) fun x1 => J 0 (cc :: nn0 :: []) (q1i l0 b0 b1 b2 b3 b4 b5 m0 m1 m2 m3 m4 m5 m6 m7 m8 m9 mA mB x1)))
def q2S (J : Inv) (l0 : Nat) (b0 b1 b2 b3 b4 b5 m0 m1 m2 m3 m4 m5 m6 m7 m8 m9 mA mB v4_0 v4_1 v4_2 : Int) (cc nn4 nn2 nn0 : Nat) : Prop := (0 ≤ (2 : Int) ∧ (2 : Int) < ((3 : Nat) : Int)) ∧ (cond (decide (v4_2 ≤ b5)) ((((V3.mk v4_0 v4_1 v4_2)).sm (V3.mk v4_0 v4_1 v4_2)) ∧ (cond (((TM.mk m0 m1 m2 m3 m4 m5 m6 m7 m8 m9 mA mB)).permB (V3.mk v4_0 v4_1 v4_2)) ((l0 = l0 ∧ cc < (qC b0 b1 b2 b3 b4 b5 m0 m1 m2 m3 m4 m5 m6 m7 m8 m9 mA mB) ∧ ([.a [.v (.int .i64 v4_0), .v (.int .i64 v4_1), .v (.int .i64 v4_2)]] : List TV) = (qN b0 b1 b2 b3 b4 b5 m0 m1 m2 m3 m4 m5 m6 m7 m8 m9 mA mB) cc) ∧ (lt (IntKind.i64.wrap (v4_2 + (1 : Int))) fun x1 => J 4 ((cc + 1) :: nn4 :: nn2 :: nn0 :: []) (q0B l0 b0 b1 b2 b3 b4 b5 m0 m1 m2 m3 m4 m5 m6 m7 m8 m9 mA mB v4_0 v4_1 x1)) ∧ (True)) ((false = false) ∧ (lt (IntKind.i64.wrap (v4_2 + (1 : Int))) fun x2 => J 4 (cc :: nn4 :: nn2 :: nn0 :: []) (q0B l0 b0 b1 b2 b3 b4 b5 m0 m1 m2 m3 m4 m5 m6 m7 m8 m9 mA mB v4_0 v4_1 x2))))) (lt (IntKind.i64.wrap (v4_1 + (1 : Int))) fun x3 => J 2 (cc :: nn2 :: nn0 :: []) (q1j l0 b0 b1 b2 b3 b4 b5 m0 m1 m2 m3 m4 m5 m6 m7 m8 m9 mA mB v4_0 x3)))
theorem q7U (J : Inv) (l0 : Nat) (b0 b1 b2 b3 b4 b5 m0 m1 m2 m3 m4 m5 m6 m7 m8 m9 mA mB : Int) : AllY J (q8j Tryz.prog tab Ska63 qO J l0 (qC b0 b1 b2 b3 b4 b5 m0 m1 m2 m3 m4 m5 m6 m7 m8 m9 mA mB) (qN b0 b1 b2 b3 b4 b5 m0 m1 m2 m3 m4 m5 m6 m7 m8 m9 mA mB) (q0W 1 [.px 6 0 (boxC [.v (.int .i64 b0), .v (.int .i64 b1), .v (.int .i64 b2), .v (.int .i64 b3), .v (.int .i64 b4), .v (.int .i64 b5)]), .px 12 0 (boxC [.v (.int .i64 m0), .v (.int .i64 m1), .v (.int .i64 m2), .v (.int .i64 m3), .v (.int .i64 m4), .v (.int .i64 m5), .v (.int .i64 m6), .v (.int .i64 m7), .v (.int .i64 m8), .v (.int .i64 m9), .v (.int .i64 mA), .v (.int .i64 mB)])]) Tryz.f100) = (((∀ c F s, ¬ J 0 (c :: 0 :: F) s) ∧ ∀ c m F s, J 0 (c :: (m + 1) :: F) s → qhV Tryz.prog tab Ska63 qO J l0 (qC b0 b1 b2 b3 b4 b5 m0 m1 m2 m3 m4 m5 m6 m7 m8 m9 mA mB) (qN b0 b1 b2 b3 b4 b5 m0 m1 m2 m3 m4 m5 m6 m7 m8 m9 mA mB) (q0W 1 [.px 6 0 (boxC [.v (.int .i64 b0), .v (.int .i64 b1), .v (.int .i64 b2), .v (.int .i64 b3), .v (.int .i64 b4), .v (.int .i64 b5)]), .px 12 0 (boxC [.v (.int .i64 m0), .v (.int .i64 m1), .v (.int .i64 m2), .v (.int .i64 m3), .v (.int .i64 m4), .v (.int .i64 m5), .v (.int .i64 m6), .v (.int .i64 m7), .v (.int .i64 m8), .v (.int .i64 m9), .v (.int .i64 mA), .v (.int .i64 mB)])]) Tryz.f100 0 c (m :: F) s) ∧ ((∀ c F s, ¬ J 2 (c :: 0 :: F) s) ∧ ∀ c m F s, J 2 (c :: (m + 1) :: F) s → qhV Tryz.prog tab Ska63 qO J l0 (qC b0 b1 b2 b3 b4 b5 m0 m1 m2 m3 m4 m5 m6 m7 m8 m9 mA mB) (qN b0 b1 b2 b3 b4 b5 m0 m1 m2 m3 m4 m5 m6 m7 m8 m9 mA mB) (q0W 1 [.px 6 0 (boxC [.v (.int .i64 b0), .v (.int .i64 b1), .v (.int .i64 b2), .v (.int .i64 b3), .v (.int .i64 b4), .v (.int .i64 b5)]), .px 12 0 (boxC [.v (.int .i64 m0), .v (.int .i64 m1), .v (.int .i64 m2), .v (.int .i64 m3), .v (.int .i64 m4), .v (.int .i64 m5), .v (.int .i64 m6), .v (.int .i64 m7), .v (.int .i64 m8), .v (.int .i64 m9), .v (.int .i64 mA), .v (.int .i64 mB)])]) Tryz.f100 1 c (m :: F) s) ∧ ((∀ c F s, ¬ J 4 (c :: 0 :: F) s) ∧ ∀ c m F s, J 4 (c :: (m + 1) :: F) s → qhV Tryz.prog tab Ska63 qO J l0 (qC b0 b1 b2 b3 b4 b5 m0 m1 m2 m3 m4 m5 m6 m7 m8 m9 mA mB) (qN b0 b1 b2 b3 b4 b5 m0 m1 m2 m3 m4 m5 m6 m7 m8 m9 mA mB) (q0W 1 [.px 6 0 (boxC [.v (.int .i64 b0), .v (.int .i64 b1), .v (.int .i64 b2), .v (.int .i64 b3), .v (.int .i64 b4), .v (.int .i64 b5)]), .px 12 0 (boxC [.v (.int .i64 m0), .v (.int .i64 m1), .v (.int .i64 m2), .v (.int .i64 m3), .v (.int .i64 m4), .v (.int .i64 m5), .v (.int .i64 m6), .v (.int .i64 m7), .v (.int .i64 m8), .v (.int .i64 m9), .v (.int .i64 mA), .v (.int .i64 mB)])]) Tryz.f100 2 c (m :: F) s) ∧ True) := by kernel_rfl
def q0a (l0 : Nat) (b0 b1 b2 b3 b4 b5 m0 m1 m2 m3 m4 m5 m6 m7 m8 m9 mA mB : Int) : Inv := fun b F s => match b, F with
 | 0, [cc, nn0] => ∃ (v0_0 : Int), s = q1i l0 b0 b1 b2 b3 b4 b5 m0 m1 m2 m3 m4 m5 m6 m7 m8 m9 mA mB v0_0 ∧ (cc ≤ ((TM.mk m0 m1 m2 m3 m4 m5 m6 m7 m8 m9 mA mB).steps (TB.mk (.mk b0 b1 b2) (.mk b3 b4 b5))).length ∧ ((TM.mk m0 m1 m2 m3 m4 m5 m6 m7 m8 m9 mA mB).steps (TB.mk (.mk b0 b1 b2) (.mk b3 b4 b5))).drop cc = (q2g (TB.mk (.mk b0 b1 b2) (.mk b3 b4 b5)) v0_0).filter (TM.mk m0 m1 m2 m3 m4 m5 m6 m7 m8 m9 mA mB).permB ∧ b0 ≤ v0_0 ∧ v0_0 ≤ b3 + 1 ∧ (nn0 : Int) + v0_0 = b3 + 2)
 | 2, [cc, nn2, nn0] => ∃ (v2_0 : Int) (v2_1 : Int), s = q1j l0 b0 b1 b2 b3 b4 b5 m0 m1 m2 m3 m4 m5 m6 m7 m8 m9 mA mB v2_0 v2_1 ∧ (cc ≤ ((TM.mk m0 m1 m2 m3 m4 m5 m6 m7 m8 m9 mA mB).steps (TB.mk (.mk b0 b1 b2) (.mk b3 b4 b5))).length ∧ ((TM.mk m0 m1 m2 m3 m4 m5 m6 m7 m8 m9 mA mB).steps (TB.mk (.mk b0 b1 b2) (.mk b3 b4 b5))).drop cc = (q3o (TB.mk (.mk b0 b1 b2) (.mk b3 b4 b5)) v2_0 v2_1 ++ q2g (TB.mk (.mk b0 b1 b2) (.mk b3 b4 b5)) (v2_0 + 1)).filter (TM.mk m0 m1 m2 m3 m4 m5 m6 m7 m8 m9 mA mB).permB ∧ (b0 ≤ v2_0 ∧ v2_0 ≤ b3 ∧ (nn0 : Int) + v2_0 = b3 + 1) ∧ b1 ≤ v2_1 ∧ v2_1 ≤ b4 + 1 ∧ (nn2 : Int) + v2_1 = b4 + 2)
 | 4, [cc, nn4, nn2, nn0] => ∃ (v4_0 : Int) (v4_1 : Int) (v4_2 : Int), s = q0B l0 b0 b1 b2 b3 b4 b5 m0 m1 m2 m3 m4 m5 m6 m7 m8 m9 mA mB v4_0 v4_1 v4_2 ∧ (cc ≤ ((TM.mk m0 m1 m2 m3 m4 m5 m6 m7 m8 m9 mA mB).steps (TB.mk (.mk b0 b1 b2) (.mk b3 b4 b5))).length ∧ ((TM.mk m0 m1 m2 m3 m4 m5 m6 m7 m8 m9 mA mB).steps (TB.mk (.mk b0 b1 b2) (.mk b3 b4 b5))).drop cc = (q6o (TB.mk (.mk b0 b1 b2) (.mk b3 b4 b5)) v4_0 v4_1 v4_2 ++ (q3o (TB.mk (.mk b0 b1 b2) (.mk b3 b4 b5)) v4_0 (v4_1 + 1) ++ q2g (TB.mk (.mk b0 b1 b2) (.mk b3 b4 b5)) (v4_0 + 1))).filter (TM.mk m0 m1 m2 m3 m4 m5 m6 m7 m8 m9 mA mB).permB ∧ (b0 ≤ v4_0 ∧ v4_0 ≤ b3 ∧ (nn0 : Int) + v4_0 = b3 + 1) ∧ (b1 ≤ v4_1 ∧ v4_1 ≤ b4 ∧ (nn2 : Int) + v4_1 = b4 + 1) ∧ b2 ≤ v4_2 ∧ v4_2 ≤ b5 + 1 ∧ (nn4 : Int) + v4_2 = b5 + 2)
 | _, _ => False
set_option maxHeartbeats 8000000 in
theorem q6O (l0 : Nat) (b0 b1 b2 b3 b4 b5 m0 m1 m2 m3 m4 m5 m6 m7 m8 m9 mA mB v0_0 : Int) (cc nn0 : Nat) (hp : ((TB.mk (.mk b0 b1 b2) (.mk b3 b4 b5))).lo.inS 20 = true ∧ ((TB.mk (.mk b0 b1 b2) (.mk b3 b4 b5))).hi.inS 20 = true ∧ ((TB.mk (.mk b0 b1 b2) (.mk b3 b4 b5))).ok) (hi : cc ≤ ((TM.mk m0 m1 m2 m3 m4 m5 m6 m7 m8 m9 mA mB).steps (TB.mk (.mk b0 b1 b2) (.mk b3 b4 b5))).length ∧ ((TM.mk m0 m1 m2 m3 m4 m5 m6 m7 m8 m9 mA mB).steps (TB.mk (.mk b0 b1 b2) (.mk b3 b4 b5))).drop cc = (q2g (TB.mk (.mk b0 b1 b2) (.mk b3 b4 b5)) v0_0).filter (TM.mk m0 m1 m2 m3 m4 m5 m6 m7 m8 m9 mA mB).permB ∧ b0 ≤ v0_0 ∧ v0_0 ≤ b3 + 1 ∧ ((nn0 + 1) : Int) + v0_0 = b3 + 2) : q2Q (q0a l0 b0 b1 b2 b3 b4 b5 m0 m1 m2 m3 m4 m5 m6 m7 m8 m9 mA mB) l0 b0 b1 b2 b3 b4 b5 m0 m1 m2 m3 m4 m5 m6 m7 m8 m9 mA mB v0_0 cc nn0 := by
 obtain ⟨q1, q2, q3⟩ := hp
 obtain ⟨a1, a2, a3⟩ := qn.1 q1
 obtain ⟨c1, c2, c3⟩ := qn.1 q2
 obtain ⟨o1, o2, o3⟩ := q3
 simp only [TB.rx, TB.ry, TB.rz, Rg.ok] at a1 a2 a3 c1 c2 c3 o1 o2 o3
 obtain ⟨i1, i2, i3, i4⟩ := hi
 unfold q2Q
 refine ⟨by omega, qg (fun h => ⟨by omega, (b4 + 2 - b1).toNat, v0_0, b1, rfl, i1, ?_, ?_, by omega, by omega, by omega⟩) (fun h => ?_)⟩
 ·have h := of_decide_eq_true h
  rw [i2, qgF (b := (TB.mk (.mk b0 b1 b2) (.mk b3 b4 b5))) (by simpa using h)]
 ·have h := of_decide_eq_true h
  omega
 ·have h := of_decide_eq_false h
  rw [qiL (b := (TB.mk (.mk b0 b1 b2) (.mk b3 b4 b5))) (by simp only; omega)] at i2
  unfold qC
  have := congrArg List.length i2
  simp at this
  omega
set_option maxHeartbeats 8000000 in
theorem q6P (l0 : Nat) (b0 b1 b2 b3 b4 b5 m0 m1 m2 m3 m4 m5 m6 m7 m8 m9 mA mB v2_0 v2_1 : Int) (cc nn2 nn0 : Nat) (hp : ((TB.mk (.mk b0 b1 b2) (.mk b3 b4 b5))).lo.inS 20 = true ∧ ((TB.mk (.mk b0 b1 b2) (.mk b3 b4 b5))).hi.inS 20 = true ∧ ((TB.mk (.mk b0 b1 b2) (.mk b3 b4 b5))).ok) (hi : cc ≤ ((TM.mk m0 m1 m2 m3 m4 m5 m6 m7 m8 m9 mA mB).steps (TB.mk (.mk b0 b1 b2) (.mk b3 b4 b5))).length ∧ ((TM.mk m0 m1 m2 m3 m4 m5 m6 m7 m8 m9 mA mB).steps (TB.mk (.mk b0 b1 b2) (.mk b3 b4 b5))).drop cc = (q3o (TB.mk (.mk b0 b1 b2) (.mk b3 b4 b5)) v2_0 v2_1 ++ q2g (TB.mk (.mk b0 b1 b2) (.mk b3 b4 b5)) (v2_0 + 1)).filter (TM.mk m0 m1 m2 m3 m4 m5 m6 m7 m8 m9 mA mB).permB ∧ (b0 ≤ v2_0 ∧ v2_0 ≤ b3 ∧ (nn0 : Int) + v2_0 = b3 + 1) ∧ b1 ≤ v2_1 ∧ v2_1 ≤ b4 + 1 ∧ ((nn2 + 1) : Int) + v2_1 = b4 + 2) : q2R (q0a l0 b0 b1 b2 b3 b4 b5 m0 m1 m2 m3 m4 m5 m6 m7 m8 m9 mA mB) l0 b0 b1 b2 b3 b4 b5 m0 m1 m2 m3 m4 m5 m6 m7 m8 m9 mA mB v2_0 v2_1 cc nn2 nn0 := by
 obtain ⟨q1, q2, q3⟩ := hp
 obtain ⟨a1, a2, a3⟩ := qn.1 q1
 obtain ⟨c1, c2, c3⟩ := qn.1 q2
 obtain ⟨o1, o2, o3⟩ := q3
 simp only [TB.rx, TB.ry, TB.rz, Rg.ok] at a1 a2 a3 c1 c2 c3 o1 o2 o3
 obtain ⟨i1, i2, i3, i4, i5⟩ := hi
 unfold q2R
 refine ⟨by omega, qg (fun h => ⟨by omega, (b5 + 2 - b2).toNat, v2_0, v2_1, b2, rfl, i1, ?_, by omega, ?_, by omega, by omega, by omega⟩) (fun h => lt_i fun x hx => ?_)⟩
 ·have h := of_decide_eq_true h
  rw [i2, qgG (b := (TB.mk (.mk b0 b1 b2) (.mk b3 b4 b5))) (by simpa using h), List.append_assoc]
 ·have h := of_decide_eq_true h
  omega
 ·have h := of_decide_eq_false h
  rw [IntWalk.i64_in _ (by omega)] at hx
  subst hx
  refine ⟨v2_0 + 1, rfl, i1, ?_, by omega, by omega, by omega⟩
  rw [i2, qiM (b := (TB.mk (.mk b0 b1 b2) (.mk b3 b4 b5))) (by simp only; omega), List.nil_append]
set_option maxHeartbeats 8000000 in
theorem q6Q (l0 : Nat) (b0 b1 b2 b3 b4 b5 m0 m1 m2 m3 m4 m5 m6 m7 m8 m9 mA mB v4_0 v4_1 v4_2 : Int) (cc nn4 nn2 nn0 : Nat) (hp : ((TB.mk (.mk b0 b1 b2) (.mk b3 b4 b5))).lo.inS 20 = true ∧ ((TB.mk (.mk b0 b1 b2) (.mk b3 b4 b5))).hi.inS 20 = true ∧ ((TB.mk (.mk b0 b1 b2) (.mk b3 b4 b5))).ok) (hi : cc ≤ ((TM.mk m0 m1 m2 m3 m4 m5 m6 m7 m8 m9 mA mB).steps (TB.mk (.mk b0 b1 b2) (.mk b3 b4 b5))).length ∧ ((TM.mk m0 m1 m2 m3 m4 m5 m6 m7 m8 m9 mA mB).steps (TB.mk (.mk b0 b1 b2) (.mk b3 b4 b5))).drop cc = (q6o (TB.mk (.mk b0 b1 b2) (.mk b3 b4 b5)) v4_0 v4_1 v4_2 ++ (q3o (TB.mk (.mk b0 b1 b2) (.mk b3 b4 b5)) v4_0 (v4_1 + 1) ++ q2g (TB.mk (.mk b0 b1 b2) (.mk b3 b4 b5)) (v4_0 + 1))).filter (TM.mk m0 m1 m2 m3 m4 m5 m6 m7 m8 m9 mA mB).permB ∧ (b0 ≤ v4_0 ∧ v4_0 ≤ b3 ∧ (nn0 : Int) + v4_0 = b3 + 1) ∧ (b1 ≤ v4_1 ∧ v4_1 ≤ b4 ∧ (nn2 : Int) + v4_1 = b4 + 1) ∧ b2 ≤ v4_2 ∧ v4_2 ≤ b5 + 1 ∧ ((nn4 + 1) : Int) + v4_2 = b5 + 2) : q2S (q0a l0 b0 b1 b2 b3 b4 b5 m0 m1 m2 m3 m4 m5 m6 m7 m8 m9 mA mB) l0 b0 b1 b2 b3 b4 b5 m0 m1 m2 m3 m4 m5 m6 m7 m8 m9 mA mB v4_0 v4_1 v4_2 cc nn4 nn2 nn0 := by
 obtain ⟨q1, q2, q3⟩ := hp
 obtain ⟨a1, a2, a3⟩ := qn.1 q1
 obtain ⟨c1, c2, c3⟩ := qn.1 q2
 obtain ⟨o1, o2, o3⟩ := q3
 simp only [TB.rx, TB.ry, TB.rz, Rg.ok] at a1 a2 a3 c1 c2 c3 o1 o2 o3
 obtain ⟨i1, i2, i3, i4, i5⟩ := hi
 unfold q2S
 refine ⟨by omega, qg (fun h => ?_) (fun h => lt_i fun x hx => ?_)⟩
 ·have h := of_decide_eq_true h
  refine ⟨sm_in (by simp only; omega) (by simp only; omega) (by simp only; omega), ?_⟩
  rw [qgH (b := (TB.mk (.mk b0 b1 b2) (.mk b3 b4 b5))) (by simpa using h), List.cons_append, List.filter_cons] at i2
  refine qg (fun e => ⟨⟨rfl, ?_, ?_⟩, lt_i fun x hx => ?_, trivial⟩) (fun e => ⟨rfl, lt_i fun x hx => ?_⟩)
  ·rw [if_pos e] at i2
   exact (q9r i2).1
  ·rw [if_pos e] at i2
   have e2 := (q9r i2).2.1
   unfold qN
   rw [show plAt ((TM.mk m0 m1 m2 m3 m4 m5 m6 m7 m8 m9 mA mB).steps (TB.mk (.mk b0 b1 b2) (.mk b3 b4 b5))) cc = _ from e2]; rfl
  ·rw [if_pos e] at i2
   rw [IntWalk.i64_in _ (by omega)] at hx
   subst hx
   exact ⟨_, _, _, rfl, (q9r i2).1, (q9r i2).2.2, i3, i4, by omega, by omega, by omega⟩
  ·rw [if_neg (by rw [e]; simp)] at i2
   rw [IntWalk.i64_in _ (by omega)] at hx
   subst hx
   exact ⟨_, _, _, rfl, i1, i2, i3, i4, by omega, by omega, by omega⟩
 ·have h := of_decide_eq_false h
  rw [IntWalk.i64_in _ (by omega)] at hx
  subst hx
  refine ⟨v4_0, v4_1 + 1, rfl, i1, ?_, i3, by omega, by omega, by omega⟩
  rw [i2, qiN (b := (TB.mk (.mk b0 b1 b2) (.mk b3 b4 b5))) (by simp only; omega), List.nil_append]
set_option maxHeartbeats 8000000 in
theorem q7p (l0 : Nat) (b0 b1 b2 b3 b4 b5 m0 m1 m2 m3 m4 m5 m6 m7 m8 m9 mA mB : Int) (hp : ((TB.mk (.mk b0 b1 b2) (.mk b3 b4 b5))).lo.inS 20 = true ∧ ((TB.mk (.mk b0 b1 b2) (.mk b3 b4 b5))).hi.inS 20 = true ∧ ((TB.mk (.mk b0 b1 b2) (.mk b3 b4 b5))).ok) : q1B (q0a l0 b0 b1 b2 b3 b4 b5 m0 m1 m2 m3 m4 m5 m6 m7 m8 m9 mA mB) l0 b0 b1 b2 b3 b4 b5 m0 m1 m2 m3 m4 m5 m6 m7 m8 m9 mA mB := by
 obtain ⟨q1, q2, q3⟩ := hp
 obtain ⟨a1, a2, a3⟩ := qn.1 q1
 obtain ⟨c1, c2, c3⟩ := qn.1 q2
 obtain ⟨o1, o2, o3⟩ := q3
 simp only [TB.rx, TB.ry, TB.rz, Rg.ok] at a1 a2 a3 c1 c2 c3 o1 o2 o3
 unfold q1B
 refine ⟨by omega, (b3 + 2 - b0).toNat, b0, rfl, by omega, ?_, by omega, by omega, by omega⟩
 rw [List.drop_zero]; rfl
theorem q7B (l0 : Nat) (b0 b1 b2 b3 b4 b5 m0 m1 m2 m3 m4 m5 m6 m7 m8 m9 mA mB : Int) (hp : ((TB.mk (.mk b0 b1 b2) (.mk b3 b4 b5))).lo.inS 20 = true ∧ ((TB.mk (.mk b0 b1 b2) (.mk b3 b4 b5))).hi.inS 20 = true ∧ ((TB.mk (.mk b0 b1 b2) (.mk b3 b4 b5))).ok) : AllY (q0a l0 b0 b1 b2 b3 b4 b5 m0 m1 m2 m3 m4 m5 m6 m7 m8 m9 mA mB) (q8j Tryz.prog tab Ska63 qO (q0a l0 b0 b1 b2 b3 b4 b5 m0 m1 m2 m3 m4 m5 m6 m7 m8 m9 mA mB) l0 (qC b0 b1 b2 b3 b4 b5 m0 m1 m2 m3 m4 m5 m6 m7 m8 m9 mA mB) (qN b0 b1 b2 b3 b4 b5 m0 m1 m2 m3 m4 m5 m6 m7 m8 m9 mA mB) (q0W 1 [.px 6 0 (boxC [.v (.int .i64 b0), .v (.int .i64 b1), .v (.int .i64 b2), .v (.int .i64 b3), .v (.int .i64 b4), .v (.int .i64 b5)]), .px 12 0 (boxC [.v (.int .i64 m0), .v (.int .i64 m1), .v (.int .i64 m2), .v (.int .i64 m3), .v (.int .i64 m4), .v (.int .i64 m5), .v (.int .i64 m6), .v (.int .i64 m7), .v (.int .i64 m8), .v (.int .i64 m9), .v (.int .i64 mA), .v (.int .i64 mB)])]) Tryz.f100) := by
 rw [q7U]
 refine ⟨⟨?_, ?_⟩, ⟨?_, ?_⟩, ⟨?_, ?_⟩, trivial⟩
 ·intro c F s h
  obtain _ | ⟨g, F⟩ := F
  case cons => exact h.elim
  obtain ⟨w0, rfl, hi⟩ := h
  omega
 ·intro c n F s h
  obtain _ | ⟨g, F⟩ := F
  case cons => exact h.elim
  obtain ⟨w0, rfl, hi⟩ := h
  exact cast (by kernel_rfl) (q6O l0 _ _ _ _ _ _ _ _ _ _ _ _ _ _ _ _ _ _ _ _ _ hp hi)
 ·intro c F s h
  obtain _ | ⟨f0, F⟩ := F
  ·exact h.elim
  obtain _ | ⟨g, F⟩ := F
  case cons => exact h.elim
  obtain ⟨w0, w1, rfl, hi⟩ := h
  omega
 ·intro c n F s h
  obtain _ | ⟨f0, F⟩ := F
  ·exact h.elim
  obtain _ | ⟨g, F⟩ := F
  case cons => exact h.elim
  obtain ⟨w0, w1, rfl, hi⟩ := h
  exact cast (by kernel_rfl) (q6P l0 _ _ _ _ _ _ _ _ _ _ _ _ _ _ _ _ _ _ _ _ _ _ _ hp hi)
 ·intro c F s h
  obtain _ | ⟨f0, F⟩ := F
  ·exact h.elim
  obtain _ | ⟨f1, F⟩ := F
  ·exact h.elim
  obtain _ | ⟨g, F⟩ := F
  case cons => exact h.elim
  obtain ⟨w0, w1, w2, rfl, hi⟩ := h
  omega
 ·intro c n F s h
  obtain _ | ⟨f0, F⟩ := F
  ·exact h.elim
  obtain _ | ⟨f1, F⟩ := F
  ·exact h.elim
  obtain _ | ⟨g, F⟩ := F
  case cons => exact h.elim
  obtain ⟨w0, w1, w2, rfl, hi⟩ := h
  exact cast (by kernel_rfl) (q6Q l0 _ _ _ _ _ _ _ _ _ _ _ _ _ _ _ _ _ _ _ _ _ _ _ _ _ hp hi)
def q1r : ItC := fun l => match l with
 | [.px 6 0 c_b, .px 12 0 c_m] => some ⟨qC (qb (c_b 0)) (qb (c_b 1)) (qb (c_b 2)) (qb (c_b 3)) (qb (c_b 4)) (qb (c_b 5)) (qb (c_m 0)) (qb (c_m 1)) (qb (c_m 2)) (qb (c_m 3)) (qb (c_m 4)) (qb (c_m 5)) (qb (c_m 6)) (qb (c_m 7)) (qb (c_m 8)) (qb (c_m 9)) (qb (c_m 10)) (qb (c_m 11)), 1, qN (qb (c_b 0)) (qb (c_b 1)) (qb (c_b 2)) (qb (c_b 3)) (qb (c_b 4)) (qb (c_b 5)) (qb (c_m 0)) (qb (c_m 1)) (qb (c_m 2)) (qb (c_m 3)) (qb (c_m 4)) (qb (c_m 5)) (qb (c_m 6)) (qb (c_m 7)) (qb (c_m 8)) (qb (c_m 9)) (qb (c_m 10)) (qb (c_m 11)), some (q4v 6 c_b = true ∧ q4v 12 c_m = true ∧ ((⟨⟨(qb (c_b 0)), (qb (c_b 1)), (qb (c_b 2))⟩, ⟨(qb (c_b 3)), (qb (c_b 4)), (qb (c_b 5))⟩⟩ : TB)).lo.inS 20 = true ∧ ((⟨⟨(qb (c_b 0)), (qb (c_b 1)), (qb (c_b 2))⟩, ⟨(qb (c_b 3)), (qb (c_b 4)), (qb (c_b 5))⟩⟩ : TB)).hi.inS 20 = true ∧ ((⟨⟨(qb (c_b 0)), (qb (c_b 1)), (qb (c_b 2))⟩, ⟨(qb (c_b 3)), (qb (c_b 4)), (qb (c_b 5))⟩⟩ : TB)).ok), false, none, none⟩
 | _ => none
theorem q7V : OkIt Tryz.prog 100 q1r := by
 refine OkIt.it (ann := qO) qo VSka63 (fn := Tryz.f100) (by kernel_rfl) (by kernel_rfl) fun l R h hp => ?_
 unfold q1r at h
 split at h
 ·rename_i c_b c_m
  cases h
  obtain ⟨hq0, hq1, hp⟩ := hp
  refine ⟨[.px 6 0 (boxC (pxL 6 c_b)), .px 12 0 (boxC (pxL 12 c_m))], rfl, (qjU (leC_px hq0) (qjU (leC_px hq1) (LeC.refl []))), ?_, Nat.le_of_ble_eq_true (by kernel_rfl), fun i => ⟨rfl, rfl⟩, fun l0 => ⟨q0a l0 (qb (c_b 0)) (qb (c_b 1)) (qb (c_b 2)) (qb (c_b 3)) (qb (c_b 4)) (qb (c_b 5)) (qb (c_m 0)) (qb (c_m 1)) (qb (c_m 2)) (qb (c_m 3)) (qb (c_m 4)) (qb (c_m 5)) (qb (c_m 6)) (qb (c_m 7)) (qb (c_m 8)) (qb (c_m 9)) (qb (c_m 10)) (qb (c_m 11)), ?_, ?_⟩⟩
  ·exact q7A (qb (c_b 0)) (qb (c_b 1)) (qb (c_b 2)) (qb (c_b 3)) (qb (c_b 4)) (qb (c_b 5)) (qb (c_m 0)) (qb (c_m 1)) (qb (c_m 2)) (qb (c_m 3)) (qb (c_m 4)) (qb (c_m 5)) (qb (c_m 6)) (qb (c_m 7)) (qb (c_m 8)) (qb (c_m 9)) (qb (c_m 10)) (qb (c_m 11))
  ·exact (q7T _ l0 (qb (c_b 0)) (qb (c_b 1)) (qb (c_b 2)) (qb (c_b 3)) (qb (c_b 4)) (qb (c_b 5)) (qb (c_m 0)) (qb (c_m 1)) (qb (c_m 2)) (qb (c_m 3)) (qb (c_m 4)) (qb (c_m 5)) (qb (c_m 6)) (qb (c_m 7)) (qb (c_m 8)) (qb (c_m 9)) (qb (c_m 10)) (qb (c_m 11))).mpr (q7p l0 (qb (c_b 0)) (qb (c_b 1)) (qb (c_b 2)) (qb (c_b 3)) (qb (c_b 4)) (qb (c_b 5)) (qb (c_m 0)) (qb (c_m 1)) (qb (c_m 2)) (qb (c_m 3)) (qb (c_m 4)) (qb (c_m 5)) (qb (c_m 6)) (qb (c_m 7)) (qb (c_m 8)) (qb (c_m 9)) (qb (c_m 10)) (qb (c_m 11)) hp)
  ·exact q7B l0 (qb (c_b 0)) (qb (c_b 1)) (qb (c_b 2)) (qb (c_b 3)) (qb (c_b 4)) (qb (c_b 5)) (qb (c_m 0)) (qb (c_m 1)) (qb (c_m 2)) (qb (c_m 3)) (qb (c_m 4)) (qb (c_m 5)) (qb (c_m 6)) (qb (c_m 7)) (qb (c_m 8)) (qb (c_m 9)) (qb (c_m 10)) (qb (c_m 11)) hp
 ·cases h
def Ikv64 : It := addI Ilib 100 q1r
theorem VIkv64 : ValidIt Tryz.prog Ikv64 := ValidIt.add VIlib q7V
def q9s (b0 b1 b2 b3 b4 b5 : Int) (post : DV → Prop) : Prop := (0 ≤ (0 : Int) ∧ (0 : Int) < ((3 : Nat) : Int)) ∧ ((0 ≤ (0 : Int) ∧ (0 : Int) < ((3 : Nat) : Int)) ∧ (lt (IntKind.i64.wrap (b3 - b0)) fun x1 => (0 ≤ (0 : Int) ∧ (0 : Int) < ((3 : Nat) : Int)) ∧ ((0 ≤ (0 : Int) ∧ (0 : Int) < ((3 : Nat) : Int)) ∧ (lt (IntKind.i64.wrap (b3 - b0)) fun x2 => cond (decide (x1 > x2)) ((0 ≤ (1 : Int) ∧ (1 : Int) < ((3 : Nat) : Int)) ∧ ((0 ≤ (1 : Int) ∧ (1 : Int) < ((3 : Nat) : Int)) ∧ (lt (IntKind.i64.wrap (b4 - b1)) fun x3 => (0 ≤ (0 : Int) ∧ (0 : Int) < ((3 : Nat) : Int)) ∧ ((0 ≤ (0 : Int) ∧ (0 : Int) < ((3 : Nat) : Int)) ∧ (lt (IntKind.i64.wrap (b3 - b0)) fun x4 => cond (decide (x3 > x4)) ((0 ≤ (2 : Int) ∧ (2 : Int) < ((3 : Nat) : Int)) ∧ ((0 ≤ (2 : Int) ∧ (2 : Int) < ((3 : Nat) : Int)) ∧ (lt (IntKind.i64.wrap (b5 - b2)) fun x5 => (0 ≤ (1 : Int) ∧ (1 : Int) < ((3 : Nat) : Int)) ∧ ((0 ≤ (1 : Int) ∧ (1 : Int) < ((3 : Nat) : Int)) ∧ (lt (IntKind.i64.wrap (b4 - b1)) fun x6 => cond (decide (x5 > x6)) ((0 ≤ (2 : Int) ∧ (2 : Int) < ((3 : Nat) : Int)) ∧ ((0 ≤ (2 : Int) ∧ (2 : Int) < ((3 : Nat) : Int)) ∧ ((0 ≤ (2 : Int) ∧ (2 : Int) < ((3 : Nat) : Int)) ∧ (lt (IntKind.i64.wrap (b5 - b2)) fun x7 => lt (IntKind.i64.wrap (Int.tdiv x7 (2 : Int))) fun x8 => (IntKind.i64 = IntKind.i64 ∧ (2 : Int) ≠ 0) ∧ (lt (IntKind.i64.wrap (b2 + x8)) fun x9 => lt (IntKind.i64.wrap (x9 + (1 : Int))) fun x10 => (0 ≤ (2 : Int) ∧ (2 : Int) < ((3 : Nat) : Int)) ∧ ((0 ≤ (2 : Int) ∧ (2 : Int) < ((3 : Nat) : Int)) ∧ (post (.t (.a [.v (.int .i64 b0), .v (.int .i64 b1), .v (.int .i64 b2), .v (.int .i64 b3), .v (.int .i64 b4), .v (.int .i64 x9), .v (.int .i64 b0), .v (.int .i64 b1), .v (.int .i64 x10), .v (.int .i64 b3), .v (.int .i64 b4), .v (.int .i64 b5)]))))))))) ((0 ≤ (1 : Int) ∧ (1 : Int) < ((3 : Nat) : Int)) ∧ ((0 ≤ (1 : Int) ∧ (1 : Int) < ((3 : Nat) : Int)) ∧ ((0 ≤ (1 : Int) ∧ (1 : Int) < ((3 : Nat) : Int)) ∧ (lt (IntKind.i64.wrap (b4 - b1)) fun x11 => lt (IntKind.i64.wrap (Int.tdiv x11 (2 : Int))) fun x12 => (IntKind.i64 = IntKind.i64 ∧ (2 : Int) ≠ 0) ∧ (lt (IntKind.i64.wrap (b1 + x12)) fun x13 => lt (IntKind.i64.wrap (x13 + (1 : Int))) fun x14 => (0 ≤ (1 : Int) ∧ (1 : Int) < ((3 : Nat) : Int)) ∧ ((0 ≤ (1 : Int) ∧ (1 : Int) < ((3 : Nat) : Int)) ∧ (post (.t (.a [.v (.int .i64 b0), .v (.int .i64 b1), .v (.int .i64 b2), .v (.int .i64 b3), .v (.int .i64 x13), .v (.int .i64 b5), .v (.int .i64 b0), .v (.int .i64 x14), .v (.int .i64 b2), .v (.int .i64 b3), .v (.int .i64 b4), .v (.int .i64 b5)])))))))))))))) ((0 ≤ (2 : Int) ∧ (2 : Int) < ((3 : Nat) : Int)) ∧ ((0 ≤ (2 : Int) ∧ (2 : Int) < ((3 : Nat) : Int)) ∧ (lt (IntKind.i64.wrap (b5 - b2)) fun x15 => (0 ≤ (0 : Int) ∧ (0 : Int) < ((3 : Nat) : Int)) ∧ ((0 ≤ (0 : Int) ∧ (0 : Int) < ((3 : Nat) : Int)) ∧ (lt (IntKind.i64.wrap (b3 - b0)) fun x16 => cond (decide (x15 > x16)) ((0 ≤ (2 : Int) ∧ (2 : Int) < ((3 : Nat) : Int)) ∧ ((0 ≤ (2 : Int) ∧ (2 : Int) < ((3 : Nat) : Int)) ∧ ((0 ≤ (2 : Int) ∧ (2 : Int) < ((3 : Nat) : Int)) ∧ (lt (IntKind.i64.wrap (b5 - b2)) fun x17 => lt (IntKind.i64.wrap (Int.tdiv x17 (2 : Int))) fun x18 => (IntKind.i64 = IntKind.i64 ∧ (2 : Int) ≠ 0) ∧ (lt (IntKind.i64.wrap (b2 + x18)) fun x19 => lt (IntKind.i64.wrap (x19 + (1 : Int))) fun x20 => (0 ≤ (2 : Int) ∧ (2 : Int) < ((3 : Nat) : Int)) ∧ ((0 ≤ (2 : Int) ∧ (2 : Int) < ((3 : Nat) : Int)) ∧ (post (.t (.a [.v (.int .i64 b0), .v (.int .i64 b1), .v (.int .i64 b2), .v (.int .i64 b3), .v (.int .i64 b4), .v (.int .i64 x19), .v (.int .i64 b0), .v (.int .i64 b1), .v (.int .i64 x20), .v (.int .i64 b3), .v (.int .i64 b4), .v (.int .i64 b5)]))))))))) ((0 ≤ (0 : Int) ∧ (0 : Int) < ((3 : Nat) : Int)) ∧ ((0 ≤ (0 : Int) ∧ (0 : Int) < ((3 : Nat) : Int)) ∧ ((0 ≤ (0 : Int) ∧ (0 : Int) < ((3 : Nat) : Int)) ∧ (lt (IntKind.i64.wrap (b3 - b0)) fun x21 => lt (IntKind.i64.wrap (Int.tdiv x21 (2 : Int))) fun x22 => (IntKind.i64 = IntKind.i64 ∧ (2 : Int) ≠ 0) ∧ (lt (IntKind.i64.wrap (b0 + x22)) fun x23 => lt (IntKind.i64.wrap (x23 + (1 : Int))) fun x24 => (0 ≤ (0 : Int) ∧ (0 : Int) < ((3 : Nat) : Int)) ∧ ((0 ≤ (0 : Int) ∧ (0 : Int) < ((3 : Nat) : Int)) ∧ (post (.t (.a [.v (.int .i64 b0), .v (.int .i64 b1), .v (.int .i64 b2), .v (.int .i64 x23), .v (.int .i64 b4), .v (.int .i64 b5), .v (.int .i64 x24), .v (.int .i64 b1), .v (.int .i64 b2), .v (.int .i64 b3), .v (.int .i64 b4), .v (.int .i64 b5)]))))))))))))))))))) ((0 ≤ (1 : Int) ∧ (1 : Int) < ((3 : Nat) : Int)) ∧ ((0 ≤ (1 : Int) ∧ (1 : Int) < ((3 : Nat) : Int)) ∧ (lt (IntKind.i64.wrap (b4 - b1)) fun x25 => (0 ≤ (0 : Int) ∧ (0 : Int) < ((3 : Nat) : Int)) ∧ ((0 ≤ (0 : Int) ∧ (0 : Int) < ((3 : Nat) : Int)) ∧ (lt (IntKind.i64.wrap (b3 - b0)) fun x26 => cond (decide (x25 > x26)) ((0 ≤ (2 : Int) ∧ (2 : Int) < ((3 : Nat) : Int)) ∧ ((0 ≤ (2 : Int) ∧ (2 : Int) < ((3 : Nat) : Int)) ∧ (lt (IntKind.i64.wrap (b5 - b2)) fun x27 => (0 ≤ (1 : Int) ∧ (1 : Int) < ((3 : Nat) : Int)) ∧ ((0 ≤ (1 : Int) ∧ (1 : Int) < ((3 : Nat) : Int)) ∧ (lt (IntKind.i64.wrap (b4 - b1)) fun x28 => cond (decide (x27 > x28)) ((0 ≤ (2 : Int) ∧ (2 : Int) < ((3 : Nat) : Int)) ∧ ((0 ≤ (2 : Int) ∧ (2 : Int) < ((3 : Nat) : Int)) ∧ ((0 ≤ (2 : Int) ∧ (2 : Int) < ((3 : Nat) : Int)) ∧ (lt (IntKind.i64.wrap (b5 - b2)) fun x29 => lt (IntKind.i64.wrap (Int.tdiv x29 (2 : Int))) fun x30 => (IntKind.i64 = IntKind.i64 ∧ (2 : Int) ≠ 0) ∧ (lt (IntKind.i64.wrap (b2 + x30)) fun x31 => lt (IntKind.i64.wrap (x31 + (1 : Int))) fun x32 => (0 ≤ (2 : Int) ∧ (2 : Int) < ((3 : Nat) : Int)) ∧ ((0 ≤ (2 : Int) ∧ (2 : Int) < ((3 : Nat) : Int)) ∧ (post (.t (.a [.v (.int .i64 b0), .v (.int .i64 b1), .v (.int .i64 b2), .v (.int .i64 b3), .v (.int .i64 b4), .v (.int .i64 x31), .v (.int .i64 b0), .v (.int .i64 b1), .v (.int .i64 x32), .v (.int .i64 b3), .v (.int .i64 b4), .v (.int .i64 b5)]))))))))) ((0 ≤ (1 : Int) ∧ (1 : Int) < ((3 : Nat) : Int)) ∧ ((0 ≤ (1 : Int) ∧ (1 : Int) < ((3 : Nat) : Int)) ∧ ((0 ≤ (1 : Int) ∧ (1 : Int) < ((3 : Nat) : Int)) ∧ (lt (IntKind.i64.wrap (b4 - b1)) fun x33 => lt (IntKind.i64.wrap (Int.tdiv x33 (2 : Int))) fun x34 => (IntKind.i64 = IntKind.i64 ∧ (2 : Int) ≠ 0) ∧ (lt (IntKind.i64.wrap (b1 + x34)) fun x35 => lt (IntKind.i64.wrap (x35 + (1 : Int))) fun x36 => (0 ≤ (1 : Int) ∧ (1 : Int) < ((3 : Nat) : Int)) ∧ ((0 ≤ (1 : Int) ∧ (1 : Int) < ((3 : Nat) : Int)) ∧ (post (.t (.a [.v (.int .i64 b0), .v (.int .i64 b1), .v (.int .i64 b2), .v (.int .i64 b3), .v (.int .i64 x35), .v (.int .i64 b5), .v (.int .i64 b0), .v (.int .i64 x36), .v (.int .i64 b2), .v (.int .i64 b3), .v (.int .i64 b4), .v (.int .i64 b5)])))))))))))))) ((0 ≤ (2 : Int) ∧ (2 : Int) < ((3 : Nat) : Int)) ∧ ((0 ≤ (2 : Int) ∧ (2 : Int) < ((3 : Nat) : Int)) ∧ (lt (IntKind.i64.wrap (b5 - b2)) fun x37 => (0 ≤ (0 : Int) ∧ (0 : Int) < ((3 : Nat) : Int)) ∧ ((0 ≤ (0 : Int) ∧ (0 : Int) < ((3 : Nat) : Int)) ∧ (lt (IntKind.i64.wrap (b3 - b0)) fun x38 => cond (decide (x37 > x38)) ((0 ≤ (2 : Int) ∧ (2 : Int) < ((3 : Nat) : Int)) ∧ ((0 ≤ (2 : Int) ∧ (2 : Int) < ((3 : Nat) : Int)) ∧ ((0 ≤ (2 : Int) ∧ (2 : Int) < ((3 : Nat) : Int)) ∧ (lt (IntKind.i64.wrap (b5 - b2)) fun x39 => lt (IntKind.i64.wrap (Int.tdiv x39 (2 : Int))) fun x40 => (IntKind.i64 = IntKind.i64 ∧ (2 : Int) ≠ 0) ∧ (lt (IntKind.i64.wrap (b2 + x40)) fun x41 => lt (IntKind.i64.wrap (x41 + (1 : Int))) fun x42 => (0 ≤ (2 : Int) ∧ (2 : Int) < ((3 : Nat) : Int)) ∧ ((0 ≤ (2 : Int) ∧ (2 : Int) < ((3 : Nat) : Int)) ∧ (post (.t (.a [.v (.int .i64 b0), .v (.int .i64 b1), .v (.int .i64 b2), .v (.int .i64 b3), .v (.int .i64 b4), .v (.int .i64 x41), .v (.int .i64 b0), .v (.int .i64 b1), .v (.int .i64 x42), .v (.int .i64 b3), .v (.int .i64 b4), .v (.int .i64 b5)]))))))))) ((0 ≤ (0 : Int) ∧ (0 : Int) < ((3 : Nat) : Int)) ∧ ((0 ≤ (0 : Int) ∧ (0 : Int) < ((3 : Nat) : Int)) ∧ ((0 ≤ (0 : Int) ∧ (0 : Int) < ((3 : Nat) : Int)) ∧ (lt (IntKind.i64.wrap (b3 - b0)) fun x43 => lt (IntKind.i64.wrap (Int.tdiv x43 (2 : Int))) fun x44 => (IntKind.i64 = IntKind.i64 ∧ (2 : Int) ≠ 0) ∧ (lt (IntKind.i64.wrap (b0 + x44)) fun x45 => lt (IntKind.i64.wrap (x45 + (1 : Int))) fun x46 => (0 ≤ (0 : Int) ∧ (0 : Int) < ((3 : Nat) : Int)) ∧ ((0 ≤ (0 : Int) ∧ (0 : Int) < ((3 : Nat) : Int)) ∧ (post (.t (.a [.v (.int .i64 b0), .v (.int .i64 b1), .v (.int .i64 b2), .v (.int .i64 x45), .v (.int .i64 b4), .v (.int .i64 b5), .v (.int .i64 x46), .v (.int .i64 b1), .v (.int .i64 b2), .v (.int .i64 b3), .v (.int .i64 b4), .v (.int .i64 b5)])))))))))))))))))))))))
def qfx : Ann := ⟨fun r => qr r [(5, ([[], [], [0, 1], [0, 1, 2], [], [], [4, 5], [4, 5, 6], [0, 1, 2, 3, 4, 5, 6, 7], [], [], [9, 10], [9, 10, 11], [], [], [13, 14], [13, 14, 15], [9, 10, 11, 12, 13, 14, 15, 16], [0, 1, 2, 3, 4, 5, 6, 7, 8, 9, 10, 11, 12, 13, 14, 15, 16, 17]], [[], [], [], [], [], [], [], [], [], [], [], [], [], [], [], [], [], [], []])), (8, ([[], [], [0, 1], [0, 1, 2], [], [], [4, 5], [4, 5, 6], [], [], [8, 9], [8, 9, 10], [4, 5, 6, 7, 8, 9, 10, 11], [4, 5, 6, 7, 8, 9, 10, 11, 12], [0, 1, 2, 3, 4, 5, 6, 7, 8, 9, 10, 11, 12, 13], [0, 1, 2, 3, 4, 5, 6, 7, 8, 9, 10, 11, 12, 13, 14]], [[], [], [], [], [], [], [], [], [], [], [], [], [], [], [], []])), (9, ([[], [], [], [], [0, 2, 3], [0, 1, 2, 3, 4]], [[6, 7], [6, 7], [7], [6], [9999, 6], []]))], fun b => qr b [(0, (some 4, some ⟨[1, 2, 3, 8], [1, 2], []⟩))], fun _ => [], Ikv64, false, fun _ => none, fun _ => none⟩
set_option maxHeartbeats 8000000 in
theorem qem (b0 b1 b2 b3 b4 b5 : Int) (hp : ((TB.mk (.mk b0 b1 b2) (.mk b3 b4 b5))).lo.inS 20 = true ∧ ((TB.mk (.mk b0 b1 b2) (.mk b3 b4 b5))).hi.inS 20 = true ∧ ((TB.mk (.mk b0 b1 b2) (.mk b3 b4 b5))).ok) : q9s b0 b1 b2 b3 b4 b5 (fun r => LeD r (.t (.a [.v (.int .i64 (((TB.mk (.mk b0 b1 b2) (.mk b3 b4 b5))).half1.lo.x)), .v (.int .i64 (((TB.mk (.mk b0 b1 b2) (.mk b3 b4 b5))).half1.lo.y)), .v (.int .i64 (((TB.mk (.mk b0 b1 b2) (.mk b3 b4 b5))).half1.lo.z)), .v (.int .i64 (((TB.mk (.mk b0 b1 b2) (.mk b3 b4 b5))).half1.hi.x)), .v (.int .i64 (((TB.mk (.mk b0 b1 b2) (.mk b3 b4 b5))).half1.hi.y)), .v (.int .i64 (((TB.mk (.mk b0 b1 b2) (.mk b3 b4 b5))).half1.hi.z)), .v (.int .i64 (((TB.mk (.mk b0 b1 b2) (.mk b3 b4 b5))).half2.lo.x)), .v (.int .i64 (((TB.mk (.mk b0 b1 b2) (.mk b3 b4 b5))).half2.lo.y)), .v (.int .i64 (((TB.mk (.mk b0 b1 b2) (.mk b3 b4 b5))).half2.lo.z)), .v (.int .i64 (((TB.mk (.mk b0 b1 b2) (.mk b3 b4 b5))).half2.hi.x)), .v (.int .i64 (((TB.mk (.mk b0 b1 b2) (.mk b3 b4 b5))).half2.hi.y)), .v (.int .i64 (((TB.mk (.mk b0 b1 b2) (.mk b3 b4 b5))).half2.hi.z))]))) := by
 obtain ⟨q1, q2, q3⟩ := hp
 obtain ⟨a1, a2, a3⟩ := qn.1 q1
 obtain ⟨c1, c2, c3⟩ := qn.1 q2
 obtain ⟨o1, o2, o3⟩ := q3
 simp only [TB.rx, TB.ry, TB.rz, Rg.ok] at a1 a2 a3 c1 c2 c3 o1 o2 o3
 have w0 : IntKind.i64.wrap (b3 - b0) = b3 - b0 := IntWalk.i64_in _ (by omega)
 have w1 : IntKind.i64.wrap (b4 - b1) = b4 - b1 := IntWalk.i64_in _ (by omega)
 have w2 : IntKind.i64.wrap (b5 - b2) = b5 - b2 := IntWalk.i64_in _ (by omega)
 have t0 : IntKind.i64.wrap (Int.tdiv (b3 - b0) (2 : Int)) = (b3 - b0) / 2 := by rw [Int.tdiv_eq_ediv_of_nonneg (by omega)]; exact IntWalk.i64_in _ (by omega)
 have t1 : IntKind.i64.wrap (Int.tdiv (b4 - b1) (2 : Int)) = (b4 - b1) / 2 := by rw [Int.tdiv_eq_ediv_of_nonneg (by omega)]; exact IntWalk.i64_in _ (by omega)
 have t2 : IntKind.i64.wrap (Int.tdiv (b5 - b2) (2 : Int)) = (b5 - b2) / 2 := by rw [Int.tdiv_eq_ediv_of_nonneg (by omega)]; exact IntWalk.i64_in _ (by omega)
 have v0 : IntKind.i64.wrap (b0 + (b3 - b0) / 2) = b0 + (b3 - b0) / 2 := IntWalk.i64_in _ (by omega)
 have v1 : IntKind.i64.wrap (b1 + (b4 - b1) / 2) = b1 + (b4 - b1) / 2 := IntWalk.i64_in _ (by omega)
 have v2 : IntKind.i64.wrap (b2 + (b5 - b2) / 2) = b2 + (b5 - b2) / 2 := IntWalk.i64_in _ (by omega)
 have u0 : IntKind.i64.wrap (b0 + (b3 - b0) / 2 + 1) = b0 + (b3 - b0) / 2 + 1 := IntWalk.i64_in _ (by omega)
 have u1 : IntKind.i64.wrap (b1 + (b4 - b1) / 2 + 1) = b1 + (b4 - b1) / 2 + 1 := IntWalk.i64_in _ (by omega)
 have u2 : IntKind.i64.wrap (b2 + (b5 - b2) / 2 + 1) = b2 + (b5 - b2) / 2 + 1 := IntWalk.i64_in _ (by omega)
 have hs := q5M (TB.mk (.mk b0 b1 b2) (.mk b3 b4 b5))
 unfold q9s
 simp only at hs
 (repeat' with_reducible first | (refine lt_i ?_; intro _ hx; subst hx) | (refine qg ?_ ?_ <;> intro _) | (refine And.intro ?_ ?_))
 all_goals first | decide | skip
 all_goals
  simp only [w0, w1, w2, t0, t1, t2, v0, v1, v2, u0, u1, u2, decide_eq_true_eq, decide_eq_false_iff_not] at *
  unfold TB.half1 TB.half2
  rcases hs with ⟨h, h1, h2⟩ | ⟨h, h1, h2⟩ | ⟨h, h1, h2⟩ <;> first | omega | (rw [h]; exact LeD.refl _)
def q5h : Con := fun args => match args with
 | [.t (.a [.v (.int .i64 b0), .v (.int .i64 b1), .v (.int .i64 b2), .v (.int .i64 b3), .v (.int .i64 b4), .v (.int .i64 b5)])] => some (.t (.a [.v (.int .i64 (((TB.mk (.mk b0 b1 b2) (.mk b3 b4 b5))).half1.lo.x)), .v (.int .i64 (((TB.mk (.mk b0 b1 b2) (.mk b3 b4 b5))).half1.lo.y)), .v (.int .i64 (((TB.mk (.mk b0 b1 b2) (.mk b3 b4 b5))).half1.lo.z)), .v (.int .i64 (((TB.mk (.mk b0 b1 b2) (.mk b3 b4 b5))).half1.hi.x)), .v (.int .i64 (((TB.mk (.mk b0 b1 b2) (.mk b3 b4 b5))).half1.hi.y)), .v (.int .i64 (((TB.mk (.mk b0 b1 b2) (.mk b3 b4 b5))).half1.hi.z)), .v (.int .i64 (((TB.mk (.mk b0 b1 b2) (.mk b3 b4 b5))).half2.lo.x)), .v (.int .i64 (((TB.mk (.mk b0 b1 b2) (.mk b3 b4 b5))).half2.lo.y)), .v (.int .i64 (((TB.mk (.mk b0 b1 b2) (.mk b3 b4 b5))).half2.lo.z)), .v (.int .i64 (((TB.mk (.mk b0 b1 b2) (.mk b3 b4 b5))).half2.hi.x)), .v (.int .i64 (((TB.mk (.mk b0 b1 b2) (.mk b3 b4 b5))).half2.hi.y)), .v (.int .i64 (((TB.mk (.mk b0 b1 b2) (.mk b3 b4 b5))).half2.hi.z))]), some (((TB.mk (.mk b0 b1 b2) (.mk b3 b4 b5))).lo.inS 20 = true ∧ ((TB.mk (.mk b0 b1 b2) (.mk b3 b4 b5))).hi.inS 20 = true ∧ ((TB.mk (.mk b0 b1 b2) (.mk b3 b4 b5))).ok), false)
 | _ => none
theorem qgJ : Ok Tryz.prog 98 q5h := by
 refine Ok.fn (ann := qfx) mixed qo VSka63 VIkv64 (fn := Tryz.f98) (by kernel_rfl) (by kernel_rfl) (by kernel_rfl) fun args r pre fresh h hp => ?_
 unfold q5h at h
 split at h
 ·rename_i b0 b1 b2 b3 b4 b5
  cases h
  refine ⟨rfl, fun _ _ _ => False, _, LeA.refl _, Nat.le_of_ble_eq_true (by kernel_rfl), ?_, ?_⟩
  ·exact cast (by kernel_rfl) (qem b0 b1 b2 b3 b4 b5 hp)
  ·exact cast (by kernel_rfl) trivial
 ·cases h
def Skv65 : Sum := addS Ska63 98 q5h
theorem VSkv65 : Valid Tryz.prog Skv65 := Valid.add VSka63 qgJ
def cmpI (a c : Int) : Int := if a < c then -1 else if a > c then 1 else 0
def cmpL : List Int → List Int → Int
 | [], [] => 0
 | [], _ :: _ => -1
 | _ :: _, [] => 1
 | a :: l, b :: m => if cmpI a b ≠ 0 then cmpI a b else cmpL l m
theorem cmpL_cons {a b : Int} {l m : List Int} : cmpL (a :: l) (b :: m) = if cmpI a b ≠ 0 then cmpI a b else cmpL l m := rfl
theorem stE_of {m : TM} {b : TB} {s : V3} (h : s ∈ m.steps b) (hl : b.lo.inS 20 = true) (hh : b.hi.inS 20 = true) : m.stE s = 0 := by
 obtain ⟨h1, h2⟩ := q0L.1 h
 obtain ⟨a1, a2, a3⟩ := qn.1 hl
 obtain ⟨c1, c2, c3⟩ := qn.1 hh
 unfold TB.has TB.rx TB.ry TB.rz Rg.has at h1
 simp only at h1
 have e1 : s.inS 20 = true := qn.2 (by omega)
 unfold TM.stE
 rw [e1, q5t.2 h2]; rfl
theorem q4g {b : TB} (h : b.err = 0) (hc : b.count ≠ 1) : b.half1.err = 0 ∧ b.half2.err = 0 ∧ b.half1.sub b ∧ b.half2.sub b := by
 have ho := q0c h
 have hin := q0Z h
 have hne : b.lo.x < b.hi.x ∨ b.lo.y < b.hi.y ∨ b.lo.z < b.hi.z := by
  have h1 := q7j ho
  obtain ⟨o1, o2, o3⟩ := ho
  simp only [TB.rx, TB.ry, TB.rz, Rg.ok] at o1 o2 o3
  have h2 : ¬ (b.lo.x = b.hi.x ∧ b.lo.y = b.hi.y ∧ b.lo.z = b.hi.z) := fun q => hc (h1.2 (qgI.2 q))
  omega
 obtain ⟨s1, o1, s2, o2⟩ := qg8 ho hne
 have key : ∀ c : TB, c.sub b → c.ok → c.err = 0 := by
  intro c hs hk
  have hcm := qgb hs hk
  obtain ⟨a1, a2, a3⟩ := qn.1 hin.1
  obtain ⟨c1, c2, c3⟩ := qn.1 hin.2
  have hs' := hs
  have hk' := hk
  unfold TB.sub TB.rx TB.ry TB.rz Rg.sub at hs'
  unfold TB.ok TB.rx TB.ry TB.rz Rg.ok at hk'
  simp only at hs' hk'
  have e1 : c.lo.inS 20 = true := qn.2 (by omega)
  have e2 : c.hi.inS 20 = true := qn.2 (by omega)
  have hb := h
  unfold TB.err at hb ⊢
  rw [qD, qD, qD] at hb ⊢
  obtain ⟨_, _, h3, h4⟩ := hb
  rw [unl_0 (by decide), decide_eq_true_eq] at h3
  refine ⟨by rw [e1, e2]; rfl, ?_, ?_, h4⟩
  ·rw [unl_0 (by decide)]; simp only [Bool.and_eq_true, decide_eq_true_eq]; exact ⟨⟨hk'.1, hk'.2.1⟩, hk'.2.2⟩
  ·rw [unl_0 (by decide), decide_eq_true_eq]; omega
 exact ⟨key _ s1 o1, key _ s2 o2, s1, s2⟩
structure ExH (m : TM) (b : TB) (l : List TH) (p : V3) (t : Int) : Prop where
 hm : m.err = 0
 hb : b.err = 0
 hh : ql l = 0
 hq : momE p t = 0
theorem ExH.w {m : TM} {b : TB} {l : List TH} {p : V3} {t : Int} (h : ExH m b l p t) : ∀ x ∈ l, 0 ≤ x.w := by
 intro x hx
 obtain ⟨i, hi, e⟩ := List.getElem_of_mem hx
 have := (q1N h.hh).2 i hi
 rw [show qe l i = x by simp [qe, List.getD, hi, e]] at this
 exact this.w.1
theorem ExH.ans {m : TM} {b : TB} {l : List TH} {p : V3} {t : Int} (h : ExH m b l p t) : qd [qd [m.err, b.err], momE p t, unl (canW m b) 12] = unl (canW m b) 12 := by
 rw [h.hm, h.hb, h.hq]; cases canW m b <;> rfl
theorem ExH.sc {m : TM} {b : TB} {l : List TH} {p : V3} {t : Int} (h : ExH m b l p t) : qd [qd [qd [m.err, b.err], ql l], unl (canW m b) 12] = unl (canW m b) 12 := by
 rw [h.hm, h.hb, h.hh]; cases canW m b <;> rfl
theorem ExH.can {m : TM} {b : TB} {l : List TH} {p : V3} {t : Int} (h : ExH m b l p t) : canW m b = true ↔ m.canBe b := by
 have hb := q0Z h.hb
 rw [q6J hb.1 hb.2]; exact q3U
theorem ExH.steps {m : TM} {b : TB} {l : List TH} {p : V3} {t : Int} (h : ExH m b l p t) : stepsL m b = m.steps b ∧ qd [m.err, b.err] = 0 := by
 have e : qd [m.err, b.err] = 0 := by rw [h.hm, h.hb]; rfl
 exact ⟨if_neg (by rw [e]; simp), e⟩
theorem ExH.len {m : TM} {b : TB} {l : List TH} {p : V3} {t : Int} (h : ExH m b l p t) : ((m.steps b).length : Int) ≤ b.count := by
 have h1 := List.length_filter_le m.permB b.all
 have h2 := qah (q0c h.hb)
 unfold TM.steps
 omega
theorem ExH.none {m : TM} {b : TB} {l : List TH} {p : V3} {t : Int} (h : ExH m b l p t) (hc : canW m b = false) : m.steps b = [] := by
 rw [List.eq_nil_iff_forall_not_mem]
 intro s hs
 obtain ⟨h1, h2⟩ := q0L.1 hs
 rw [h.can.2 (qbr h1 h2)] at hc
 cases hc
theorem ExH.step {m : TM} {b : TB} {l : List TH} {p : V3} {t : Int} (h : ExH m b l p t) {s : V3} (hs : s ∈ m.steps b) : m.stE s = 0 ∧ m.both s = 0 ∧ (m.ans b p t = 2 → m.reached s p t = true) ∧ (m.ans b p t = 0 → m.reached s p t = false) ∧ inB (m.score s l) (m.scores b l).lo (m.scores b l).hi = true := by
 have hin := q0Z h.hb
 have h0 := stE_of hs hin.1 hin.2
 obtain ⟨h1, h2⟩ := q0L.1 hs
 have ho := q1g h.hm
 have ha := q8q (p := p) (t := t) h1 h2 ho.slo
 refine ⟨h0, ?_, ha.1, ha.2, ?_⟩
 ·unfold TM.both
  rw [h0, h.hm]; rfl
 ·have := q9l h1 h2 ho.slp ho.slo ⟨ho.ea.1, ho.la.1⟩ ⟨ho.mi.1, ho.no.1⟩ h.w
  rw [q0Q]; exact this
theorem ExH.part {m : TM} {b c : TB} {l : List TH} {p : V3} {t : Int} (h : ExH m b l p t) (hc : ExH m c l p t) (hs : c.sub b) (hb : canW m c = true) : (m.ans b p t = 2 → m.ans c p t = 2) ∧ (m.ans b p t = 0 → m.ans c p t = 0) ∧ (m.scores c l).hi ≤ (m.scores b l).hi ∧ (0 < (m.steps c).length → (m.scores b l).lo ≤ (m.scores c l).lo) := by
 have ho := q1g h.hm
 have hk := q0c hc.hb
 have h1 := qf8 (p := p) (t := t) hs hk (hc.can.1 hb) ho.ord ho.slo
 have h2 := qkR (l := l) hs hk (hc.can.1 hb) ho.ord ho.slp ho.slo ⟨ho.ea.1, ho.la.1⟩ ⟨ho.mi.1, ho.no.1⟩ h.w
 refine ⟨h1.1, h1.2, h2.1, fun hl => h2.2 ?_⟩
 have hm := qdO hl
 exact ⟨_, q0L.1 hm⟩
theorem numsP3' {x y z u : Int} : qj 1 3 (fun i j => boxC [.v (.int .i64 x), .v (.int .i64 y), .v (.int .i64 z), .v (.int .i64 u)] (0 + i * 1 + j)) := by
 intro i j hi hj
 obtain rfl : j = 0 := by omega
 rcases (by omega : i = 0 ∨ i = 1 ∨ i = 2) with rfl | rfl | rfl <;> rfl
theorem qkY {n : Nat} {c : Nat → CV} (h : qQ (List.range n) c = true) : (List.range n).map c = (List.range n).map fun i => CV.v (.int .i64 (qb (c i))) := List.map_congr_left fun i hi => qh h i hi
instance (a b : V3) : Decidable (lexB a b) := by unfold lexB; infer_instance
def z3 (s : V3) : Prop := s.x = 0 ∧ s.y = 0 ∧ s.z = 0
instance (s : V3) : Decidable (z3 s) := by unfold z3; infer_instance
def TM.stp (m : TM) (l : List TH) (b k : V3) (n : Int) : V3 × Int := if z3 k ∨ m.score b l < n ∨ (m.score b l = n ∧ lexB b k) then (b, m.score b l) else (k, n)
def bstF (m : TM) (l : List TH) : Nat → TB → V3 → Int → V3 × Int
 | 0, _, k, n => (k, n)
 | f + 1, b, k, n => if m.canB b = false then (k, n) else if ¬ z3 k ∧ n < (m.scores b l).lo then (k, n) else if b.count ≠ 1 then bstF m l f b.half2 (bstF m l f b.half1 k n).1 (bstF m l f b.half1 k n).2 else m.stp l b.lo k n
def bstR (m : TM) (l : List TH) (b : TB) (k : V3) (n : Int) : V3 × Int := bstF m l b.count.toNat b k n
theorem q9t {m : TM} {l : List TH} : ∀ (f f' : Nat) (b : TB) (k : V3) (n : Int), b.err = 0 → b.count ≤ f → b.count ≤ f' → bstF m l f b k n = bstF m l f' b k n
 | 0, _, b, _, _, h, h1, _ => by have := q0e (q0c h); omega
 | _ + 1, 0, b, _, _, h, _, h1 => by have := q0e (q0c h); omega
 | f + 1, f' + 1, b, k, n, h, h1, h2 => by
  unfold bstF
  by_cases e1 : m.canB b = false
  ·rw [if_pos e1, if_pos e1]
  ·rw [if_neg e1, if_neg e1]
   by_cases e3 : ¬ z3 k ∧ n < (m.scores b l).lo
   ·rw [if_pos e3, if_pos e3]
   ·rw [if_neg e3, if_neg e3]
    by_cases e2 : b.count ≠ 1
    ·rw [if_pos e2, if_pos e2]
     obtain ⟨f1, f2, _, _⟩ := q4g h e2
     have hc := q0R b
     have p1 := q0e (q0c f1)
     have p2 := q0e (q0c f2)
     rw [q9t f f' b.half1 k n f1 (by omega) (by omega), q9t f f' b.half2 _ _ f2 (by omega) (by omega)]
    ·rw [if_neg e2, if_neg e2]
theorem bstR_eq {m : TM} {l : List TH} {b : TB} {k : V3} {n : Int} (h : b.err = 0) : bstR m l b k n = if m.canB b = false then (k, n) else if ¬ z3 k ∧ n < (m.scores b l).lo then (k, n) else if b.count ≠ 1 then bstR m l b.half2 (bstR m l b.half1 k n).1 (bstR m l b.half1 k n).2 else m.stp l b.lo k n := by
 have p := q0e (q0c h)
 obtain ⟨f, hf⟩ : ∃ f, b.count.toNat = f + 1 := ⟨b.count.toNat - 1, by omega⟩
 unfold bstR
 rw [hf, bstF]
 by_cases e2 : b.count ≠ 1
 ·obtain ⟨f1, f2, _, _⟩ := q4g h e2
  have hc := q0R b
  have p1 := q0e (q0c f1)
  have p2 := q0e (q0c f2)
  rw [q9t f b.half1.count.toNat b.half1 k n f1 (by omega) (by omega), q9t f b.half2.count.toNat b.half2 _ _ f2 (by omega) (by omega)]
 ·rw [if_neg e2, if_neg e2]
theorem zB (x y z : Int) : (bif (x == (0 : Int)) then (bif (y == (0 : Int)) then (bif (z == (0 : Int)) then true else false) else false) else false) = decide (z3 ⟨x, y, z⟩) := by
 unfold z3
 by_cases h1 : x = 0 <;> by_cases h2 : y = 0 <;> by_cases h3 : z = 0 <;> simp [h1, h2, h3]
theorem cmp3 (a b c x y z : Int) : decide (cmpL ([a, b, c] : List Int) ([x, y, z] : List Int) < 0) = decide (lexB ⟨a, b, c⟩ ⟨x, y, z⟩) := by
 refine decide_eq_decide.2 ?_
 unfold lexB
 simp only [cmpL, cmpI]
 (repeat' split) <;> omega
def qfy (a : Int) (post : DV → Prop) : Prop := post (.t (.c (.v (.bool (a != a)))))
def qen : Ann := ⟨fun _ => none, fun _ => none, fun _ => [], Ikv64, false, fun _ => none, fun _ => none⟩
theorem qdg (a : Int) : qfy a (fun r => LeD r (.t (.c (.v (.bool false))))) := by
 exact leB (by simp)
def q4F : Con := fun args => match args with
 | [.t (.c (.v (.int .i64 a)))] => some (.t (.c (.v (.bool false))), none, false)
 | _ => none
theorem qfz : Ok Tryz.prog 136 q4F := by
 refine Ok.fn (ann := qen) mixed qo VSkv65 VIkv64 (fn := Tryz.f136) (by kernel_rfl) (by kernel_rfl) (by kernel_rfl) fun args r pre fresh h hp => ?_
 unfold q4F at h
 split at h
 ·rename_i a
  cases h
  refine ⟨rfl, fun _ _ _ => False, _, LeA.refl _, Nat.le_of_ble_eq_true (by kernel_rfl), ?_, ?_⟩
  ·exact cast (by kernel_rfl) (qdg a)
  ·exact cast (by kernel_rfl) trivial
 ·cases h
def Slx66 : Sum := addS Skv65 136 q4F
theorem VSlx66 : Valid Tryz.prog Slx66 := Valid.add VSkv65 qfz
def q7q (a c : Int) (post : DV → Prop) : Prop := cond (decide (a < c)) (post (.t (.c (.v (.int .i64 (-1)))))) (cond (decide (a > c)) (post (.t (.c (.v (.int .i64 1))))) (post (.t (.c (.v (.int .i64 0))))))
def qcp : Ann := ⟨fun _ => none, fun _ => none, fun _ => [], Ikv64, false, fun _ => none, fun _ => none⟩
theorem qbN (a c : Int) : q7q a c (fun r => LeD r (.t (.c (.v (.int .i64 (cmpI a c)))))) := by
 unfold q7q
 unfold cmpI
 refine qg (fun h => leI ?_) (fun h => qg (fun q => leI ?_) (fun q => leI ?_))
 ·rw [if_pos (of_decide_eq_true h)]
 ·rw [if_neg (of_decide_eq_false h), if_pos (of_decide_eq_true q)]
 ·rw [if_neg (of_decide_eq_false h), if_neg (of_decide_eq_false q)]
def q3C : Con := fun args => match args with
 | [.t (.c (.v (.int .i64 a))), .t (.c (.v (.int .i64 c)))] => some (.t (.c (.v (.int .i64 (cmpI a c)))), none, false)
 | _ => none
theorem qdh : Ok Tryz.prog 120 q3C := by
 refine Ok.fn (ann := qcp) mixed qo VSlx66 VIkv64 (fn := Tryz.f120) (by kernel_rfl) (by kernel_rfl) (by kernel_rfl) fun args r pre fresh h hp => ?_
 unfold q3C at h
 split at h
 ·rename_i a c
  cases h
  refine ⟨rfl, fun _ _ _ => False, _, LeA.refl _, Nat.le_of_ble_eq_true (by kernel_rfl), ?_, ?_⟩
  ·exact cast (by kernel_rfl) (qbN a c)
  ·exact cast (by kernel_rfl) trivial
 ·cases h
def Slx67 : Sum := addS Slx66 120 q3C
theorem VSlx67 : Valid Tryz.prog Slx67 := Valid.add VSlx66 qdh
def q1k (l : List Int) (l2 : List Int) (v0_0 : Int) : DS := ⟨[some (.t (.c (.sl 1 l.length (q2f l)))), some (.t (.c (.sl 1 l2.length (q2f l2)))), none, none, none, none, none, none, none, some (.t (.c (.sl 1 l.length (q2f l)))), some (.t (.c (.v (.int .i64 ((l.length : Nat) : Int))))), some (.t (.c (.v (.int .i64 v0_0)))), none, none, none, none, none, none, none, none, none, none, none, none, none, none, none, none, none, none, none, none, none, none, none, none], [none, none, none, none, none, none, none, none, none, none, none, none, none, none, none, none, none, none, none, none, none, none, none, none, none, none, none, none, none, none, none, none, none, none, none, none]⟩
def q3K (J : Inv) (l : List Int) (l2 : List Int) (post : DV → Prop) : Prop := ∃ n, J 0 (n :: []) (q1k l l2 0)
def q0K : Ann := ⟨fun _ => none, fun b => qr b [(0, (none, some ⟨[0, 1, 9, 10, 11], [], []⟩))], fun _ => [], Ikv64, false, fun _ => none, fun _ => none⟩
def q2T (J : Inv) (l : List Int) (l2 : List Int) (v0_0 : Int) (nn0 : Nat) (post : DV → Prop) : Prop := cond (decide (v0_0 < ((l.length : Nat) : Int))) ((0 ≤ v0_0 ∧ v0_0 < ((l.length : Nat) : Int)) ∧ (cond (decide (v0_0 ≥ ((l2.length : Nat) : Int))) (post (.t (.c (.v (.int .i64 1))))) ((0 ≤ v0_0 ∧ v0_0 < ((l2.length : Nat) : Int)) ∧ (cond ((cmpI (l.getD v0_0.toNat 0) (l2.getD v0_0.toNat 0)) != (0 : Int)) (post (.t (.c (.v (.int .i64 (cmpI (l.getD v0_0.toNat 0) (l2.getD v0_0.toNat 0))))))) (lt (IntKind.i64.wrap (v0_0 + (1 : Int))) fun x1 => J 0 (nn0 :: []) (q1k l l2 x1)))))) (cond (decide (((l.length : Nat) : Int) < ((l2.length : Nat) : Int))) (post (.t (.c (.v (.int .i64 (-1)))))) (post (.t (.c (.v (.int .i64 0))))))
theorem q7W (J : Inv) (post : DV → Prop) : AllG J (qz Tryz.prog tab Slx67 q0K J Tryz.f99 post) = (((∀ F s, ¬ J 0 (0 :: F) s) ∧ ∀ n F s, J 0 ((n + 1) :: F) s → round Tryz.prog tab Slx67 q0K J Tryz.f99 post 0 (n :: F) s) ∧ True) := by kernel_rfl
def q0o (l : List Int) (l2 : List Int) : Inv := fun b F s => match b, F with
 | 0, [nn0] => ∃ (v0_0 : Int), s = q1k l l2 v0_0 ∧ (l.length ≤ 1000000 ∧ 0 ≤ v0_0 ∧ v0_0 ≤ l.length ∧ v0_0 ≤ l2.length ∧ (nn0 : Int) + v0_0 = l.length + 1 ∧ cmpL l l2 = cmpL (l.drop v0_0.toNat) (l2.drop v0_0.toNat))
 | _, _ => False
theorem q6R (l : List Int) (l2 : List Int) (v0_0 : Int) (nn0 : Nat) (hp : (l).length ≤ 1000000) (hi : l.length ≤ 1000000 ∧ 0 ≤ v0_0 ∧ v0_0 ≤ l.length ∧ v0_0 ≤ l2.length ∧ ((nn0 + 1) : Int) + v0_0 = l.length + 1 ∧ cmpL l l2 = cmpL (l.drop v0_0.toNat) (l2.drop v0_0.toNat)) : q2T (q0o l l2) l l2 v0_0 nn0 (fun r => LeD r (.t (.c (.v (.int .i64 (cmpL l l2)))))) := by
 obtain ⟨i0, i1, i2, i3, i4, i5⟩ := hi
 obtain ⟨k, rfl⟩ : ∃ k : Nat, v0_0 = k := ⟨v0_0.toNat, by omega⟩
 have hk : (k : Int).toNat = k := rfl
 rw [hk] at i5
 unfold q2T
 rw [hk]
 refine qg (fun h => ?_) (fun h => ?_)
 ·have hlt : k < l.length := by have := of_decide_eq_true h; omega
  have el : l.drop k = l.getD k 0 :: l.drop (k + 1) := by rw [List.drop_eq_getElem_cons hlt]; simp [List.getD, hlt]
  rw [el] at i5
  refine ⟨by omega, qg (fun q => leI ?_) (fun q => ?_)⟩
  ·have q := of_decide_eq_true q
   rw [i5, show l2.drop k = [] from List.drop_eq_nil_of_le (by omega)]; rfl
  ·have q := of_decide_eq_false q
   have hr : k < l2.length := by omega
   have er : l2.drop k = l2.getD k 0 :: l2.drop (k + 1) := by rw [List.drop_eq_getElem_cons hr]; simp [List.getD, hr]
   rw [er] at i5
   rw [cmpL_cons] at i5
   refine ⟨by omega, qg (fun q => leI ?_) (fun q => lt_i fun x hx => ?_)⟩
   ·rw [i5, if_pos (by simpa using q)]
   ·rw [if_neg (by simpa using q)] at i5
    rw [wi (by omega)] at hx
    subst hx
    exact ⟨_, rfl, i0, by omega, by omega, by omega, by omega, by rw [show ((k : Int) + 1).toNat = k + 1 by omega]; exact i5⟩
 ·have hge : k = l.length := by have := of_decide_eq_false h; omega
  rw [List.drop_eq_nil_of_le (show l.length ≤ k by omega)] at i5
  refine qg (fun q => leI ?_) (fun q => leI ?_)
  ·have q := of_decide_eq_true q
   have hr : k < l2.length := by omega
   rw [i5, List.drop_eq_getElem_cons hr]; rfl
  ·have q := of_decide_eq_false q
   rw [i5, show l2.drop k = [] from List.drop_eq_nil_of_le (by omega)]; rfl
theorem q7r (l : List Int) (l2 : List Int) (hp : (l).length ≤ 1000000) : q3K (q0o l l2) l l2 (fun r => LeD r (.t (.c (.v (.int .i64 (cmpL l l2)))))) := by
 unfold q3K
 exact ⟨l.length + 1, 0, rfl, hp, by omega, by omega, by omega, by omega, rfl⟩
theorem q7C (l : List Int) (l2 : List Int) (hp : (l).length ≤ 1000000) : AllG (q0o l l2) (qz Tryz.prog tab Slx67 q0K (q0o l l2) Tryz.f99 (fun r => LeD r (.t (.c (.v (.int .i64 (cmpL l l2))))))) := by
 rw [q7W]
 refine ⟨⟨?_, ?_⟩, trivial⟩
 ·intro F s h
  obtain _ | ⟨g, F⟩ := F
  case cons => exact h.elim
  obtain ⟨w0, rfl, hi⟩ := h
  omega
 ·intro n F s h
  obtain _ | ⟨g, F⟩ := F
  case cons => exact h.elim
  obtain ⟨w0, rfl, hi⟩ := h
  exact cast (by kernel_rfl) (q6R l l2 _ _ hp hi)
def q1s : Con := fun args => match args with
 | [.t (.c (.sl 1 n_l c_l)), .t (.c (.sl 1 n_l2 c_l2))] => some (.t (.c (.v (.int .i64 (cmpL (qa n_l qF c_l) (qa n_l2 qF c_l2))))), some (qj 1 n_l c_l ∧ qj 1 n_l2 c_l2 ∧ ((qa n_l qF c_l)).length ≤ 1000000), false)
 | _ => none
theorem q7X : Ok Tryz.prog 99 q1s := by
 refine Ok.fn (ann := q0K) mixed qo VSlx67 VIkv64 (fn := Tryz.f99) (by kernel_rfl) (by kernel_rfl) (by kernel_rfl) fun args r pre fresh h hp => ?_
 unfold q1s at h
 split at h
 ·rename_i n_l c_l n_l2 c_l2
  cases h
  obtain ⟨hp0, hp1, hp⟩ := hp
  refine ⟨rfl, q0o (qa n_l qF c_l) (qa n_l2 qF c_l2), _, (qk (leT_c ((q6C hp0))) (qk (leT_c ((q6C hp1))) qM)), Nat.le_of_ble_eq_true (by kernel_rfl), ?_, ?_⟩
  ·exact cast (by kernel_rfl) (q7r (qa n_l qF c_l) (qa n_l2 qF c_l2) hp)
  ·exact q7C (qa n_l qF c_l) (qa n_l2 qF c_l2) hp
 ·cases h
def Slx68 : Sum := addS Slx67 99 q1s
theorem VSlx68 : Valid Tryz.prog Slx68 := Valid.add VSlx67 q7X
def q1o (kk : Nat) : Con := fun args => match args with
 | [.t (.a [.v (.int .i64 m0), .v (.int .i64 m1), .v (.int .i64 m2), .v (.int .i64 m3), .v (.int .i64 m4), .v (.int .i64 m5), .v (.int .i64 m6), .v (.int .i64 m7), .v (.int .i64 m8), .v (.int .i64 m9), .v (.int .i64 mA), .v (.int .i64 mB)]), .t (.a [.v (.int .i64 b0), .v (.int .i64 b1), .v (.int .i64 b2), .v (.int .i64 b3), .v (.int .i64 b4), .v (.int .i64 b5)]), .t (.c (.sl 5 n_l c_l)), .t (.c (.px 4 0 c_pw))] => some (.tu [], some (qj 5 n_l c_l ∧ qQ [0, 1, 2, 3] c_pw = true ∧ (((TM.mk m0 m1 m2 m3 m4 m5 m6 m7 m8 m9 mA mB)).err = 0 ∧ ((TB.mk (.mk b0 b1 b2) (.mk b3 b4 b5))).err = 0 ∧ ql (qa n_l qc c_l) = 0) ∧ (((TB.mk (.mk b0 b1 b2) (.mk b3 b4 b5))).count.toNat) < kk), .wr 3 120 [.v (.int .i64 ((bstR (TM.mk m0 m1 m2 m3 m4 m5 m6 m7 m8 m9 mA mB) (qa n_l qc c_l) (TB.mk (.mk b0 b1 b2) (.mk b3 b4 b5)) ⟨(qb (c_pw 0)), (qb (c_pw 1)), (qb (c_pw 2))⟩ (qb (c_pw 3))).1.x)), .v (.int .i64 ((bstR (TM.mk m0 m1 m2 m3 m4 m5 m6 m7 m8 m9 mA mB) (qa n_l qc c_l) (TB.mk (.mk b0 b1 b2) (.mk b3 b4 b5)) ⟨(qb (c_pw 0)), (qb (c_pw 1)), (qb (c_pw 2))⟩ (qb (c_pw 3))).1.y)), .v (.int .i64 ((bstR (TM.mk m0 m1 m2 m3 m4 m5 m6 m7 m8 m9 mA mB) (qa n_l qc c_l) (TB.mk (.mk b0 b1 b2) (.mk b3 b4 b5)) ⟨(qb (c_pw 0)), (qb (c_pw 1)), (qb (c_pw 2))⟩ (qb (c_pw 3))).1.z)), .v (.int .i64 ((bstR (TM.mk m0 m1 m2 m3 m4 m5 m6 m7 m8 m9 mA mB) (qa n_l qc c_l) (TB.mk (.mk b0 b1 b2) (.mk b3 b4 b5)) ⟨(qb (c_pw 0)), (qb (c_pw 1)), (qb (c_pw 2))⟩ (qb (c_pw 3))).2))])
 | _ => none
def q3D (kk : Nat) (m0 m1 m2 m3 m4 m5 m6 m7 m8 m9 mA mB b0 b1 b2 b3 b4 b5 : Int) (l : List TH) (w0 w1 w2 w3 : Int) (post : DV → List CV → Prop) : Prop := (fun (Z1 : TM) (Z2 : V3) (Z3 : TB) (Z4 : List TH) => lt ((sqsW Z3).lo) fun x1 => lt ((sqsW Z3).hi) fun x2 => lt (canW Z1 Z3) fun x3 => cond (!x3) (post (.tu []) [.v (.int .i64 w0), .v (.int .i64 w1), .v (.int .i64 w2), .v (.int .i64 w3)]) ((cond (!(bif (w0 == (0 : Int)) then (bif (w1 == (0 : Int)) then (bif (w2 == (0 : Int)) then true else false) else false) else false)) ((qj 5 l.length (qi l) ∧ (Z1).Ok ∧ (Z3).lo.inS 20 = true ∧ (Z3).hi.inS 20 = true ∧ (Z1).canBe Z3 ∧ (Z4).length ≤ 12 ∧ ∀ i, i < (Z4).length → (qe Z4 i).Ok) ∧ (True)) ((false = false) ∧ (True))) ∧ (lt ((bif (!(bif (w0 == (0 : Int)) then (bif (w1 == (0 : Int)) then (bif (w2 == (0 : Int)) then true else false) else false) else false)) then decide ((((Z1).scores Z3 Z4).lo) > w3) else false)) fun x4 => cond x4 (post (.tu []) [.v (.int .i64 w0), .v (.int .i64 w1), .v (.int .i64 w2), .v (.int .i64 w3)]) (((Z3).lo.inS 20 = true ∧ (Z3).hi.inS 20 = true ∧ (Z3).ok) ∧ (cond (decide (((Z3).count) > (1 : Int))) (((Z3).lo.inS 20 = true ∧ (Z3).hi.inS 20 = true ∧ (Z3).ok) ∧ ((0 ≤ (0 : Int) ∧ (0 : Int) < ((2 : Nat) : Int)) ∧ (lt ((bstR Z1 Z4 (⟨⟨((Z3).half1.lo.x), ((Z3).half1.lo.y), ((Z3).half1.lo.z)⟩, ⟨((Z3).half1.hi.x), ((Z3).half1.hi.y), ((Z3).half1.hi.z)⟩⟩ : TB) ⟨w0, w1, w2⟩ w3).1.x) fun x5 => lt ((bstR Z1 Z4 (⟨⟨((Z3).half1.lo.x), ((Z3).half1.lo.y), ((Z3).half1.lo.z)⟩, ⟨((Z3).half1.hi.x), ((Z3).half1.hi.y), ((Z3).half1.hi.z)⟩⟩ : TB) ⟨w0, w1, w2⟩ w3).1.y) fun x6 => lt ((bstR Z1 Z4 (⟨⟨((Z3).half1.lo.x), ((Z3).half1.lo.y), ((Z3).half1.lo.z)⟩, ⟨((Z3).half1.hi.x), ((Z3).half1.hi.y), ((Z3).half1.hi.z)⟩⟩ : TB) ⟨w0, w1, w2⟩ w3).1.z) fun x7 => lt ((bstR Z1 Z4 (⟨⟨((Z3).half1.lo.x), ((Z3).half1.lo.y), ((Z3).half1.lo.z)⟩, ⟨((Z3).half1.hi.x), ((Z3).half1.hi.y), ((Z3).half1.hi.z)⟩⟩ : TB) ⟨w0, w1, w2⟩ w3).2) fun x8 => (qj 5 l.length (qi l) ∧ qQ [0, 1, 2, 3] (boxC [.v (.int .i64 w0), .v (.int .i64 w1), .v (.int .i64 w2), .v (.int .i64 w3)]) = true ∧ ((Z1).err = 0 ∧ ((⟨⟨((Z3).half1.lo.x), ((Z3).half1.lo.y), ((Z3).half1.lo.z)⟩, ⟨((Z3).half1.hi.x), ((Z3).half1.hi.y), ((Z3).half1.hi.z)⟩⟩ : TB)).err = 0 ∧ ql Z4 = 0) ∧ (((⟨⟨((Z3).half1.lo.x), ((Z3).half1.lo.y), ((Z3).half1.lo.z)⟩, ⟨((Z3).half1.hi.x), ((Z3).half1.hi.y), ((Z3).half1.hi.z)⟩⟩ : TB)).count.toNat) < kk) ∧ ((0 ≤ (1 : Int) ∧ (1 : Int) < ((2 : Nat) : Int)) ∧ (lt ((bstR Z1 Z4 (⟨⟨((Z3).half2.lo.x), ((Z3).half2.lo.y), ((Z3).half2.lo.z)⟩, ⟨((Z3).half2.hi.x), ((Z3).half2.hi.y), ((Z3).half2.hi.z)⟩⟩ : TB) ⟨x5, x6, x7⟩ x8).1.x) fun x9 => lt ((bstR Z1 Z4 (⟨⟨((Z3).half2.lo.x), ((Z3).half2.lo.y), ((Z3).half2.lo.z)⟩, ⟨((Z3).half2.hi.x), ((Z3).half2.hi.y), ((Z3).half2.hi.z)⟩⟩ : TB) ⟨x5, x6, x7⟩ x8).1.y) fun x10 => lt ((bstR Z1 Z4 (⟨⟨((Z3).half2.lo.x), ((Z3).half2.lo.y), ((Z3).half2.lo.z)⟩, ⟨((Z3).half2.hi.x), ((Z3).half2.hi.y), ((Z3).half2.hi.z)⟩⟩ : TB) ⟨x5, x6, x7⟩ x8).1.z) fun x11 => lt ((bstR Z1 Z4 (⟨⟨((Z3).half2.lo.x), ((Z3).half2.lo.y), ((Z3).half2.lo.z)⟩, ⟨((Z3).half2.hi.x), ((Z3).half2.hi.y), ((Z3).half2.hi.z)⟩⟩ : TB) ⟨x5, x6, x7⟩ x8).2) fun x12 => (qj 5 l.length (qi l) ∧ qQ [0, 1, 2, 3] (boxC [.v (.int .i64 x5), .v (.int .i64 x6), .v (.int .i64 x7), .v (.int .i64 x8)]) = true ∧ ((Z1).err = 0 ∧ ((⟨⟨((Z3).half2.lo.x), ((Z3).half2.lo.y), ((Z3).half2.lo.z)⟩, ⟨((Z3).half2.hi.x), ((Z3).half2.hi.y), ((Z3).half2.hi.z)⟩⟩ : TB)).err = 0 ∧ ql Z4 = 0) ∧ (((⟨⟨((Z3).half2.lo.x), ((Z3).half2.lo.y), ((Z3).half2.lo.z)⟩, ⟨((Z3).half2.hi.x), ((Z3).half2.hi.y), ((Z3).half2.hi.z)⟩⟩ : TB)).count.toNat) < kk) ∧ (post (.tu []) [.v (.int .i64 x9), .v (.int .i64 x10), .v (.int .i64 x11), .v (.int .i64 x12)])))))) ((qj 5 l.length (qi l) ∧ (Z1).Ok ∧ (Z2 : V3).inS 20 = true ∧ (Z1).permit Z2 ∧ (Z4).length ≤ 12 ∧ ∀ i, i < (Z4).length → (qe Z4 i).Ok) ∧ ((cond (bif (w0 == (0 : Int)) then (bif (w1 == (0 : Int)) then (bif (w2 == (0 : Int)) then true else false) else false) else false) ((true = true) ∧ ((true = true) ∧ (True))) (cond (decide (((Z1).score Z2 Z4) < w3)) ((true = true) ∧ (True)) (cond (((Z1).score Z2 Z4) == w3) ((qj 1 3 (fun i j => boxC [.v (.int .i64 b0), .v (.int .i64 b1), .v (.int .i64 b2)] (0 + i * 1 + j)) ∧ qj 1 3 (fun i j => boxC [.v (.int .i64 w0), .v (.int .i64 w1), .v (.int .i64 w2), .v (.int .i64 w3)] (0 + i * 1 + j)) ∧ (([b0, b1, b2] : List Int)).length ≤ 1000000) ∧ (True)) ((false = false) ∧ (True))))) ∧ (lt ((bif (bif (w0 == (0 : Int)) then (bif (w1 == (0 : Int)) then (bif (w2 == (0 : Int)) then true else false) else false) else false) then true else (bif decide (((Z1).score Z2 Z4) < w3) then true else (bif (((Z1).score Z2 Z4) == w3) then decide ((cmpL ([b0, b1, b2] : List Int) ([w0, w1, w2] : List Int)) < (0 : Int)) else false)))) fun x13 => cond x13 (post (.tu []) [.v (.int .i64 b0), .v (.int .i64 b1), .v (.int .i64 b2), .v (.int .i64 ((Z1).score Z2 Z4))]) (post (.tu []) [.v (.int .i64 w0), .v (.int .i64 w1), .v (.int .i64 w2), .v (.int .i64 w3)]))))))))) (TM.mk m0 m1 m2 m3 m4 m5 m6 m7 m8 m9 mA mB) (V3.mk b0 b1 b2) (TB.mk (.mk b0 b1 b2) (.mk b3 b4 b5)) (qa l.length qc (qi l))
def q6a : Ann := ⟨fun r => qr r [(3, ([[], [0], [0, 1], [0, 1, 2], [], [0, 1, 2, 3, 4], [0, 1, 2, 3, 4, 5], [0, 1, 2, 3, 4, 5, 6], [0, 1, 2, 3, 4, 5, 6], [0, 1, 2, 3, 4, 5, 6], [0, 1, 2, 3, 4, 5, 6, 7, 8, 9], [0, 1, 2, 3, 4, 5, 6, 7, 8, 9, 10], [0, 1, 2, 3, 4, 5, 6], [0, 1, 2, 3, 4, 5, 6, 12], [0, 1, 2, 3, 4, 5, 6, 12, 13], [0, 1, 2, 3, 4, 5, 6, 12, 13, 14], [0, 1, 2, 3, 4, 5, 6, 7, 8, 9, 10, 11, 12, 13, 14, 15], [0, 1, 2, 3, 4, 5, 6, 7, 8, 9, 10, 11, 12, 13, 14, 15, 16]], [[32], [32], [32], [32], [32], [32], [32], [32], [32], [32], [], [], [32], [32], [32], [32], [], []])), (12, ([[], [0], [0, 1], [0, 1, 2], [], [0, 1, 2, 3, 4], [0, 1, 2, 3, 4, 5], [0, 1, 2, 3, 4, 5, 6], [0, 1, 2, 3, 4, 5, 6], [0, 1, 2, 3, 4, 5, 6, 8], [0, 1, 2, 3, 4, 5, 6, 8, 9], [0, 1, 2, 3, 4, 5, 6, 8, 9, 10], [0, 1, 2, 3, 4, 5, 6, 7, 8, 9, 10, 11], [0, 1, 2, 3, 4, 5, 6, 7, 8, 9, 10, 11, 12], [0, 1, 2, 3, 4, 5, 6, 7, 8, 9, 10, 11, 12, 13], [0, 1, 2, 3, 4, 5, 6, 7, 8, 9, 10, 11, 12, 13, 14], [0, 1, 2, 3, 4, 5, 6, 7, 8, 9, 10, 11, 12, 13, 14], [0, 1, 2, 3, 4, 5, 6, 7, 8, 9, 10, 11, 12, 13, 14, 16], [0, 1, 2, 3, 4, 5, 6, 7, 8, 9, 10, 11, 12, 13, 14, 16, 17], [0, 1, 2, 3, 4, 5, 6, 7, 8, 9, 10, 11, 12, 13, 14, 16, 17, 18], [0, 1, 2, 3, 4, 5, 6, 7, 8, 9, 10, 11, 12, 13, 14, 15, 16, 17, 18, 19], [0, 1, 2, 3, 4, 5, 6, 7, 8, 9, 10, 11, 12, 13, 14, 15, 16, 17, 18, 19, 20], [0, 1, 2, 3, 4, 5, 6, 7, 8, 9, 10, 11, 12, 13, 14, 15, 16, 17, 18, 19, 20, 21], [0, 1, 2, 3, 4, 5, 6, 7, 8, 9, 10, 11, 12, 13, 14, 15, 16, 17, 18, 19, 20, 21], [0, 1, 2, 3, 4, 5, 6, 7, 8, 9, 10, 11, 12, 13, 14, 15, 16, 17, 18, 19, 20, 21, 23], [0, 1, 2, 3, 4, 5, 6, 7, 8, 9, 10, 11, 12, 13, 14, 15, 16, 17, 18, 19, 20, 21, 23, 24], [0, 1, 2, 3, 4, 5, 6, 7, 8, 9, 10, 11, 12, 13, 14, 15, 16, 17, 18, 19, 20, 21, 23, 24, 25], [0, 1, 2, 3, 4, 5, 6, 7, 8, 9, 10, 11, 12, 13, 14, 15, 16, 17, 18, 19, 20, 21, 22, 23, 24, 25, 26], [0, 1, 2, 3, 4, 5, 6, 7, 8, 9, 10, 11, 12, 13, 14, 15, 16, 17, 18, 19, 20, 21, 22, 23, 24, 25, 26, 27], [0, 1, 2, 3, 4, 5, 6, 7, 8, 9, 10, 11, 12, 13, 14, 15, 16, 17, 18, 19, 20, 21, 22, 23, 24, 25, 26, 27, 28], [0, 1, 2, 3, 4, 5, 6, 7, 8, 9, 10, 11, 12, 13, 14, 15, 16, 17, 18, 19, 20, 21, 22, 23, 24, 25, 26, 27, 28, 29]], [[87], [87], [87], [87], [87], [87], [87], [87], [87], [87], [87], [87], [87], [87], [87], [87], [87], [87], [87], [87], [87], [87], [87], [87], [87], [87], [87], [], [], [], []]))], fun b => qr b [(0, (some 3, some ⟨[2, 3, 4, 44, 45], [3, 4], []⟩))], fun _ => [], Ikv64, false, fun r => qr r [(3, (7, [39])), (12, (7, [90]))], fun _ => none⟩
theorem qcq (kk : Nat) (J : Inv) (m0 m1 m2 m3 m4 m5 m6 m7 m8 m9 mA mB b0 b1 b2 b3 b4 b5 : Int) (l : List TH) (w0 w1 w2 w3 : Int) (post : DV → List CV → Prop) : evFnW Tryz.prog tab (addS Slx68 61 (q1o kk)) q6a J Tryz.f61 [.t (.a [.v (.int .i64 m0), .v (.int .i64 m1), .v (.int .i64 m2), .v (.int .i64 m3), .v (.int .i64 m4), .v (.int .i64 m5), .v (.int .i64 m6), .v (.int .i64 m7), .v (.int .i64 m8), .v (.int .i64 m9), .v (.int .i64 mA), .v (.int .i64 mB)]), .t (.a [.v (.int .i64 b0), .v (.int .i64 b1), .v (.int .i64 b2), .v (.int .i64 b3), .v (.int .i64 b4), .v (.int .i64 b5)]), .t (.c (.sl 5 l.length (qi l))), .t (.c (.p 3 0))] 3 120 [.v (.int .i64 w0), .v (.int .i64 w1), .v (.int .i64 w2), .v (.int .i64 w3)] post = q3D kk m0 m1 m2 m3 m4 m5 m6 m7 m8 m9 mA mB b0 b1 b2 b3 b4 b5 l w0 w1 w2 w3 post := by kernel_rfl
set_option maxHeartbeats 8000000 in
theorem qaF (kk : Nat) (m0 m1 m2 m3 m4 m5 m6 m7 m8 m9 mA mB b0 b1 b2 b3 b4 b5 : Int) (l : List TH) (w0 w1 w2 w3 : Int) (hp : (((TM.mk m0 m1 m2 m3 m4 m5 m6 m7 m8 m9 mA mB)).err = 0 ∧ ((TB.mk (.mk b0 b1 b2) (.mk b3 b4 b5))).err = 0 ∧ ql l = 0) ∧ (((TB.mk (.mk b0 b1 b2) (.mk b3 b4 b5))).count.toNat) < kk + 1) : q3D kk m0 m1 m2 m3 m4 m5 m6 m7 m8 m9 mA mB b0 b1 b2 b3 b4 b5 l w0 w1 w2 w3 (fun r' cs => LeD r' (.tu []) ∧ cs = [.v (.int .i64 ((bstR (TM.mk m0 m1 m2 m3 m4 m5 m6 m7 m8 m9 mA mB) l (TB.mk (.mk b0 b1 b2) (.mk b3 b4 b5)) ⟨w0, w1, w2⟩ w3).1.x)), .v (.int .i64 ((bstR (TM.mk m0 m1 m2 m3 m4 m5 m6 m7 m8 m9 mA mB) l (TB.mk (.mk b0 b1 b2) (.mk b3 b4 b5)) ⟨w0, w1, w2⟩ w3).1.y)), .v (.int .i64 ((bstR (TM.mk m0 m1 m2 m3 m4 m5 m6 m7 m8 m9 mA mB) l (TB.mk (.mk b0 b1 b2) (.mk b3 b4 b5)) ⟨w0, w1, w2⟩ w3).1.z)), .v (.int .i64 ((bstR (TM.mk m0 m1 m2 m3 m4 m5 m6 m7 m8 m9 mA mB) l (TB.mk (.mk b0 b1 b2) (.mk b3 b4 b5)) ⟨w0, w1, w2⟩ w3).2))]) := by
 obtain ⟨⟨hm, hb, hh⟩, hk⟩ := hp
 have hin := q0Z hb
 have ho := q0c hb
 have hE := bstR_eq (m := (TM.mk m0 m1 m2 m3 m4 m5 m6 m7 m8 m9 mA mB)) (l := l) (k := ⟨w0, w1, w2⟩) (n := w3) hb
 obtain ⟨hl12, hok⟩ := q1N hh
 have hmo := q1g hm
 have hpos := q0e ho
 have hc := q6J (m := (TM.mk m0 m1 m2 m3 m4 m5 m6 m7 m8 m9 mA mB)) hin.1 hin.2
 unfold q3D
 simp only [qP, zB, cmp3]
 refine lt_i fun _ _ => lt_i fun _ _ => lt_i fun x3 h3 => qg (fun e => ?_) (fun e => ?_)
 ·have e : ((TM.mk m0 m1 m2 m3 m4 m5 m6 m7 m8 m9 mA mB)).canB (TB.mk (.mk b0 b1 b2) (.mk b3 b4 b5)) = false := by rw [← hc, h3]; simpa using e
  rw [hE, if_pos e]
  exact ⟨LeD.refl _, rfl⟩
 have e : ((TM.mk m0 m1 m2 m3 m4 m5 m6 m7 m8 m9 mA mB)).canB (TB.mk (.mk b0 b1 b2) (.mk b3 b4 b5)) = true := by rw [← hc, h3]; simpa using e
 have hcan : ((TM.mk m0 m1 m2 m3 m4 m5 m6 m7 m8 m9 mA mB)).canBe (TB.mk (.mk b0 b1 b2) (.mk b3 b4 b5)) := q3U.1 e
 rw [if_neg (by rw [e]; simp)] at hE
 refine ⟨qg (fun _ => ⟨⟨qA l, hmo, hin.1, hin.2, hcan, hl12, hok⟩, trivial⟩) (fun _ => ⟨by trivial, trivial⟩), lt_i fun x4 h4 => qg (fun e4 => ?_) (fun e4 => ⟨⟨hin.1, hin.2, ho⟩, ?_⟩)⟩
 ·have e4 : ¬ z3 (V3.mk w0 w1 w2) ∧ w3 < (((TM.mk m0 m1 m2 m3 m4 m5 m6 m7 m8 m9 mA mB)).scores (TB.mk (.mk b0 b1 b2) (.mk b3 b4 b5)) l).lo := by
   rw [e4] at h4
   by_cases q : z3 (V3.mk w0 w1 w2)
   ·rw [decide_eq_true q] at h4; cases h4
   ·rw [decide_eq_false q] at h4
    exact ⟨q, by simpa using h4⟩
  rw [hE, if_pos e4]
  exact ⟨LeD.refl _, rfl⟩
 have e4 : ¬ (¬ z3 (V3.mk w0 w1 w2) ∧ w3 < (((TM.mk m0 m1 m2 m3 m4 m5 m6 m7 m8 m9 mA mB)).scores (TB.mk (.mk b0 b1 b2) (.mk b3 b4 b5)) l).lo) := by
  rintro ⟨q, r⟩
  rw [e4, decide_eq_false q, decide_eq_true r] at h4
  cases h4
 rw [if_neg e4] at hE
 refine qg (fun e5 => ?_) (fun e5 => ?_)
 ·have e5 := of_decide_eq_true e5
  have hne : ((TB.mk (.mk b0 b1 b2) (.mk b3 b4 b5))).count ≠ 1 := by omega
  obtain ⟨f1, f2, s1, s2⟩ := q4g hb hne
  have hcc := q0R (TB.mk (.mk b0 b1 b2) (.mk b3 b4 b5))
  have p1 := q0e (q0c f1)
  have p2 := q0e (q0c f2)
  rw [if_pos hne] at hE
  have r1 : ((TB.mk (.mk b0 b1 b2) (.mk b3 b4 b5))).half1.count.toNat < kk := by omega
  have r2 : ((TB.mk (.mk b0 b1 b2) (.mk b3 b4 b5))).half2.count.toNat < kk := by omega
  refine ⟨⟨hin.1, hin.2, ho⟩, by decide, lt_i fun y1 k1 => lt_i fun y2 k2 => lt_i fun y3 k3 => lt_i fun y4 k4 => ⟨⟨qA l, rfl, ⟨hm, f1, hh⟩, r1⟩, by decide, lt_i fun z1 k5 => lt_i fun z2 k6 => lt_i fun z3 k7 => lt_i fun z4 k8 => ⟨⟨qA l, rfl, ⟨hm, f2, hh⟩, r2⟩, ?_⟩⟩⟩
  subst k1 k2 k3 k4 k5 k6 k7 k8
  rw [hE]
  exact ⟨LeD.refl _, rfl⟩
 ·have e5 := of_decide_eq_false e5
  have hone : ((TB.mk (.mk b0 b1 b2) (.mk b3 b4 b5))).count = 1 := by omega
  have hlh := (q7j ho).1 hone
  have hpm : ((TM.mk m0 m1 m2 m3 m4 m5 m6 m7 m8 m9 mA mB)).permit ⟨b0, b1, b2⟩ := by
   have h9 := hcan
   rw [show ((TB.mk (.mk b0 b1 b2) (.mk b3 b4 b5))) = (TB.mk (.mk b0 b1 b2) (.mk b0 b1 b2)) from by have h8 : (V3.mk b0 b1 b2) = ⟨b3, b4, b5⟩ := hlh; rw [← h8]] at h9
   exact qcR h9
  rw [if_neg (by omega)] at hE
  unfold TM.stp at hE
  refine ⟨⟨qA l, hmo, hin.1, hpm, hl12, hok⟩, qg (fun _ => ⟨by trivial, by trivial, trivial⟩) (fun _ => qg (fun _ => ⟨by trivial, trivial⟩) (fun _ => qg (fun _ => ⟨⟨numsP3 rfl rfl rfl, numsP3', Nat.le_of_ble_eq_true rfl⟩, trivial⟩) (fun _ => ⟨by trivial, trivial⟩))), lt_i fun x5 h5 => qg (fun g => ?_) (fun g => ?_)⟩
  ·rw [g] at h5
   rw [hE, if_pos ?_]
   ·exact ⟨LeD.refl _, rfl⟩
   ·by_cases q : z3 (V3.mk w0 w1 w2)
    ·exact Or.inl q
    ·rw [decide_eq_false q] at h5
     by_cases r : ((TM.mk m0 m1 m2 m3 m4 m5 m6 m7 m8 m9 mA mB)).score ⟨b0, b1, b2⟩ l < w3
     ·exact Or.inr (Or.inl r)
     ·rw [decide_eq_false r] at h5
      by_cases u : ((TM.mk m0 m1 m2 m3 m4 m5 m6 m7 m8 m9 mA mB)).score ⟨b0, b1, b2⟩ l = w3
      ·refine Or.inr (Or.inr ⟨u, ?_⟩)
       rw [u, beq_self_eq_true] at h5
       exact of_decide_eq_true h5
      ·rw [show (((TM.mk m0 m1 m2 m3 m4 m5 m6 m7 m8 m9 mA mB)).score ⟨b0, b1, b2⟩ l == w3) = false by simpa using u] at h5; cases h5
  ·rw [g] at h5
   rw [hE, if_neg ?_]
   ·exact ⟨LeD.refl _, rfl⟩
   ·rintro (q | q | ⟨q1, q2⟩)
    ·rw [decide_eq_true q] at h5; cases h5
    ·rw [decide_eq_true q] at h5
     revert h5
     cases decide (z3 (V3.mk w0 w1 w2)) <;> intro h5 <;> cases h5
    ·rw [q1, beq_self_eq_true, decide_eq_true q2] at h5
     revert h5
     cases decide (z3 (V3.mk w0 w1 w2)) <;> cases decide (w3 < w3) <;> intro h5 <;> cases h5
theorem qbO : ∀ kk, Ok Tryz.prog 61 (q1o kk) := by
 intro kk
 induction kk with
 | zero =>
  intro args r pre fresh h hp
  unfold q1o at h
  split at h
  ·cases h
   exact absurd hp.2.2.2 (Nat.not_lt_zero _)
  ·cases h
 | succ kk ih =>
  refine Ok.fnW (ann := q6a) mixed qo (Valid.add VSlx68 ih) VIkv64 (fn := Tryz.f61) (by kernel_rfl) (by kernel_rfl) (ks := [3]) (by kernel_rfl) fun args r pre fresh h hp => ?_
  unfold q1o at h
  split at h
  ·rename_i m0 m1 m2 m3 m4 m5 m6 m7 m8 m9 mA mB b0 b1 b2 b3 b4 b5 n_l c_l c_pw
   cases h
   obtain ⟨hp0, hp1, hp⟩ := hp
   have e := qkY (n := 4) hp1
   refine ⟨3, _, _, 4, c_pw, List.mem_singleton.2 rfl, rfl, rfl, by rw [e]; rfl, Nat.le_of_ble_eq_true (by kernel_rfl), rfl, fun _ _ _ => False, [.t (.a [.v (.int .i64 m0), .v (.int .i64 m1), .v (.int .i64 m2), .v (.int .i64 m3), .v (.int .i64 m4), .v (.int .i64 m5), .v (.int .i64 m6), .v (.int .i64 m7), .v (.int .i64 m8), .v (.int .i64 m9), .v (.int .i64 mA), .v (.int .i64 mB)]), .t (.a [.v (.int .i64 b0), .v (.int .i64 b1), .v (.int .i64 b2), .v (.int .i64 b3), .v (.int .i64 b4), .v (.int .i64 b5)]), .t (.c (.sl 5 ((qa n_l qc c_l).length) (qi (qa n_l qc c_l)))), .t (.c (.p 3 0))], rfl, rfl, ?_, Nat.le_of_ble_eq_true (by kernel_rfl), ?_⟩
   ·intro i x y hi hx hy w N v hr
    rcases (by have := (List.getElem?_eq_some_iff.1 hx).1; simp at this; omega : i = 0 ∨ i = 1 ∨ i = 2) with rfl | rfl | rfl
    ·cases hx; cases hy; exact hr
    ·cases hx; cases hy; exact hr
    ·cases hx; cases hy; exact qY hp0 _ _ _ hr
   ·rw [e]
    exact (qcq kk _ m0 m1 m2 m3 m4 m5 m6 m7 m8 m9 mA mB b0 b1 b2 b3 b4 b5 (qa n_l qc c_l) (qb (c_pw 0)) (qb (c_pw 1)) (qb (c_pw 2)) (qb (c_pw 3)) _).mpr (qaF kk m0 m1 m2 m3 m4 m5 m6 m7 m8 m9 mA mB b0 b1 b2 b3 b4 b5 (qa n_l qc c_l) (qb (c_pw 0)) (qb (c_pw 1)) (qb (c_pw 2)) (qb (c_pw 3)) hp)
  ·cases h
def q3h : Con := fun args => match args with
 | [.t (.a [.v (.int .i64 m0), .v (.int .i64 m1), .v (.int .i64 m2), .v (.int .i64 m3), .v (.int .i64 m4), .v (.int .i64 m5), .v (.int .i64 m6), .v (.int .i64 m7), .v (.int .i64 m8), .v (.int .i64 m9), .v (.int .i64 mA), .v (.int .i64 mB)]), .t (.a [.v (.int .i64 b0), .v (.int .i64 b1), .v (.int .i64 b2), .v (.int .i64 b3), .v (.int .i64 b4), .v (.int .i64 b5)]), .t (.c (.sl 5 n_l c_l)), .t (.c (.px 4 0 c_pw))] => some (.tu [], some (qj 5 n_l c_l ∧ qQ [0, 1, 2, 3] c_pw = true ∧ ((TM.mk m0 m1 m2 m3 m4 m5 m6 m7 m8 m9 mA mB)).err = 0 ∧ ((TB.mk (.mk b0 b1 b2) (.mk b3 b4 b5))).err = 0 ∧ ql (qa n_l qc c_l) = 0), .wr 3 120 [.v (.int .i64 ((bstR (TM.mk m0 m1 m2 m3 m4 m5 m6 m7 m8 m9 mA mB) (qa n_l qc c_l) (TB.mk (.mk b0 b1 b2) (.mk b3 b4 b5)) ⟨(qb (c_pw 0)), (qb (c_pw 1)), (qb (c_pw 2))⟩ (qb (c_pw 3))).1.x)), .v (.int .i64 ((bstR (TM.mk m0 m1 m2 m3 m4 m5 m6 m7 m8 m9 mA mB) (qa n_l qc c_l) (TB.mk (.mk b0 b1 b2) (.mk b3 b4 b5)) ⟨(qb (c_pw 0)), (qb (c_pw 1)), (qb (c_pw 2))⟩ (qb (c_pw 3))).1.y)), .v (.int .i64 ((bstR (TM.mk m0 m1 m2 m3 m4 m5 m6 m7 m8 m9 mA mB) (qa n_l qc c_l) (TB.mk (.mk b0 b1 b2) (.mk b3 b4 b5)) ⟨(qb (c_pw 0)), (qb (c_pw 1)), (qb (c_pw 2))⟩ (qb (c_pw 3))).1.z)), .v (.int .i64 ((bstR (TM.mk m0 m1 m2 m3 m4 m5 m6 m7 m8 m9 mA mB) (qa n_l qc c_l) (TB.mk (.mk b0 b1 b2) (.mk b3 b4 b5)) ⟨(qb (c_pw 0)), (qb (c_pw 1)), (qb (c_pw 2))⟩ (qb (c_pw 3))).2))])
 | _ => none
theorem qcr : Ok Tryz.prog 61 q3h := by
 intro args r pre fresh h hp
 unfold q3h at h
 split at h
 ·rename_i m0 m1 m2 m3 m4 m5 m6 m7 m8 m9 mA mB b0 b1 b2 b3 b4 b5 n_l c_l c_pw
  cases h
  exact qbO ((((TB.mk (.mk b0 b1 b2) (.mk b3 b4 b5))).count.toNat) + 1) _ _ _ _ rfl ⟨hp.1, hp.2.1, hp.2.2, Nat.lt_succ_self _⟩
 ·cases h
def Slx69 : Sum := addS Slx68 61 q3h
theorem VSlx69 : Valid Tryz.prog Slx69 := Valid.add VSlx68 qcr
instance (a b : TB) : Decidable (a.sub b) := by unfold TB.sub TB.rx TB.ry TB.rz Rg.sub; infer_instance
instance (a b : TB) : Decidable (a.apart b) := by unfold TB.apart; infer_instance
theorem leBt {P : Prop} [Decidable P] (h : P) : LeD (.t (.c (.v (.bool true)))) (.t (.c (.v (.bool (decide P))))) := leB (decide_eq_true h).symm
theorem leBf {P : Prop} [Decidable P] (h : ¬ P) : LeD (.t (.c (.v (.bool false)))) (.t (.c (.v (.bool (decide P))))) := leB (decide_eq_false h).symm
theorem inB_no {n lo hi : Int} : inB n lo hi = false ↔ ¬ (lo ≤ n ∧ n ≤ hi) := by rw [← Bool.not_eq_true, q0Q]
def q0i (m : TM) (l : List TH) (K : Int) (b : TB) : Bool := !canW m b || decide ((m.scores b l).lo ≥ K)
def bxAt (l : List TB) (i : Nat) : TB := l.getD i ⟨⟨0, 0, 0⟩, ⟨0, 0, 0⟩⟩
def bxsC (l : List TB) : Nat → Nat → CV := fun i j => match j with
 | 0 => .v (.int .i64 (bxAt l i).lo.x)
 | 1 => .v (.int .i64 (bxAt l i).lo.y)
 | 2 => .v (.int .i64 (bxAt l i).lo.z)
 | 3 => .v (.int .i64 (bxAt l i).hi.x)
 | 4 => .v (.int .i64 (bxAt l i).hi.y)
 | _ => .v (.int .i64 (bxAt l i).hi.z)
def mkBx (g : Nat → Int) : TB := ⟨⟨g 0, g 1, g 2⟩, ⟨g 3, g 4, g 5⟩⟩
def bxCv (x : TB) : List CV := [.v (.int .i64 x.lo.x), .v (.int .i64 x.lo.y), .v (.int .i64 x.lo.z), .v (.int .i64 x.hi.x), .v (.int .i64 x.hi.y), .v (.int .i64 x.hi.z)]
theorem bxAt_C {n : Nat} {c : Nat → Nat → CV} {i : Nat} (hi : i < n) : bxAt (qa n mkBx c) i = mkBx fun j => qb (c i j) := q7i hi
theorem q6S {n : Nat} {c : Nat → Nat → CV} (hp : qj 6 n c) : LeD (.t (.c (.sl 6 n c))) (.t (.c (.sl 6 (qa n mkBx c).length (bxsC (qa n mkBx c))))) := by
 refine leL hp fun i j hi hj => ?_
 unfold bxsC
 rw [bxAt_C hi]
 rcases (by omega : j = 0 ∨ j = 1 ∨ j = 2 ∨ j = 3 ∨ j = 4 ∨ j = 5) with rfl | rfl | rfl | rfl | rfl | rfl <;> rfl
theorem q5y (l : List TB) : qj 6 l.length (bxsC l) := by
 intro i j hi hj
 rcases (by omega : j = 0 ∨ j = 1 ∨ j = 2 ∨ j = 3 ∨ j = 4 ∨ j = 5) with rfl | rfl | rfl | rfl | rfl | rfl <;> rfl
theorem qiP (l : List TB) : qa l.length mkBx (bxsC l) = l := q8p ⟨⟨0, 0, 0⟩, ⟨0, 0, 0⟩⟩ fun i hi => rfl
theorem qmz (l : List TB) (i j : Nat) : ∃ y, bxsC l i j = .v y := by unfold bxsC; split <;> exact ⟨_, rfl⟩
theorem le_bxs (l : List TB) : LeD (.t (.c (.sl 6 (l.map bxCv).length (genC (l.map bxCv))))) (.t (.c (.sl 6 l.length (bxsC l)))) := by
 rw [List.length_map]
 refine leSl fun i j hi hj => ?_
 unfold genC bxsC bxAt
 simp only [List.getD_eq_getElem?_getD, List.getElem?_map, List.getElem?_eq_getElem hi, Option.map_some, Option.getD_some]
 rcases (by omega : j = 0 ∨ j = 1 ∨ j = 2 ∨ j = 3 ∨ j = 4 ∨ j = 5) with rfl | rfl | rfl | rfl | rfl | rfl <;> rfl
theorem qiQ {l : List TB} {k : Nat} (h : k < l.length) : l.take (k + 1) = l.take k ++ [bxAt l k] := by
 rw [List.take_succ_eq_append_getElem h]; simp [bxAt, List.getD, h]
theorem bxAt_in {l : List TB} {k : Nat} (h : k < l.length) : bxAt l k ∈ l := by
 rw [show bxAt l k = l[k] by simp [bxAt, List.getD, h]]; exact List.getElem_mem h
theorem bx_ext {a b : TB} : a = b ↔ a.lo.x = b.lo.x ∧ a.lo.y = b.lo.y ∧ a.lo.z = b.lo.z ∧ a.hi.x = b.hi.x ∧ a.hi.y = b.hi.y ∧ a.hi.z = b.hi.z := by
 obtain ⟨⟨_, _, _⟩, ⟨_, _, _⟩⟩ := a
 obtain ⟨⟨_, _, _⟩, ⟨_, _, _⟩⟩ := b
 simp [and_assoc]
instance : DecidableEq TB := fun a b => decidable_of_iff _ bx_ext.symm
theorem bxs_fwd (l : List TB) : ((List.range l.length).map fun i => fwd ((bxsC l) i) 0 6) = l.map bxCv := by
 apply List.ext_getElem?
 intro i
 by_cases hi : i < l.length
 ·simp only [List.getElem?_map, List.getElem?_range hi, List.getElem?_eq_getElem hi, Option.map_some]
  have e : bxAt l i = l[i] := by simp [bxAt, List.getD, hi]
  rw [← e]; rfl
 ·rw [List.getElem?_eq_none (by simpa using hi), List.getElem?_eq_none (by simpa using hi)]
theorem numsP_bxg (l : List TB) : qj 6 (l.map bxCv).length (genC (l.map bxCv)) := by
 rw [List.length_map]
 intro i j hi hj
 have e : genC (l.map bxCv) i j = bxsC l i j := by
  unfold genC bxsC bxAt
  simp only [List.getD_eq_getElem?_getD, List.getElem?_map, List.getElem?_eq_getElem hi, Option.map_some, Option.getD_some]
  rcases (by omega : j = 0 ∨ j = 1 ∨ j = 2 ∨ j = 3 ∨ j = 4 ∨ j = 5) with rfl | rfl | rfl | rfl | rfl | rfl <;> rfl
 rw [e]
 exact q5y l i j hi hj
theorem qkp (l : List TB) {lo n : Nat} (h : lo + n ≤ l.length) : qj 6 n (fun i j => bxsC l (lo + i) j) := fun i j hi hj => q5y l (lo + i) j (by omega) hj
theorem bxs_part (l : List TB) {lo n : Nat} (h : lo + n ≤ l.length) : qa n mkBx (fun i j => bxsC l (lo + i) j) = (l.drop lo).take n := by
 apply List.ext_getElem?
 intro i
 by_cases hi : i < n
 ·rw [qa, List.getElem?_map, List.getElem?_range hi, Option.map_some, List.getElem?_take, if_pos hi, List.getElem?_drop, List.getElem?_eq_getElem (by omega)]
  have e : bxAt l (lo + i) = l[lo + i]'(by omega) := by simp [bxAt, List.getD, show lo + i < l.length by omega]
  rw [← e]; rfl
 ·rw [List.getElem?_eq_none (by simp [qa]; omega), List.getElem?_eq_none (by simp; omega)]
instance (b : TB) (s : V3) : Decidable (b.has s) := by unfold TB.has Rg.has; infer_instance
theorem qaG {l : List TH} (h : ql l = 0) : ∀ x ∈ l, 0 ≤ x.w := by
 intro x hx
 obtain ⟨i, hi, e⟩ := List.getElem_of_mem hx
 have := (q1N h).2 i hi
 rw [show qe l i = x by simp [qe, List.getD, hi, e]] at this
 exact this.w.1
theorem q9u {m : TM} {l : List TH} {K : Int} {b : TB} (h : b.err = 0) : q0i m l K b = true ↔ m.proved l K b := by
 have hb := q0Z h
 have hc : canW m b = true ↔ m.canBe b := by rw [q6J hb.1 hb.2]; exact q3U
 unfold q0i TM.proved
 rw [← hc]
 cases canW m b <;> simp
theorem q0Y {b : TB} (h : b.err = 0) : 0 < b.count ∧ b.count ≤ 700 := ⟨q0e (q0c h), (boxErr_ok h).2.2.2⟩
theorem cnt_ne {b : TB} (ho : b.ok) (hc : b.count ≠ 1) : b.lo.x < b.hi.x ∨ b.lo.y < b.hi.y ∨ b.lo.z < b.hi.z := by
 have h1 := q7j ho
 obtain ⟨o1, o2, o3⟩ := ho
 simp only [TB.rx, TB.ry, TB.rz, Rg.ok] at o1 o2 o3
 have h2 : ¬ (b.lo.x = b.hi.x ∧ b.lo.y = b.hi.y ∧ b.lo.z = b.hi.z) := fun q => hc (h1.2 (qgI.2 q))
 omega
theorem qhJ {b c : TB} (h : b.err = 0) (hs : c.sub b) (hk : c.ok) : c.err = 0 := by
 have hin := q0Z h
 have hcm := qgb hs hk
 obtain ⟨a1, a2, a3⟩ := qn.1 hin.1
 obtain ⟨c1, c2, c3⟩ := qn.1 hin.2
 have hs' := hs
 have hk' := hk
 unfold TB.sub TB.rx TB.ry TB.rz Rg.sub at hs'
 unfold TB.ok TB.rx TB.ry TB.rz Rg.ok at hk'
 simp only at hs' hk'
 have e1 : c.lo.inS 20 = true := qn.2 (by omega)
 have e2 : c.hi.inS 20 = true := qn.2 (by omega)
 have h4 := (q0Y h).2
 unfold TB.err
 rw [qD, qD, qD]
 refine ⟨by rw [e1, e2]; rfl, ?_, ?_, rfl⟩
 ·rw [unl_0 (by decide)]; simp only [Bool.and_eq_true, decide_eq_true_eq]; exact ⟨⟨hk'.1, hk'.2.1⟩, hk'.2.2⟩
 ·rw [unl_0 (by decide), decide_eq_true_eq]; omega
def covF (m : TM) (l : List TH) (K : Int) : Nat → TB → List TB × Bool
 | 0, _ => ([], false)
 | n + 1, b => if q0i m l K b = true then ([b], true) else if b.count = 1 then ([], false) else
  if (covF m l K n b.half1).2 = true ∧ (covF m l K n b.half2).2 = true then ((covF m l K n b.half1).1 ++ (covF m l K n b.half2).1, true) else ([], false)
def covR (m : TM) (l : List TH) (K : Int) (b : TB) : List TB × Bool := covF m l K b.count.toNat b
theorem q9v {m : TM} {l : List TH} {K : Int} : ∀ (n n' : Nat) (b : TB), b.err = 0 → b.count ≤ n → b.count ≤ n' → covF m l K n b = covF m l K n' b
 | 0, _, b, h, h1, _ => by have := (q0Y h).1; omega
 | _ + 1, 0, b, h, _, h1 => by have := (q0Y h).1; omega
 | n + 1, n' + 1, b, h, h1, h2 => by
  unfold covF
  by_cases e1 : q0i m l K b = true
  ·rw [if_pos e1, if_pos e1]
  ·rw [if_neg e1, if_neg e1]
   by_cases e2 : b.count = 1
   ·rw [if_pos e2, if_pos e2]
   ·rw [if_neg e2, if_neg e2]
    obtain ⟨f1, f2, _, _⟩ := q4g h e2
    have hc := q0R b
    have p1 := (q0Y f1).1
    have p2 := (q0Y f2).1
    rw [q9v n n' b.half1 f1 (by omega) (by omega), q9v n n' b.half2 f2 (by omega) (by omega)]
theorem covR_eq {m : TM} {l : List TH} {K : Int} {b : TB} (h : b.err = 0) : covR m l K b = if q0i m l K b = true then ([b], true) else if b.count = 1 then ([], false) else
  if (covR m l K b.half1).2 = true ∧ (covR m l K b.half2).2 = true then ((covR m l K b.half1).1 ++ (covR m l K b.half2).1, true) else ([], false) := by
 have p := (q0Y h).1
 obtain ⟨n, hn⟩ : ∃ n, b.count.toNat = n + 1 := ⟨b.count.toNat - 1, by omega⟩
 unfold covR
 rw [hn, covF]
 by_cases e1 : q0i m l K b = true
 ·rw [if_pos e1, if_pos e1]
 ·rw [if_neg e1, if_neg e1]
  by_cases e2 : b.count = 1
  ·rw [if_pos e2, if_pos e2]
  ·rw [if_neg e2, if_neg e2]
   obtain ⟨f1, f2, _, _⟩ := q4g h e2
   have hc := q0R b
   have p1 := (q0Y f1).1
   have p2 := (q0Y f2).1
   rw [q9v n b.half1.count.toNat b.half1 f1 (by omega) (by omega), q9v n b.half2.count.toNat b.half2 f2 (by omega) (by omega)]
theorem q9w {m : TM} {l : List TH} {K : Int} (hm : m.err = 0) (hh : ql l = 0) : ∀ (n : Nat) (b : TB), b.err = 0 → b.count ≤ n → ((covR m l K b).2 = true → m.covers l K b (covR m l K b).1) ∧ ((covR m l K b).2 = false → (covR m l K b).1 = [] ∧ ∃ s, b.has s ∧ m.permit s ∧ m.score s l < K)
 | 0, b, h, h1 => by have := (q0Y h).1; omega
 | n + 1, b, h, h1 => by
  have ho := q1g hm
  have hk := q0c h
  rw [covR_eq h]
  by_cases e1 : q0i m l K b = true
  ·rw [if_pos e1]
   exact ⟨fun _ => qgc hk ((q9u h).1 e1), fun e => (by cases e)⟩
  ·rw [if_neg e1]
   by_cases e2 : b.count = 1
   ·rw [if_pos e2]
    refine ⟨fun e => (by cases e), fun _ => ⟨rfl, b.lo, ?_, ?_⟩⟩
    ·unfold TB.ok TB.rx TB.ry TB.rz Rg.ok at hk
     unfold TB.has TB.rx TB.ry TB.rz Rg.has
     simp only at hk ⊢; omega
    ·have e3 := (q7j hk).1 e2
     have e4 : b = ⟨b.lo, b.lo⟩ := by obtain ⟨x, y⟩ := b; simp only at e3; rw [e3]
     have h2 : ¬ m.proved l K ⟨b.lo, b.lo⟩ := by rw [← e4]; exact fun q => e1 ((q9u h).2 q)
     exact qht h2 ho.slp ho.slo ⟨ho.ea.1, ho.la.1⟩ ⟨ho.mi.1, ho.no.1⟩ (qaG hh)
   ·rw [if_neg e2]
    obtain ⟨f1, f2, s1, s2⟩ := q4g h e2
    have hc := q0R b
    have p1 := (q0Y f1).1
    have p2 := (q0Y f2).1
    obtain ⟨g1, g2⟩ := q9w hm hh n b.half1 f1 (by omega)
    obtain ⟨g3, g4⟩ := q9w hm hh n b.half2 f2 (by omega)
    by_cases e3 : (covR m l K b.half1).2 = true ∧ (covR m l K b.half2).2 = true
    ·rw [if_pos e3]
     exact ⟨fun _ => qms hk (cnt_ne hk e2) (g1 e3.1) (g3 e3.2), fun e => by cases e⟩
    ·rw [if_neg e3]
     refine ⟨fun e => (by cases e), fun _ => ⟨rfl, ?_⟩⟩
     by_cases q : (covR m l K b.half1).2 = true
     ·obtain ⟨_, s, a1, a2⟩ := g4 (by have : ¬ (covR m l K b.half2).2 = true := fun r => e3 ⟨q, r⟩; simpa using this)
      exact ⟨s, qhs s2 a1, a2⟩
     ·obtain ⟨_, s, a1, a2⟩ := g2 (by simpa using q)
      exact ⟨s, qhs s1 a1, a2⟩
theorem qkq {m : TM} {l : List TH} {K : Int} {b : TB} (hm : m.err = 0) (hb : b.err = 0) (hh : ql l = 0) : (covR m l K b).1.length ≤ 700 := by
 obtain ⟨h1, h2⟩ := q9w (K := K) hm hh b.count.toNat b hb (by omega)
 have hc := q0Y hb
 cases e : (covR m l K b).2 with
 | true => have := qgd (h1 e); omega
 | false => rw [(h2 e).1]; simp
def bxE (b : TB) (c : List TB) (i : Nat) : Int := if (bxAt c i).err ≠ 0 then (bxAt c i).err else qd [unl (decide ((bxAt c i).sub b)) 6, unl (!((c.take i).any (fun a => decide (¬ a.apart (bxAt c i))))) 23]
def cvE0 (m : TM) (b : TB) (l : List TH) (c : List TB) : Int := qd [qd [qd [m.err, b.err], ql l], unl (decide (((c.length : Nat) : Int) ≤ (700 : Int))) (8 : Int)]
def cvR (m : TM) (b : TB) (l : List TH) (c : List TB) (K : Int) : Int × Int := if cvE0 m b l c ≠ 0 then (0, cvE0 m b l c) else if scan (bxE b c) c.length ≠ 0 then (qc3 (bxE b c) c.length, scan (bxE b c) c.length) else if sumC c < b.count then (0, 14) else if 0 ≤ idxP (fun a => !q0i m l K a) c then (idxP (fun a => !q0i m l K a) c, 19) else (0, 0)
theorem cvE0_ok {m : TM} {b : TB} {l : List TH} {c : List TB} (h : cvE0 m b l c = 0) : m.err = 0 ∧ b.err = 0 ∧ ql l = 0 ∧ c.length ≤ 700 := by
 unfold cvE0 at h
 obtain ⟨h1, h2⟩ := fn2 h
 obtain ⟨h3, h4⟩ := fn2 h1
 obtain ⟨h5, h6⟩ := fn2 h3
 rw [unl_0 (by decide)] at h2
 have := of_decide_eq_true h2
 exact ⟨h5, h6, h4, by omega⟩
theorem bxE_err {b : TB} {c : List TB} {i : Nat} (h : bxE b c i = 0) : (bxAt c i).err = 0 := by
 unfold bxE at h
 by_cases e : (bxAt c i).err = 0
 ·exact e
 ·rw [if_pos e] at h; exact h
theorem sumC_bd {b : TB} (c : List TB) : ∀ {k : Nat}, (∀ j, j < k → bxE b c j = 0) → 0 ≤ sumC (c.take k) ∧ sumC (c.take k) ≤ 700 * k
 | 0, _ => by simp [sumC]
 | k + 1, h => by
  have ih := sumC_bd c (k := k) fun j hj => h j (by omega)
  by_cases hk : k < c.length
  ·rw [qiQ hk, qfb]
   have := q0Y (bxE_err (h k (by omega)))
   have e : sumC [bxAt c k] = (bxAt c k).count := by simp [sumC]
   rw [e]; omega
  ·rw [List.take_of_length_le (by omega)] at ih ⊢; omega
theorem cover_acc {m : TM} {b : TB} {l : List TH} {K : Int} {L : List TB} (hm : m.err = 0) (hb : b.err = 0) (hh : ql l = 0) (h : m.covers l K b L) : cvR m b l L K = (0, 0) := by
 have hlen := qgd h
 have hc := q0Y hb
 have hat : ∀ i, i < L.length → bxAt L i ∈ L := fun i hi => bxAt_in hi
 have e0 : cvE0 m b l L = 0 := by
  unfold cvE0
  rw [hm, hb, hh, decide_eq_true (by omega)]; rfl
 have hz : ∀ i, i < L.length → bxE b L i = 0 := by
  intro i hi
  obtain ⟨h1, h2, h3⟩ := h.each _ (hat i hi)
  have e1 := qhJ hb h2 h1
  unfold bxE
  rw [if_neg (by rw [e1]; simp), decide_eq_true h2]
  have e2 : (L.take i).any (fun a => decide (¬ a.apart (bxAt L i))) = false := by
   rw [List.any_eq_false]
   intro a ha
   obtain ⟨j, hj, e⟩ := List.mem_take_iff_getElem.1 ha
   have := (List.pairwise_iff_getElem.1 h.apart) j i (by omega) hi (by omega)
   rw [e] at this
   rw [show bxAt L i = L[i] by simp [bxAt, List.getD, hi]]
   simpa using this
  rw [e2]; rfl
 have e1 := q3T hz
 have e2 : idxP (fun a => !q0i m l K a) L = -1 := q9n (d := (TB.mk (.mk 0 0 0) (.mk 0 0 0))) fun j hj => by
  obtain ⟨h1, h2, h3⟩ := h.each _ (hat j hj)
  have := (q9u (K := K) (m := m) (l := l) (qhJ hb h2 h1)).2 h3
  show (!q0i m l K (bxAt L j)) = false
  rw [this]; rfl
 unfold cvR
 rw [if_neg (by rw [e0]; simp), if_neg (by rw [e1]; simp), if_neg (by rw [h.count]; omega), if_neg (by rw [e2]; omega)]
theorem q8M {m : TM} {b : TB} {s : V3} (h : b.err = 0) (hs : s ∈ m.steps b) : s.inS 20 = true ∧ m.permit s := by
 obtain ⟨h1, h2⟩ := q0L.1 hs
 have hin := q0Z h
 obtain ⟨a1, a2, a3⟩ := qn.1 hin.1
 obtain ⟨c1, c2, c3⟩ := qn.1 hin.2
 unfold TB.has TB.rx TB.ry TB.rz Rg.has at h1
 simp only at h1
 exact ⟨qn.2 (by omega), h2⟩
theorem qdi {m : TM} {b : TB} (h : b.err = 0) : (m.steps b).length ≤ 700 := by
 have h1 := List.length_filter_le m.permB b.all
 have h2 := qah (q0c h)
 have h3 := q0Y h
 unfold TM.steps
 omega
def q9H (m : TM) (b : TB) (l : List TH) : V3 := match m.bestF l (m.steps b) with
 | some s => s
 | none => ⟨0, 0, 0⟩
def q3M (m : TM) (b : TB) (l : List TH) : Int := match m.bestF l (m.steps b) with
 | some s => m.score s l
 | none => 0
theorem qaH {m : TM} {b : TB} {l : List TH} (h : m.steps b ≠ []) : m.isBest l (· ∈ m.steps b) (q9H m b l) ∧ q3M m b l = m.score (q9H m b l) l := by
 have h1 := qkV m l (m.steps b) (qk3 m b)
 unfold q9H q3M
 cases e : m.bestF l (m.steps b) with
 | none =>
  rw [e] at h1
  exact (h (List.eq_nil_iff_forall_not_mem.2 h1)).elim
 | some s => rw [e] at h1; exact ⟨h1, rfl⟩
theorem best_le {m : TM} {b : TB} {l : List TH} {s : V3} (h : s ∈ m.steps b) : q3M m b l ≤ m.score s l := by
 have hne : m.steps b ≠ [] := by intro e; rw [e] at h; cases h
 obtain ⟨h1, h2⟩ := qaH (l := l) hne
 rw [h2]
 rcases h1.2 s h with e | e | ⟨e, _⟩
 ·rw [e]; exact Int.le_refl _
 ·exact Int.le_of_lt e
 ·rw [e]; exact Int.le_refl _
theorem cover_iff {m : TM} {b : TB} {l : List TH} {K : Int} (hm : m.err = 0) (hb : b.err = 0) (hh : ql l = 0) : (covR m l K b).2 = false ↔ m.steps b ≠ [] ∧ q3M m b l < K := by
 obtain ⟨h1, h2⟩ := q9w (K := K) hm hh b.count.toNat b hb (by omega)
 have ho := q1g hm
 constructor
 ·intro e
  obtain ⟨_, s, a1, a2, a3⟩ := h2 e
  have hs := q0L.2 ⟨a1, a2⟩
  refine ⟨fun e => (by rw [e] at hs; cases hs), ?_⟩
  have := best_le (l := l) hs
  omega
 ·rintro ⟨hne, hlt⟩
  cases e : (covR m l K b).2 with
  | false => rfl
  | true =>
   obtain ⟨q1, q2⟩ := qaH (l := l) hne
   obtain ⟨g1, g2⟩ := q0L.1 q1.1
   have := qiD (h1 e) (q0c hb) g1 g2 ho.slp ho.slo ⟨ho.ea.1, ho.la.1⟩ ⟨ho.mi.1, ho.no.1⟩ (qaG hh)
   omega
theorem z3_no {m : TM} (ho : m.Ok) {s : V3} (h : m.permit s) : ¬ z3 s := by
 rintro ⟨a, b, c⟩
 have h1 := h.1
 have h2 := ho.lo
 unfold V3.dot at h1
 rw [a, b, c] at h1
 omega
theorem plain_V3 (l : List V3) (i j : Nat) : ∃ y, plsC l i j = .v y := by unfold plsC; split <;> exact ⟨_, rfl⟩
theorem has_sub {b c : TB} {s : V3} (h : b.sub c) (g : b.has s) : c.has s := by
 unfold TB.sub at h
 unfold TB.has at g ⊢
 unfold TB.rx TB.ry TB.rz Rg.sub at h
 unfold TB.rx TB.ry TB.rz Rg.has at g ⊢
 simp only at h g ⊢
 omega
theorem qiR {m : TM} {s : V3} {l : List TH} (ho : m.Ok) (hok : ∀ i, i < l.length → (qe l i).Ok) : ∀ k, k ≤ l.length → -(10000 * (k : Int)) ≤ m.score s (l.take k) ∧ m.score s (l.take k) ≤ 10000 * (k : Int)
 | 0, _ => by rw [List.take_zero, show m.score s [] = 0 from rfl]; omega
 | k + 1, h => by
  have ih := qiR (s := s) ho hok k (by omega)
  have p := pen_rg (m := m) (s := s) ho (hok k (by omega))
  rw [qgh m s (by omega)]
  push_cast
  omega
theorem score_120 {m : TM} {s : V3} {l : List TH} (ho : m.Ok) (hh : ql l = 0) : -120000 ≤ m.score s l ∧ m.score s l ≤ 120000 := by
 obtain ⟨h1, h2⟩ := q1N hh
 have := qiR (s := s) ho h2 l.length (Nat.le_refl _)
 rw [List.take_length] at this
 omega
def kn (m : TM) (l : List TH) (S : V3 → Prop) (k : V3) (n : Int) : Prop := (z3 k ∧ ∀ s, ¬ S s) ∨ (m.isBest l S k ∧ n = m.score k l)
theorem qfA {m : TM} {l : List TH} {S T : V3 → Prop} {k : V3} {n : Int} (h : kn m l S k n) (e : ∀ s, S s ↔ T s) : kn m l T k n := by
 have : S = T := funext fun s => propext (e s)
 rwa [← this]
theorem bst_kn {m : TM} {l : List TH} (ho : m.Ok) (hl : ∀ x ∈ l, 0 ≤ x.w) : ∀ (f : Nat) (b : TB) (S : V3 → Prop) (k : V3) (n : Int), b.err = 0 → b.count ≤ f → (∀ s, S s → m.permit s) → kn m l S k n → kn m l (fun s => S s ∨ (b.has s ∧ m.permit s)) (bstR m l b k n).1 (bstR m l b k n).2
 | 0, b, _, _, _, h, h1, _, _ => by have := q0e (q0c h); omega
 | f + 1, b, S, k, n, h, h1, hS, hk => by
  have hb := q0c h
  rw [bstR_eq h]
  by_cases e1 : m.canB b = false
  ·rw [if_pos e1]
   refine qfA hk fun s => ⟨Or.inl, fun q => q.elim id fun q => ?_⟩
   have := q3U.2 (qbr q.1 q.2)
   rw [e1] at this; cases this
  ·rw [if_neg e1]
   by_cases e3 : ¬ z3 k ∧ n < (m.scores b l).lo
   ·rw [if_pos e3]
    rcases hk with hk | ⟨hk, hn⟩
    ·exact (e3.1 hk.1).elim
    ·refine Or.inr ⟨qkU hk fun u hu => ?_, hn⟩
     have := q9l hu.1 hu.2 ho.slp ho.slo ⟨ho.ea.1, ho.la.1⟩ ⟨ho.mi.1, ho.no.1⟩ hl
     have := this.1
     show m.score k l < m.score u l
     omega
   ·rw [if_neg e3]
    by_cases e2 : b.count ≠ 1
    ·rw [if_pos e2]
     obtain ⟨f1, f2, s1, s2⟩ := q4g h e2
     have hc := q0R b
     have p1 := q0e (q0c f1)
     have p2 := q0e (q0c f2)
     have q1 := bst_kn ho hl f b.half1 S k n f1 (by omega) hS hk
     have q2 := bst_kn ho hl f b.half2 _ _ _ f2 (by omega) (fun s hs => hs.elim (hS s) fun q => q.2) q1
     refine qfA q2 fun s => ⟨fun q => ?_, fun q => ?_⟩
     ·rcases q with (q | q) | q
      ·exact Or.inl q
      ·exact Or.inr ⟨has_sub s1 q.1, q.2⟩
      ·exact Or.inr ⟨has_sub s2 q.1, q.2⟩
     ·rcases q with q | ⟨q, r⟩
      ·exact Or.inl (Or.inl q)
      ·rcases qmn s q with g | g
       ·exact Or.inl (Or.inr ⟨g, r⟩)
       ·exact Or.inr ⟨g, r⟩
    ·rw [if_neg e2]
     have hlh := (q7j hb).1 (by omega)
     have hpm : m.permit b.lo := by
      have h9 := q3U.1 (by simpa using e1)
      rw [show b = (⟨b.lo, b.lo⟩ : TB) from by obtain ⟨x, y⟩ := b; simp only at hlh; rw [hlh]] at h9
      exact qcR h9
     have hiff : ∀ s, b.has s ∧ m.permit s ↔ s = b.lo := fun s => by
      constructor
      ·rintro ⟨g, _⟩
       unfold TB.has TB.rx TB.ry TB.rz Rg.has at g
       rw [← hlh] at g
       obtain ⟨x, y, z⟩ := s
       simp only at g
       have e1 : x = b.lo.x := by omega
       have e2 : y = b.lo.y := by omega
       have e3 : z = b.lo.z := by omega
       rw [e1, e2, e3]
      ·rintro rfl
       refine ⟨?_, hpm⟩
       unfold TB.ok TB.rx TB.ry TB.rz Rg.ok at hb
       unfold TB.has TB.rx TB.ry TB.rz Rg.has
       simp only at hb ⊢; omega
     have fin : kn m l (fun s => S s ∨ s = b.lo) (m.stp l b.lo k n).1 (m.stp l b.lo k n).2 := by
      unfold TM.stp
      rcases hk with ⟨hz, hno⟩ | ⟨hk, hn⟩
      ·rw [if_pos (Or.inl hz)]
       exact Or.inr ⟨qkT b.lo hno, rfl⟩
      ·have hz : ¬ z3 k := z3_no ho (hS k hk.1)
       by_cases hb : m.better l b.lo k
       ·rw [if_pos]
        ·exact Or.inr ⟨(qcT hk).1 hb, rfl⟩
        ·rw [hn]; exact Or.inr hb
       ·rw [if_neg]
        ·exact Or.inr ⟨(qcT hk).2 hb, hn⟩
        ·rintro (q | q)
         ·exact hz q
         ·rw [hn] at q; exact hb q
     exact qfA fin fun s => by rw [hiff s]
theorem bst_best {m : TM} {l : List TH} {b : TB} (hm : m.err = 0) (hb : b.err = 0) (hh : ql l = 0) : (m.steps b = [] ∧ z3 (bstR m l b ⟨0, 0, 0⟩ 0).1) ∨ (m.steps b ≠ [] ∧ ¬ z3 (bstR m l b ⟨0, 0, 0⟩ 0).1 ∧ (bstR m l b ⟨0, 0, 0⟩ 0).1 = q9H m b l ∧ (bstR m l b ⟨0, 0, 0⟩ 0).2 = q3M m b l) := by
 have ho := q1g hm
 have h := bst_kn ho (qaG hh) b.count.toNat b (fun _ => False) ⟨0, 0, 0⟩ 0 hb (by omega) (fun s hs => hs.elim) (Or.inl ⟨⟨rfl, rfl, rfl⟩, fun s hs => hs⟩)
 rcases h with ⟨h1, h2⟩ | ⟨h1, h2⟩
 ·refine Or.inl ⟨List.eq_nil_iff_forall_not_mem.2 fun s hs => h2 s (Or.inr (q0L.1 hs)), h1⟩
 ·have hin : (bstR m l b ⟨0, 0, 0⟩ 0).1 ∈ m.steps b := q0L.2 (h1.1.elim (fun q => q.elim) id)
  have hne : m.steps b ≠ [] := by intro e; rw [e] at hin; cases hin
  obtain ⟨g1, g2⟩ := qaH (l := l) hne
  have e : (bstR m l b ⟨0, 0, 0⟩ 0).1 = q9H m b l := by
   refine qkS (S := fun s => False ∨ (b.has s ∧ m.permit s)) h1 ?_
   have : (fun s => False ∨ (b.has s ∧ m.permit s)) = (· ∈ m.steps b) := funext fun s => propext (by rw [q0L]; simp)
   rw [this]; exact g1
  exact Or.inr ⟨hne, z3_no ho (q0L.1 hin).2, e, by rw [h2, g2, e]⟩
def coE (m : TM) (b : TB) (l : List TH) (K : Int) : Int := qd [qd [qd [m.err, b.err], ql l], unl (inB K 0 120000) 2]
def coQ (m : TM) (b : TB) (l : List TH) (K : Int) (s : V3) : Bool := decide (m.score s l ≤ q3M m b l + K)
def coL (m : TM) (b : TB) (l : List TH) (K : Int) : List V3 := (m.steps b).filter (coQ m b l K)
def biE (m : TM) (b : TB) (l : List TH) : Int := if qd [qd [m.err, b.err], ql l] ≠ 0 then qd [qd [m.err, b.err], ql l] else if m.steps b = [] then 12 else 0
def biV (m : TM) (b : TB) (l : List TH) : V3 := if biE m b l = 0 then q9H m b l else ⟨0, 0, 0⟩
def biS (m : TM) (b : TB) (l : List TH) : Int := if biE m b l = 0 then q3M m b l else 0
def cnE (m : TM) (b : TB) (l : List TH) (K : Int) : Int := if coE m b l K ≠ 0 then coE m b l K else biE m b l
def cnL (m : TM) (b : TB) (l : List TH) (K : Int) : List V3 := if cnE m b l K = 0 then coL m b l K else []
theorem biE_0 {m : TM} {b : TB} {l : List TH} (h : biE m b l = 0) : m.err = 0 ∧ b.err = 0 ∧ ql l = 0 ∧ m.steps b ≠ [] := by
 unfold biE at h
 by_cases e : qd [qd [m.err, b.err], ql l] ≠ 0
 ·rw [if_pos e] at h; exact (e h).elim
 ·have e : qd [qd [m.err, b.err], ql l] = 0 := by simpa using e
  obtain ⟨q1, q2⟩ := fn2 e
  obtain ⟨q3, q4⟩ := fn2 q1
  rw [if_neg (by rw [e]; simp)] at h
  refine ⟨q3, q4, q2, fun e2 => ?_⟩
  rw [if_pos e2] at h; cases h
def qbP (m0 m1 m2 m3 m4 m5 m6 m7 m8 m9 mA mB b0 b1 b2 b3 b4 b5 : Int) (post : DV → Prop) : Prop := post (.t (.fn 100 [.px 6 0 (boxC [.v (.int .i64 b0), .v (.int .i64 b1), .v (.int .i64 b2), .v (.int .i64 b3), .v (.int .i64 b4), .v (.int .i64 b5)]), .px 12 0 (boxC [.v (.int .i64 m0), .v (.int .i64 m1), .v (.int .i64 m2), .v (.int .i64 m3), .v (.int .i64 m4), .v (.int .i64 m5), .v (.int .i64 m6), .v (.int .i64 m7), .v (.int .i64 m8), .v (.int .i64 m9), .v (.int .i64 mA), .v (.int .i64 mB)])]))
def qaI : Ann := ⟨fun _ => none, fun _ => none, fun _ => [], Ikv64, false, fun _ => none, fun _ => none⟩
theorem qa2 (m0 m1 m2 m3 m4 m5 m6 m7 m8 m9 mA mB b0 b1 b2 b3 b4 b5 : Int) : qbP m0 m1 m2 m3 m4 m5 m6 m7 m8 m9 mA mB b0 b1 b2 b3 b4 b5 (fun r => LeD r (.t (.fn 100 [.px 6 0 (boxC [.v (.int .i64 b0), .v (.int .i64 b1), .v (.int .i64 b2), .v (.int .i64 b3), .v (.int .i64 b4), .v (.int .i64 b5)]), .px 12 0 (boxC [.v (.int .i64 m0), .v (.int .i64 m1), .v (.int .i64 m2), .v (.int .i64 m3), .v (.int .i64 m4), .v (.int .i64 m5), .v (.int .i64 m6), .v (.int .i64 m7), .v (.int .i64 m8), .v (.int .i64 m9), .v (.int .i64 mA), .v (.int .i64 mB)])]))) := by
 exact LeD.refl _
def q2G : Con := fun args => match args with
 | [.t (.a [.v (.int .i64 m0), .v (.int .i64 m1), .v (.int .i64 m2), .v (.int .i64 m3), .v (.int .i64 m4), .v (.int .i64 m5), .v (.int .i64 m6), .v (.int .i64 m7), .v (.int .i64 m8), .v (.int .i64 m9), .v (.int .i64 mA), .v (.int .i64 mB)]), .t (.a [.v (.int .i64 b0), .v (.int .i64 b1), .v (.int .i64 b2), .v (.int .i64 b3), .v (.int .i64 b4), .v (.int .i64 b5)])] => some (.t (.fn 100 [.px 6 0 (boxC [.v (.int .i64 b0), .v (.int .i64 b1), .v (.int .i64 b2), .v (.int .i64 b3), .v (.int .i64 b4), .v (.int .i64 b5)]), .px 12 0 (boxC [.v (.int .i64 m0), .v (.int .i64 m1), .v (.int .i64 m2), .v (.int .i64 m3), .v (.int .i64 m4), .v (.int .i64 m5), .v (.int .i64 m6), .v (.int .i64 m7), .v (.int .i64 m8), .v (.int .i64 m9), .v (.int .i64 mA), .v (.int .i64 mB)])]), none, false)
 | _ => none
theorem qbQ : Ok Tryz.prog 63 q2G := by
 refine Ok.fn (ann := qaI) mixed qo VSlx69 VIkv64 (fn := Tryz.f63) (by kernel_rfl) (by kernel_rfl) (by kernel_rfl) fun args r pre fresh h hp => ?_
 unfold q2G at h
 split at h
 ·rename_i m0 m1 m2 m3 m4 m5 m6 m7 m8 m9 mA mB b0 b1 b2 b3 b4 b5
  cases h
  refine ⟨rfl, fun _ _ _ => False, _, LeA.refl _, Nat.le_of_ble_eq_true (by kernel_rfl), ?_, ?_⟩
  ·exact cast (by kernel_rfl) (qa2 m0 m1 m2 m3 m4 m5 m6 m7 m8 m9 mA mB b0 b1 b2 b3 b4 b5)
  ·exact cast (by kernel_rfl) trivial
 ·cases h
def Sly70 : Sum := addS Slx69 63 q2G
theorem VSly70 : Valid Tryz.prog Sly70 := Valid.add VSlx69 qbQ
def q9x (m0 m1 m2 m3 m4 m5 m6 m7 m8 m9 mA mB b0 b1 b2 b3 b4 b5 : Int) (l : List TH) (post : DV → Prop) : Prop := (fun (Z1 : TM) (Z2 : TB) (Z3 : List TH) => (qj 5 l.length (qi l)) ∧ (cond ((qd [qd [(Z1).err, (Z2).err], ql Z3]) != (0 : Int)) (post (.tu [.a [.v (.int .i64 0), .v (.int .i64 0), .v (.int .i64 0)], .c (.v (.int .i64 0)), .c (.v (.int .i64 (qd [qd [(Z1).err, (Z2).err], ql Z3])))])) (lt ((bstR Z1 Z3 Z2 ⟨(0 : Int), (0 : Int), (0 : Int)⟩ (0 : Int)).1.x) fun x1 => lt ((bstR Z1 Z3 Z2 ⟨(0 : Int), (0 : Int), (0 : Int)⟩ (0 : Int)).1.y) fun x2 => lt ((bstR Z1 Z3 Z2 ⟨(0 : Int), (0 : Int), (0 : Int)⟩ (0 : Int)).1.z) fun x3 => lt ((bstR Z1 Z3 Z2 ⟨(0 : Int), (0 : Int), (0 : Int)⟩ (0 : Int)).2) fun x4 => (qj 5 l.length (qi l) ∧ qQ [0, 1, 2, 3] (boxC [.v (.int .i64 0), .v (.int .i64 0), .v (.int .i64 0), .v (.int .i64 0)]) = true ∧ (Z1).err = 0 ∧ (Z2).err = 0 ∧ ql Z3 = 0) ∧ (cond (bif (x1 == (0 : Int)) then (bif (x2 == (0 : Int)) then (bif (x3 == (0 : Int)) then true else false) else false) else false) (post (.tu [.a [.v (.int .i64 0), .v (.int .i64 0), .v (.int .i64 0)], .c (.v (.int .i64 0)), .c (.v (.int .i64 12))])) (post (.tu [.a [.v (.int .i64 x1), .v (.int .i64 x2), .v (.int .i64 x3)], .c (.v (.int .i64 x4)), .c (.v (.int .i64 0))])))))) (TM.mk m0 m1 m2 m3 m4 m5 m6 m7 m8 m9 mA mB) (TB.mk (.mk b0 b1 b2) (.mk b3 b4 b5)) (qa l.length qc (qi l))
def qfB : Ann := ⟨fun r => qr r [(8, ([[], [0], [], [2], [0, 1], [0, 1, 2, 3, 4], [0, 1, 2, 3, 4, 5]], [[], [], [], [6], [9999, 6], [], []]))], fun _ => none, fun _ => [], Ikv64, false, fun _ => none, fun _ => none⟩
theorem qeo (m0 m1 m2 m3 m4 m5 m6 m7 m8 m9 mA mB b0 b1 b2 b3 b4 b5 : Int) (l : List TH) : q9x m0 m1 m2 m3 m4 m5 m6 m7 m8 m9 mA mB b0 b1 b2 b3 b4 b5 l (fun r => LeD r (.tu [.a [.v (.int .i64 ((biV (TM.mk m0 m1 m2 m3 m4 m5 m6 m7 m8 m9 mA mB) (TB.mk (.mk b0 b1 b2) (.mk b3 b4 b5)) l).x)), .v (.int .i64 ((biV (TM.mk m0 m1 m2 m3 m4 m5 m6 m7 m8 m9 mA mB) (TB.mk (.mk b0 b1 b2) (.mk b3 b4 b5)) l).y)), .v (.int .i64 ((biV (TM.mk m0 m1 m2 m3 m4 m5 m6 m7 m8 m9 mA mB) (TB.mk (.mk b0 b1 b2) (.mk b3 b4 b5)) l).z))], .c (.v (.int .i64 (biS (TM.mk m0 m1 m2 m3 m4 m5 m6 m7 m8 m9 mA mB) (TB.mk (.mk b0 b1 b2) (.mk b3 b4 b5)) l))), .c (.v (.int .i64 (biE (TM.mk m0 m1 m2 m3 m4 m5 m6 m7 m8 m9 mA mB) (TB.mk (.mk b0 b1 b2) (.mk b3 b4 b5)) l)))])) := by
 unfold q9x
 simp only [qP, zB]
 refine ⟨qA l, qg (fun h => ?_) (fun h => ?_)⟩
 ·have h : qd [qd [(TM.mk m0 m1 m2 m3 m4 m5 m6 m7 m8 m9 mA mB).err, (TB.mk (.mk b0 b1 b2) (.mk b3 b4 b5)).err], ql l] ≠ 0 := by simpa using h
  have e : biE (TM.mk m0 m1 m2 m3 m4 m5 m6 m7 m8 m9 mA mB) (TB.mk (.mk b0 b1 b2) (.mk b3 b4 b5)) l = qd [qd [(TM.mk m0 m1 m2 m3 m4 m5 m6 m7 m8 m9 mA mB).err, (TB.mk (.mk b0 b1 b2) (.mk b3 b4 b5)).err], ql l] := if_pos h
  rw [show biV (TM.mk m0 m1 m2 m3 m4 m5 m6 m7 m8 m9 mA mB) (TB.mk (.mk b0 b1 b2) (.mk b3 b4 b5)) l = ⟨0, 0, 0⟩ from if_neg (by rw [e]; exact h), show biS (TM.mk m0 m1 m2 m3 m4 m5 m6 m7 m8 m9 mA mB) (TB.mk (.mk b0 b1 b2) (.mk b3 b4 b5)) l = 0 from if_neg (by rw [e]; exact h), e]
  exact LeD.refl _
 ·have h : qd [qd [(TM.mk m0 m1 m2 m3 m4 m5 m6 m7 m8 m9 mA mB).err, (TB.mk (.mk b0 b1 b2) (.mk b3 b4 b5)).err], ql l] = 0 := by simpa using h
  obtain ⟨q1, q2⟩ := fn2 h
  obtain ⟨q3, q4⟩ := fn2 q1
  refine lt_i fun x1 h1 => lt_i fun x2 h2 => lt_i fun x3 h3 => lt_i fun x4 h4 => ⟨⟨qA l, rfl, q3, q4, q2⟩, ?_⟩
  have hz : z3 (V3.mk x1 x2 x3) ↔ z3 (bstR (TM.mk m0 m1 m2 m3 m4 m5 m6 m7 m8 m9 mA mB) l (TB.mk (.mk b0 b1 b2) (.mk b3 b4 b5)) ⟨0, 0, 0⟩ 0).1 := by unfold z3; rw [← h1, ← h2, ← h3]
  rcases bst_best (l := l) q3 q4 q2 with ⟨e1, e2⟩ | ⟨e1, e2, e3, e4⟩
  ·have e : biE (TM.mk m0 m1 m2 m3 m4 m5 m6 m7 m8 m9 mA mB) (TB.mk (.mk b0 b1 b2) (.mk b3 b4 b5)) l = 12 := (if_neg (by rw [h]; simp)).trans (if_pos e1)
   rw [decide_eq_true (hz.2 e2), show biV (TM.mk m0 m1 m2 m3 m4 m5 m6 m7 m8 m9 mA mB) (TB.mk (.mk b0 b1 b2) (.mk b3 b4 b5)) l = ⟨0, 0, 0⟩ from if_neg (by rw [e]; decide), show biS (TM.mk m0 m1 m2 m3 m4 m5 m6 m7 m8 m9 mA mB) (TB.mk (.mk b0 b1 b2) (.mk b3 b4 b5)) l = 0 from if_neg (by rw [e]; decide), e]
   exact LeD.refl _
  ·have e : biE (TM.mk m0 m1 m2 m3 m4 m5 m6 m7 m8 m9 mA mB) (TB.mk (.mk b0 b1 b2) (.mk b3 b4 b5)) l = 0 := (if_neg (by rw [h]; simp)).trans (if_neg e1)
   rw [decide_eq_false (fun q => e2 (hz.1 q)), show biV (TM.mk m0 m1 m2 m3 m4 m5 m6 m7 m8 m9 mA mB) (TB.mk (.mk b0 b1 b2) (.mk b3 b4 b5)) l = q9H (TM.mk m0 m1 m2 m3 m4 m5 m6 m7 m8 m9 mA mB) (TB.mk (.mk b0 b1 b2) (.mk b3 b4 b5)) l from if_pos e, show biS (TM.mk m0 m1 m2 m3 m4 m5 m6 m7 m8 m9 mA mB) (TB.mk (.mk b0 b1 b2) (.mk b3 b4 b5)) l = q3M (TM.mk m0 m1 m2 m3 m4 m5 m6 m7 m8 m9 mA mB) (TB.mk (.mk b0 b1 b2) (.mk b3 b4 b5)) l from if_pos e, e, ← h1, ← h2, ← h3, ← h4, e3, e4]
   exact LeD.refl _
def q5i : Con := fun args => match args with
 | [.t (.a [.v (.int .i64 m0), .v (.int .i64 m1), .v (.int .i64 m2), .v (.int .i64 m3), .v (.int .i64 m4), .v (.int .i64 m5), .v (.int .i64 m6), .v (.int .i64 m7), .v (.int .i64 m8), .v (.int .i64 m9), .v (.int .i64 mA), .v (.int .i64 mB)]), .t (.a [.v (.int .i64 b0), .v (.int .i64 b1), .v (.int .i64 b2), .v (.int .i64 b3), .v (.int .i64 b4), .v (.int .i64 b5)]), .t (.c (.sl 5 n_l c_l))] => some (.tu [.a [.v (.int .i64 ((biV (TM.mk m0 m1 m2 m3 m4 m5 m6 m7 m8 m9 mA mB) (TB.mk (.mk b0 b1 b2) (.mk b3 b4 b5)) (qa n_l qc c_l)).x)), .v (.int .i64 ((biV (TM.mk m0 m1 m2 m3 m4 m5 m6 m7 m8 m9 mA mB) (TB.mk (.mk b0 b1 b2) (.mk b3 b4 b5)) (qa n_l qc c_l)).y)), .v (.int .i64 ((biV (TM.mk m0 m1 m2 m3 m4 m5 m6 m7 m8 m9 mA mB) (TB.mk (.mk b0 b1 b2) (.mk b3 b4 b5)) (qa n_l qc c_l)).z))], .c (.v (.int .i64 (biS (TM.mk m0 m1 m2 m3 m4 m5 m6 m7 m8 m9 mA mB) (TB.mk (.mk b0 b1 b2) (.mk b3 b4 b5)) (qa n_l qc c_l)))), .c (.v (.int .i64 (biE (TM.mk m0 m1 m2 m3 m4 m5 m6 m7 m8 m9 mA mB) (TB.mk (.mk b0 b1 b2) (.mk b3 b4 b5)) (qa n_l qc c_l))))], some (qj 5 n_l c_l), false)
 | _ => none
theorem qgK : Ok Tryz.prog 26 q5i := by
 refine Ok.fn (ann := qfB) mixed qo VSly70 VIkv64 (fn := Tryz.f26) (by kernel_rfl) (by kernel_rfl) (by kernel_rfl) fun args r pre fresh h hp => ?_
 unfold q5i at h
 split at h
 ·rename_i m0 m1 m2 m3 m4 m5 m6 m7 m8 m9 mA mB b0 b1 b2 b3 b4 b5 n_l c_l
  cases h
  have hp0 := hp
  refine ⟨rfl, fun _ _ _ => False, _, (qk (LeD.refl _) (qk (LeD.refl _) (qk (leT_c ((qY hp0))) qM))), Nat.le_of_ble_eq_true (by kernel_rfl), ?_, ?_⟩
  ·exact cast (by kernel_rfl) (qeo m0 m1 m2 m3 m4 m5 m6 m7 m8 m9 mA mB b0 b1 b2 b3 b4 b5 (qa n_l qc c_l))
  ·exact cast (by kernel_rfl) trivial
 ·cases h
def Sly71 : Sum := addS Sly70 26 q5i
theorem VSly71 : Valid Tryz.prog Sly71 := Valid.add VSly70 qgK
end Go.Proofs.YtfadkjcfjkmalaaGreatDoor
