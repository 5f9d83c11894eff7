/- Texts of this claim, together. -/
import Derived.Test.YtlmdmpjfehpjeaaP11

/- Tracks, by the checker: answers. -/
set_option linter.unusedVariables false
set_option linter.unusedSimpArgs false
namespace Go.Proofs.Ytlmdmpjfehpjeaa
open Go.RowKit Ev

theorem leI {a b : Int} (h : a = b) : LeD (.t (.c (.v (.int .i64 a)))) (.t (.c (.v (.int .i64 b)))) := LeD.of (by rw [h])
theorem leB {a b : Bool} (h : a = b) : LeD (.t (.c (.v (.bool a)))) (.t (.c (.v (.bool b)))) := LeD.of (by rw [h])
theorem bw {r : Rg} {A B : Int} (h : A ≤ B) (g : r.bd A) : r.bd B := by unfold Rg.bd at *; omega
theorem timesW_eq {r s : Rg} {A B C : Int} (h : r.bd A) (g : s.bd B) (hC : A * B ≤ C) (hm : C ≤ 4000000000000000000) : r.timesW s = r.times s := by
  have m1 := mul_rg h.1 g.1 hC
  have m2 := mul_rg h.1 g.2 hC
  have m3 := mul_rg h.2 g.1 hC
  have m4 := mul_rg h.2 g.2 hC
  have e1 : wr (r.lo * s.lo) = r.lo * s.lo := IntWalk.i64_in _ (by omega)
  have e2 : wr (r.lo * s.hi) = r.lo * s.hi := IntWalk.i64_in _ (by omega)
  have e3 : wr (r.hi * s.lo) = r.hi * s.lo := IntWalk.i64_in _ (by omega)
  have e4 : wr (r.hi * s.hi) = r.hi * s.hi := IntWalk.i64_in _ (by omega)
  unfold Rg.timesW Rg.times
  rw [e1, e2, e3, e4]
theorem sqW_eq {r : Rg} {A C : Int} (h : r.bd A) (hC : A * A ≤ C) (hm : C ≤ 4000000000000000000) : sqW r.lo r.hi = r.square := by
  have m1 := mul_rg h.1 h.1 hC
  have m2 := mul_rg h.2 h.2 hC
  have e1 : wr (r.lo * r.lo) = r.lo * r.lo := IntWalk.i64_in _ (by omega)
  have e2 : wr (r.hi * r.hi) = r.hi * r.hi := IntWalk.i64_in _ (by omega)
  unfold sqW Rg.square
  rw [e1, e2]
theorem plusW_eq {r s : Rg} {A B : Int} (h : r.bd A) (g : s.bd B) (hm : A + B ≤ 8000000000000000000) : r.plusW s = r.plus s := by
  unfold Rg.bd at h g
  have e1 : wr (r.lo + s.lo) = r.lo + s.lo := IntWalk.i64_in _ (by omega)
  have e2 : wr (r.hi + s.hi) = r.hi + s.hi := IntWalk.i64_in _ (by omega)
  unfold Rg.plusW Rg.plus
  rw [e1, e2]
theorem sqsW_eq {b : TBox} (hl : b.lo.inS 20 = true) (hh : b.hi.inS 20 = true) : sqsW b = b.squares := by
  obtain ⟨a1, a2, a3⟩ := inS_iff.1 hl
  obtain ⟨b1, b2, b3⟩ := inS_iff.1 hh
  have r1 : b.rx.bd 20 := ⟨a1, b1⟩
  have r2 : b.ry.bd 20 := ⟨a2, b2⟩
  have r3 : b.rz.bd 20 := ⟨a3, b3⟩
  have s1 := (Rg.square_bd r1 (C := 400) (by decide)).1
  have s2 := (Rg.square_bd r2 (C := 400) (by decide)).1
  have s3 := (Rg.square_bd r3 (C := 400) (by decide)).1
  have z : (⟨0, 0⟩ : Rg).bd 0 := by unfold Rg.bd; simp
  have p1 := Rg.plus_bd z s1 (C := 400) (by decide)
  have p2 := Rg.plus_bd p1 s2 (C := 800) (by decide)
  have e1 : sqW b.lo.x b.hi.x = b.rx.square := sqW_eq r1 (C := 400) (by decide) (by decide)
  have e2 : sqW b.lo.y b.hi.y = b.ry.square := sqW_eq r2 (C := 400) (by decide) (by decide)
  have e3 : sqW b.lo.z b.hi.z = b.rz.square := sqW_eq r3 (C := 400) (by decide) (by decide)
  unfold sqsW TBox.squares
  rw [e1, e2, e3, plusW_eq z s1 (by decide), plusW_eq p1 s2 (by decide), plusW_eq p2 s3 (by decide)]
theorem canW_eq {m : TMod} {b : TBox} (hl : b.lo.inS 20 = true) (hh : b.hi.inS 20 = true) : canW m b = m.canB b := by
  unfold canW TMod.canB
  rw [sqsW_eq hl hh]
theorem restR_eq (tk d a : Int) (r : Rg) : restR tk r d a = ⟨min (tk * d - a * r.lo) (tk * d - a * r.hi), max (tk * d - a * r.lo) (tk * d - a * r.hi)⟩ := by
  have e1 : r.lo * -a = -(a * r.lo) := by rw [Int.mul_neg, Int.mul_comm]
  have e2 : r.hi * -a = -(a * r.hi) := by rw [Int.mul_neg, Int.mul_comm]
  unfold restR Rg.plus Rg.times mn4 mx4
  simp only [e1, e2, Rg.mk.injEq]
  generalize a * r.lo = x
  generalize a * r.hi = y
  generalize tk * d = z
  omega
/-- one coordinate of an answer. -/
theorem coord {tk d A : Int} {r P L : Rg} (htk : 1 ≤ tk ∧ tk ≤ 20) (hd : -2000 ≤ d ∧ d ≤ 2000) (hA : -1010101 ≤ A ∧ A ≤ 1010101) (hr : r.bd 20) (hP : P.bd 1000000000) (hL : L.bd 1000000000000000) {q px n tm : Int} (hq : q - px = d) (hn : n - tm = A)
    {x1 x2 x3 x4 x5 x6 x7 x8 x9 x10 x11 x12 x13 x14 x15 x16 : Int} (h1 : wr (q - px) = x1) (h2 : wr (tk * x1) = x2) (h3 : wr (n - tm) = x3) (h4 : wr (x3 * r.lo) = x4) (h5 : wr (x2 - x4) = x5)
    (h6 : wr (q - px) = x6) (h7 : wr (tk * x6) = x7) (h8 : wr (n - tm) = x8) (h9 : wr (x8 * r.hi) = x9) (h10 : wr (x7 - x9) = x10) (h11 : (if x10 < x5 then x10 else x5) = x11) (h12 : (if x10 > x5 then x10 else x5) = x12)
    (h13 : wr (P.lo + ((⟨x11, x12⟩ : Rg).timesW r).lo) = x13) (h14 : wr (P.hi + ((⟨x11, x12⟩ : Rg).timesW r).hi) = x14) (h15 : wr (L.lo + (sqW x11 x12).lo) = x15) (h16 : wr (L.hi + (sqW x11 x12).hi) = x16) :
    x13 = (P.plus ((restR tk r d A).times r)).lo ∧ x14 = (P.plus ((restR tk r d A).times r)).hi ∧ x15 = (L.plus (restR tk r d A).square).lo ∧ x16 = (L.plus (restR tk r d A).square).hi ∧ ((restR tk r d A).times r).bd 404840400 ∧ (restR tk r d A).square.bd 409739373680400 := by
  have hT := mul_rg (x := tk) (y := d) (A := 20) (B := 2000) (C := 40000) (by omega) hd (by decide)
  have hn' : (⟨-A, -A⟩ : Rg).bd 1010101 := by unfold Rg.bd; simp only; omega
  have hR := Rg.times_bd hr hn' (C := 20202020) (by decide)
  have hTD : (⟨tk * d, tk * d⟩ : Rg).bd 40000 := ⟨hT, hT⟩
  have hS : (restR tk r d A).bd 20242020 := Rg.plus_bd hR hTD (C := 20242020) (by decide)
  have hU := Rg.times_bd hS hr (C := 404840400) (by decide)
  have hV := (Rg.square_bd hS (C := 409739373680400) (by decide)).1
  have m1 := mul_rg (x := A) (y := r.lo) (A := 1010101) (B := 20) (C := 20202020) hA hr.1 (by decide)
  have m2 := mul_rg (x := A) (y := r.hi) (A := 1010101) (B := 20) (C := 20202020) hA hr.2 (by decide)
  have w : ∀ {a b : Int}, wr a = b → -4000000000000000000 ≤ a ∧ a ≤ 4000000000000000000 → b = a := fun {a b} h g => by rw [← h]; exact IntWalk.i64_in _ (by omega)
  rw [hq] at h1 h6
  rw [hn] at h3 h8
  have e1 := w h1 (by omega)
  have e3 := w h3 (by omega)
  have e6 := w h6 (by omega)
  have e8 := w h8 (by omega)
  rw [e1] at h2
  rw [e3] at h4
  rw [e6] at h7
  rw [e8] at h9
  have e2 := w h2 (by omega)
  have e4 := w h4 (by omega)
  have e7 := w h7 (by omega)
  have e9 := w h9 (by omega)
  rw [e2, e4] at h5
  rw [e7, e9] at h10
  have e5 := w h5 (by omega)
  have e10 := w h10 (by omega)
  rw [e10, e5, mn_if] at h11
  rw [e10, e5, mx_if] at h12
  have eR : (⟨x11, x12⟩ : Rg) = restR tk r d A := by
    rw [restR_eq, ← h11, ← h12, Int.min_comm, Int.max_comm]
  have e11 : x11 = (restR tk r d A).lo := by rw [← eR]
  have e12 : x12 = (restR tk r d A).hi := by rw [← eR]
  rw [eR, timesW_eq hS hr (C := 404840400) (by decide) (by decide)] at h13 h14
  rw [e11, e12, sqW_eq hS (C := 409739373680400) (by decide) (by decide)] at h15 h16
  have hU' := hU
  have hV' := hV
  unfold Rg.bd at hP hL hU' hV'
  have e13 := w h13 (by omega)
  have e14 := w h14 (by omega)
  have e15 := w h15 (by omega)
  have e16 := w h16 (by omega)
  exact ⟨e13, e14, e15, e16, hU, hV⟩

def vc_ref05_Count (b0 b1 b2 b3 b4 b5 : Int) (post : DV → Prop) : Prop := (0 ≤ (0 : Int) ∧ (0 : Int) < ((3 : Nat) : Int)) ∧ ((0 ≤ (0 : Int) ∧ (0 : Int) < ((3 : Nat) : Int)) ∧ (lt (IntKind.i64.wrap (b3 - b0)) fun x1 => lt (IntKind.i64.wrap (x1 + (1 : Int))) fun x2 => (0 ≤ (1 : Int) ∧ (1 : Int) < ((3 : Nat) : Int)) ∧ ((0 ≤ (1 : Int) ∧ (1 : Int) < ((3 : Nat) : Int)) ∧ (lt (IntKind.i64.wrap (b4 - b1)) fun x3 => lt (IntKind.i64.wrap (x3 + (1 : Int))) fun x4 => lt (IntKind.i64.wrap (x2 * x4)) fun x5 => (0 ≤ (2 : Int) ∧ (2 : Int) < ((3 : Nat) : Int)) ∧ ((0 ≤ (2 : Int) ∧ (2 : Int) < ((3 : Nat) : Int)) ∧ (lt (IntKind.i64.wrap (b5 - b2)) fun x6 => lt (IntKind.i64.wrap (x6 + (1 : Int))) fun x7 => lt (IntKind.i64.wrap (x5 * x7)) fun x8 => post (.t (.c (.v (.int .i64 x8))))))))))
def ann_ref05_Count : Ann := ⟨fun _ => none, fun _ => none, fun _ => [], noIt, false⟩
theorem ev_ref05_Count (J : Inv) (b0 b1 b2 b3 b4 b5 : Int) (post : DV → Prop) : evFn Try.prog tab S19 ann_ref05_Count J Try.f54 [.t (.a [.v (.int .i64 b0), .v (.int .i64 b1), .v (.int .i64 b2), .v (.int .i64 b3), .v (.int .i64 b4), .v (.int .i64 b5)])] post = vc_ref05_Count b0 b1 b2 b3 b4 b5 post := by kernel_rfl
theorem fit_ref05_Count : okFn ann_ref05_Count Try.f54 = true := by kernel_rfl
theorem lp_ref05_Count (J : Inv) (post : DV → Prop) : AllG J (loopsFn Try.prog tab S19 ann_ref05_Count J Try.f54 post) = (True) := by kernel_rfl
theorem spec_ref05_Count (b0 b1 b2 b3 b4 b5 : Int) (hp : ((⟨⟨b0, b1, b2⟩, ⟨b3, b4, b5⟩⟩ : TBox)).lo.inS 20 = true ∧ ((⟨⟨b0, b1, b2⟩, ⟨b3, b4, b5⟩⟩ : TBox)).hi.inS 20 = true) : vc_ref05_Count b0 b1 b2 b3 b4 b5 (fun r => LeD r (.t (.c (.v (.int .i64 (((⟨⟨b0, b1, b2⟩, ⟨b3, b4, b5⟩⟩ : TBox)).count)))))) := by
  obtain ⟨a1, a2, a3⟩ := inS_iff.1 hp.1
  obtain ⟨c1, c2, c3⟩ := inS_iff.1 hp.2
  simp only at a1 a2 a3 c1 c2 c3
  unfold vc_ref05_Count
  (repeat' with_reducible first | (refine lt_i ?_; intro _ _) | (refine cond_i ?_ ?_ <;> intro _) | (refine And.intro ?_ ?_))
  all_goals first | decide | skip
  rename_i x1 h1 x2 h2 x3 h3 x4 h4 x5 h5 x6 h6 x7 h7 x8 h8
  rw [IntWalk.i64_in _ (by omega)] at h1
  rw [IntWalk.i64_in _ (by omega)] at h2
  rw [IntWalk.i64_in _ (by omega)] at h3
  rw [IntWalk.i64_in _ (by omega)] at h4
  have m1 := mul_rg (x := x2) (y := x4) (A := 41) (B := 41) (C := 1681) (by omega) (by omega) (by decide)
  rw [IntWalk.i64_in _ (by omega)] at h5
  rw [IntWalk.i64_in _ (by omega)] at h6
  rw [IntWalk.i64_in _ (by omega)] at h7
  have m2 := mul_rg (x := x5) (y := x7) (A := 1681) (B := 41) (C := 68921) (by omega) (by omega) (by decide)
  rw [IntWalk.i64_in _ (by omega)] at h8
  refine LeD.of ?_
  unfold TBox.count
  simp only
  rw [← h8, ← h5, ← h2, ← h4, ← h7, ← h1, ← h3, ← h6]
def con_ref05_Count : Con := fun args => match args with
  | [.t (.a [.v (.int .i64 b0), .v (.int .i64 b1), .v (.int .i64 b2), .v (.int .i64 b3), .v (.int .i64 b4), .v (.int .i64 b5)])] => some (.t (.c (.v (.int .i64 (((⟨⟨b0, b1, b2⟩, ⟨b3, b4, b5⟩⟩ : TBox)).count)))), some (((⟨⟨b0, b1, b2⟩, ⟨b3, b4, b5⟩⟩ : TBox)).lo.inS 20 = true ∧ ((⟨⟨b0, b1, b2⟩, ⟨b3, b4, b5⟩⟩ : TBox)).hi.inS 20 = true), false)
  | _ => none
theorem ok_ref05_Count : Ok Try.prog 54 con_ref05_Count := by
  refine Ok.fn (ann := ann_ref05_Count) mixed tabOK VS19 ValidIt.no (fn := Try.f54) (by kernel_rfl) (by kernel_rfl) fit_ref05_Count fun args r pre fresh h hp => ?_
  unfold con_ref05_Count at h
  split at h
  · rename_i b0 b1 b2 b3 b4 b5
    cases h
    refine ⟨rfl, fun _ _ _ => False, _, LeA.refl _, Nat.le_of_ble_eq_true (by kernel_rfl), ?_, ?_⟩
    · rw [ev_ref05_Count]; exact spec_ref05_Count b0 b1 b2 b3 b4 b5 hp
    · rw [lp_ref05_Count]; trivial
  · cases h
def S20 : Sum := addS S19 54 con_ref05_Count
theorem VS20 : Valid Try.prog S20 := Valid.add VS19 ok_ref05_Count

def vc_ref05_BoxErr (b0 b1 b2 b3 b4 b5 : Int) (post : DV → Prop) : Prop := (0 ≤ (0 : Int) ∧ (0 : Int) < ((3 : Nat) : Int)) ∧ (cond (!(inB b0 (-20) 20)) ((true = true) ∧ (post (.t (.c (.v (.int .i64 2)))))) ((0 ≤ (0 : Int) ∧ (0 : Int) < ((3 : Nat) : Int)) ∧ (cond (!(inB b3 (-20) 20)) (post (.t (.c (.v (.int .i64 2))))) ((0 ≤ (1 : Int) ∧ (1 : Int) < ((3 : Nat) : Int)) ∧ (cond (!(inB b1 (-20) 20)) ((true = true) ∧ (post (.t (.c (.v (.int .i64 2)))))) ((0 ≤ (1 : Int) ∧ (1 : Int) < ((3 : Nat) : Int)) ∧ (cond (!(inB b4 (-20) 20)) (post (.t (.c (.v (.int .i64 2))))) ((0 ≤ (2 : Int) ∧ (2 : Int) < ((3 : Nat) : Int)) ∧ (cond (!(inB b2 (-20) 20)) ((true = true) ∧ (post (.t (.c (.v (.int .i64 2)))))) ((0 ≤ (2 : Int) ∧ (2 : Int) < ((3 : Nat) : Int)) ∧ (cond (!(inB b5 (-20) 20)) (post (.t (.c (.v (.int .i64 2))))) ((0 ≤ (0 : Int) ∧ (0 : Int) < ((3 : Nat) : Int)) ∧ ((0 ≤ (0 : Int) ∧ (0 : Int) < ((3 : Nat) : Int)) ∧ (cond (decide (b0 > b3)) (post (.t (.c (.v (.int .i64 9))))) ((0 ≤ (1 : Int) ∧ (1 : Int) < ((3 : Nat) : Int)) ∧ ((0 ≤ (1 : Int) ∧ (1 : Int) < ((3 : Nat) : Int)) ∧ (cond (decide (b1 > b4)) (post (.t (.c (.v (.int .i64 9))))) ((0 ≤ (2 : Int) ∧ (2 : Int) < ((3 : Nat) : Int)) ∧ ((0 ≤ (2 : Int) ∧ (2 : Int) < ((3 : Nat) : Int)) ∧ (cond (decide (b2 > b5)) (post (.t (.c (.v (.int .i64 9))))) ((((⟨⟨b0, b1, b2⟩, ⟨b3, b4, b5⟩⟩ : TBox)).lo.inS 20 = true ∧ ((⟨⟨b0, b1, b2⟩, ⟨b3, b4, b5⟩⟩ : TBox)).hi.inS 20 = true) ∧ (cond (decide ((((⟨⟨b0, b1, b2⟩, ⟨b3, b4, b5⟩⟩ : TBox)).count) > (700 : Int))) (post (.t (.c (.v (.int .i64 8))))) (post (.t (.c (.v (.int .i64 0)))))))))))))))))))))))))))
def ann_ref05_BoxErr : Ann := ⟨fun r => lookA r [(9, ([[], [], [0, 1], [0, 1, 2], [], [], [4, 5], [4, 5, 6], [0, 1, 2, 3, 4, 5, 6, 7]], [[], [], [], [], [], [], [], [], []]))], fun b => lookA b [(0, (some 4, some ⟨[1, 3], [1], []⟩)), (2, (some 4, some ⟨[1, 4], [1], []⟩))], fun _ => [], noIt, false⟩
theorem ev_ref05_BoxErr (J : Inv) (b0 b1 b2 b3 b4 b5 : Int) (post : DV → Prop) : evFn Try.prog tab S20 ann_ref05_BoxErr J Try.f39 [.t (.a [.v (.int .i64 b0), .v (.int .i64 b1), .v (.int .i64 b2), .v (.int .i64 b3), .v (.int .i64 b4), .v (.int .i64 b5)])] post = vc_ref05_BoxErr b0 b1 b2 b3 b4 b5 post := by kernel_rfl
theorem fit_ref05_BoxErr : okFn ann_ref05_BoxErr Try.f39 = true := by kernel_rfl
theorem lp_ref05_BoxErr (J : Inv) (post : DV → Prop) : AllG J (loopsFn Try.prog tab S20 ann_ref05_BoxErr J Try.f39 post) = (True) := by kernel_rfl
theorem spec_ref05_BoxErr (b0 b1 b2 b3 b4 b5 : Int) : vc_ref05_BoxErr b0 b1 b2 b3 b4 b5 (fun r => LeD r (.t (.c (.v (.int .i64 (((⟨⟨b0, b1, b2⟩, ⟨b3, b4, b5⟩⟩ : TBox)).err)))))) := by
  unfold vc_ref05_BoxErr
  (repeat' with_reducible first | (refine lt_i ?_; intro _ _) | (refine cond_i ?_ ?_ <;> intro _) | (refine And.intro ?_ ?_))
  all_goals first
    | decide
    | (refine leI ?_; simp_all [TBox.err, firstNZ, unl, V3.inS]; done)
    | (simp_all [V3.inS]; done)
    | (refine leI ?_; simp_all [TBox.err, firstNZ, unl, V3.inS]; omega)
def con_ref05_BoxErr : Con := fun args => match args with
  | [.t (.a [.v (.int .i64 b0), .v (.int .i64 b1), .v (.int .i64 b2), .v (.int .i64 b3), .v (.int .i64 b4), .v (.int .i64 b5)])] => some (.t (.c (.v (.int .i64 (((⟨⟨b0, b1, b2⟩, ⟨b3, b4, b5⟩⟩ : TBox)).err)))), none, false)
  | _ => none
theorem ok_ref05_BoxErr : Ok Try.prog 39 con_ref05_BoxErr := by
  refine Ok.fn (ann := ann_ref05_BoxErr) mixed tabOK VS20 ValidIt.no (fn := Try.f39) (by kernel_rfl) (by kernel_rfl) fit_ref05_BoxErr fun args r pre fresh h hp => ?_
  unfold con_ref05_BoxErr at h
  split at h
  · rename_i b0 b1 b2 b3 b4 b5
    cases h
    refine ⟨rfl, fun _ _ _ => False, _, LeA.refl _, Nat.le_of_ble_eq_true (by kernel_rfl), ?_, ?_⟩
    · rw [ev_ref05_BoxErr]; exact spec_ref05_BoxErr b0 b1 b2 b3 b4 b5
    · rw [lp_ref05_BoxErr]; trivial
  · cases h
def S21 : Sum := addS S20 39 con_ref05_BoxErr
theorem VS21 : Valid Try.prog S21 := Valid.add VS20 ok_ref05_BoxErr

def vc_ref05_Answer (m0 m1 m2 m3 m4 m5 m6 m7 m8 m9 m10 m11 : Int) (b0 b1 b2 b3 b4 b5 : Int) (q0 q1 q2 : Int) (n : Int) (post : DV → Prop) : Prop := (0 ≤ (0 : Int) ∧ (0 : Int) < ((3 : Nat) : Int)) ∧ ((0 ≤ (0 : Int) ∧ (0 : Int) < ((3 : Nat) : Int)) ∧ (lt (IntKind.i64.wrap (q0 - m0)) fun x1 => lt (IntKind.i64.wrap (m4 * x1)) fun x2 => lt (IntKind.i64.wrap (n - m3)) fun x3 => lt (IntKind.i64.wrap (x3 * b0)) fun x4 => lt (IntKind.i64.wrap (x2 - x4)) fun x5 => (0 ≤ (0 : Int) ∧ (0 : Int) < ((3 : Nat) : Int)) ∧ ((0 ≤ (0 : Int) ∧ (0 : Int) < ((3 : Nat) : Int)) ∧ (lt (IntKind.i64.wrap (q0 - m0)) fun x6 => lt (IntKind.i64.wrap (m4 * x6)) fun x7 => lt (IntKind.i64.wrap (n - m3)) fun x8 => lt (IntKind.i64.wrap (x8 * b3)) fun x9 => lt (IntKind.i64.wrap (x7 - x9)) fun x10 => lt ((if x10 < x5 then x10 else x5)) fun x11 => lt ((if x10 > x5 then x10 else x5)) fun x12 => lt (IntKind.i64.wrap ((0 : Int) + ((((⟨x11, x12⟩ : Rg) : Rg).timesW (⟨b0, b3⟩ : Rg)).lo))) fun x13 => lt (IntKind.i64.wrap ((0 : Int) + ((((⟨x11, x12⟩ : Rg) : Rg).timesW (⟨b0, b3⟩ : Rg)).hi))) fun x14 => lt (IntKind.i64.wrap ((0 : Int) + ((sqW x11 x12).lo))) fun x15 => lt (IntKind.i64.wrap ((0 : Int) + ((sqW x11 x12).hi))) fun x16 => (0 ≤ (1 : Int) ∧ (1 : Int) < ((3 : Nat) : Int)) ∧ ((0 ≤ (1 : Int) ∧ (1 : Int) < ((3 : Nat) : Int)) ∧ (lt (IntKind.i64.wrap (q1 - m1)) fun x17 => lt (IntKind.i64.wrap (m4 * x17)) fun x18 => lt (IntKind.i64.wrap (n - m3)) fun x19 => lt (IntKind.i64.wrap (x19 * b1)) fun x20 => lt (IntKind.i64.wrap (x18 - x20)) fun x21 => (0 ≤ (1 : Int) ∧ (1 : Int) < ((3 : Nat) : Int)) ∧ ((0 ≤ (1 : Int) ∧ (1 : Int) < ((3 : Nat) : Int)) ∧ (lt (IntKind.i64.wrap (q1 - m1)) fun x22 => lt (IntKind.i64.wrap (m4 * x22)) fun x23 => lt (IntKind.i64.wrap (n - m3)) fun x24 => lt (IntKind.i64.wrap (x24 * b4)) fun x25 => lt (IntKind.i64.wrap (x23 - x25)) fun x26 => lt ((if x26 < x21 then x26 else x21)) fun x27 => lt ((if x26 > x21 then x26 else x21)) fun x28 => lt (IntKind.i64.wrap (x13 + ((((⟨x27, x28⟩ : Rg) : Rg).timesW (⟨b1, b4⟩ : Rg)).lo))) fun x29 => lt (IntKind.i64.wrap (x14 + ((((⟨x27, x28⟩ : Rg) : Rg).timesW (⟨b1, b4⟩ : Rg)).hi))) fun x30 => lt (IntKind.i64.wrap (x15 + ((sqW x27 x28).lo))) fun x31 => lt (IntKind.i64.wrap (x16 + ((sqW x27 x28).hi))) fun x32 => (0 ≤ (2 : Int) ∧ (2 : Int) < ((3 : Nat) : Int)) ∧ ((0 ≤ (2 : Int) ∧ (2 : Int) < ((3 : Nat) : Int)) ∧ (lt (IntKind.i64.wrap (q2 - m2)) fun x33 => lt (IntKind.i64.wrap (m4 * x33)) fun x34 => lt (IntKind.i64.wrap (n - m3)) fun x35 => lt (IntKind.i64.wrap (x35 * b2)) fun x36 => lt (IntKind.i64.wrap (x34 - x36)) fun x37 => (0 ≤ (2 : Int) ∧ (2 : Int) < ((3 : Nat) : Int)) ∧ ((0 ≤ (2 : Int) ∧ (2 : Int) < ((3 : Nat) : Int)) ∧ (lt (IntKind.i64.wrap (q2 - m2)) fun x38 => lt (IntKind.i64.wrap (m4 * x38)) fun x39 => lt (IntKind.i64.wrap (n - m3)) fun x40 => lt (IntKind.i64.wrap (x40 * b5)) fun x41 => lt (IntKind.i64.wrap (x39 - x41)) fun x42 => lt ((if x42 < x37 then x42 else x37)) fun x43 => lt ((if x42 > x37 then x42 else x37)) fun x44 => lt (IntKind.i64.wrap (x29 + ((((⟨x43, x44⟩ : Rg) : Rg).timesW (⟨b2, b5⟩ : Rg)).lo))) fun x45 => lt (IntKind.i64.wrap (x30 + ((((⟨x43, x44⟩ : Rg) : Rg).timesW (⟨b2, b5⟩ : Rg)).hi))) fun x46 => lt (IntKind.i64.wrap (x31 + ((sqW x43 x44).lo))) fun x47 => lt (IntKind.i64.wrap (x32 + ((sqW x43 x44).hi))) fun x48 => lt (IntKind.i64.wrap (m7 * m4)) fun x49 => lt (IntKind.i64.wrap (x49 * m4)) fun x50 => lt ((if m5 > ((sqsW (⟨⟨b0, b1, b2⟩, ⟨b3, b4, b5⟩⟩ : TBox)).lo) then m5 else ((sqsW (⟨⟨b0, b1, b2⟩, ⟨b3, b4, b5⟩⟩ : TBox)).lo))) fun x51 => lt (IntKind.i64.wrap (x51 - x50)) fun x52 => lt ((if m6 < ((sqsW (⟨⟨b0, b1, b2⟩, ⟨b3, b4, b5⟩⟩ : TBox)).hi) then m6 else ((sqsW (⟨⟨b0, b1, b2⟩, ⟨b3, b4, b5⟩⟩ : TBox)).hi))) fun x53 => lt (IntKind.i64.wrap (x53 - x50)) fun x54 => cond (x48 == (0 : Int)) ((true = true) ∧ (post (.t (.c (.v (.int .i64 2)))))) (cond (decide (x46 ≤ (0 : Int))) (lt (IntKind.i64.wrap (x46 * x46)) fun x55 => lt (IntKind.i64.wrap (x54 * x48)) fun x56 => cond (decide (x55 ≥ x56)) (post (.t (.c (.v (.int .i64 2))))) (cond (decide (x47 > (0 : Int))) (cond (decide (x45 > (0 : Int))) ((true = true) ∧ (post (.t (.c (.v (.int .i64 0)))))) (lt (IntKind.i64.wrap (x45 * x45)) fun x57 => lt (IntKind.i64.wrap (x52 * x47)) fun x58 => cond (decide (x57 < x58)) (post (.t (.c (.v (.int .i64 0))))) (post (.t (.c (.v (.int .i64 1))))))) ((false = false) ∧ (post (.t (.c (.v (.int .i64 1)))))))) ((false = false) ∧ (cond (decide (x47 > (0 : Int))) (cond (decide (x45 > (0 : Int))) ((true = true) ∧ (post (.t (.c (.v (.int .i64 0)))))) (lt (IntKind.i64.wrap (x45 * x45)) fun x59 => lt (IntKind.i64.wrap (x52 * x47)) fun x60 => cond (decide (x59 < x60)) (post (.t (.c (.v (.int .i64 0))))) (post (.t (.c (.v (.int .i64 1))))))) ((false = false) ∧ (post (.t (.c (.v (.int .i64 1)))))))))))))))))))))
def ann_ref05_Answer : Ann := ⟨fun r => lookA r [(6, ([[], [0], [], [2], [2, 3], [], [], [5, 6], [5, 6, 7], [2, 3, 4, 5, 6, 7, 8], [0, 1, 2, 3, 4, 5, 6, 7, 8, 9], [], [], [12], [11, 12, 13], [], [15], [11, 12, 13, 14, 15, 16], [0, 1, 2, 3, 4, 5, 6, 7, 8, 9, 10, 11, 12, 13, 14, 15, 16, 17], [], [19], [], [21], [21, 22], [], [], [24, 25], [24, 25, 26], [21, 22, 23, 24, 25, 26, 27], [19, 20, 21, 22, 23, 24, 25, 26, 27, 28], [], [], [31], [30, 31, 32], [], [34], [30, 31, 32, 33, 34, 35], [19, 20, 21, 22, 23, 24, 25, 26, 27, 28, 29, 30, 31, 32, 33, 34, 35, 36], [0, 1, 2, 3, 4, 5, 6, 7, 8, 9, 10, 11, 12, 13, 14, 15, 16, 17, 18], [0, 1, 2, 3, 4, 5, 6, 7, 8, 9, 10, 11, 12, 13, 14, 15, 16, 17, 18, 19, 20, 21, 22, 23, 24, 25, 26, 27, 28, 29, 30, 31, 32, 33, 34, 35, 36, 37, 38]], [[], [], [], [], [], [], [], [], [], [], [], [], [], [], [], [], [], [], [], [], [], [], [], [], [], [], [], [], [], [], [], [], [], [], [], [], [], [], [], []])), (8, ([[], [], [0, 1], [], [0, 1, 2, 3], [], [], [0, 1, 2, 3, 4, 5, 6], [0, 1, 2, 3, 4, 5, 6, 7]], [[16, 17], [16, 17], [16, 17], [16, 17], [16, 17], [17], [16], [], []])), (9, ([[], [0], [], [2], [0, 1, 2, 3], [], [5], [], [7], [5, 6, 7, 8], [0, 1, 2, 3, 4, 5, 6, 7, 8, 9], [], [11], [], [13], [11, 12, 13, 14], [], [16], [], [18], [16, 17, 18, 19], [11, 12, 13, 14, 15, 16, 17, 18, 19, 20], [0, 1, 2, 3, 4, 5, 6, 7, 8, 9, 10], [0, 1, 2, 3, 4, 5, 6, 7, 8, 9, 10, 11, 12, 13, 14, 15, 16, 17, 18, 19, 20, 21, 22]], [[], [], [], [], [], [], [], [], [], [], [], [], [9], [], [9], [], [], [9], [], [9], [], [], [9999, 9], []]))], fun b => lookA b [(0, (some 4, some ⟨[3, 4, 5, 6, 9, 10, 11], [4, 5, 6, 9, 10], []⟩))], fun _ => [], noIt, false⟩
theorem ev_ref05_Answer (J : Inv) (m0 m1 m2 m3 m4 m5 m6 m7 m8 m9 m10 m11 : Int) (b0 b1 b2 b3 b4 b5 : Int) (q0 q1 q2 : Int) (n : Int) (post : DV → Prop) : evFn Try.prog tab S21 ann_ref05_Answer J Try.f42 [.t (.a [.v (.int .i64 m0), .v (.int .i64 m1), .v (.int .i64 m2), .v (.int .i64 m3), .v (.int .i64 m4), .v (.int .i64 m5), .v (.int .i64 m6), .v (.int .i64 m7), .v (.int .i64 m8), .v (.int .i64 m9), .v (.int .i64 m10), .v (.int .i64 m11)]), .t (.a [.v (.int .i64 b0), .v (.int .i64 b1), .v (.int .i64 b2), .v (.int .i64 b3), .v (.int .i64 b4), .v (.int .i64 b5)]), .t (.a [.v (.int .i64 q0), .v (.int .i64 q1), .v (.int .i64 q2)]), .t (.c (.v (.int .i64 n)))] post = vc_ref05_Answer m0 m1 m2 m3 m4 m5 m6 m7 m8 m9 m10 m11 b0 b1 b2 b3 b4 b5 q0 q1 q2 n post := by kernel_rfl
theorem fit_ref05_Answer : okFn ann_ref05_Answer Try.f42 = true := by kernel_rfl
theorem lp_ref05_Answer (J : Inv) (post : DV → Prop) : AllG J (loopsFn Try.prog tab S21 ann_ref05_Answer J Try.f42 post) = (True) := by kernel_rfl
theorem spec_ref05_Answer (m0 m1 m2 m3 m4 m5 m6 m7 m8 m9 m10 m11 : Int) (b0 b1 b2 b3 b4 b5 : Int) (q0 q1 q2 : Int) (n : Int) (hp : ((⟨m0, m1, m2, m3, m4, m5, m6, m7, m8, m9, m10, m11⟩ : TMod)).Ok ∧ ((⟨⟨b0, b1, b2⟩, ⟨b3, b4, b5⟩⟩ : TBox)).lo.inS 20 = true ∧ ((⟨⟨b0, b1, b2⟩, ⟨b3, b4, b5⟩⟩ : TBox)).hi.inS 20 = true ∧ ((⟨m0, m1, m2, m3, m4, m5, m6, m7, m8, m9, m10, m11⟩ : TMod)).canBe (⟨⟨b0, b1, b2⟩, ⟨b3, b4, b5⟩⟩ : TBox) ∧ ((⟨q0, q1, q2⟩ : V3)).inS 1000 = true ∧ -1000101 ≤ n ∧ n ≤ 1000100) : vc_ref05_Answer m0 m1 m2 m3 m4 m5 m6 m7 m8 m9 m10 m11 b0 b1 b2 b3 b4 b5 q0 q1 q2 n (fun r => LeD r (.t (.c (.v (.int .i64 (((⟨m0, m1, m2, m3, m4, m5, m6, m7, m8, m9, m10, m11⟩ : TMod)).ans (⟨⟨b0, b1, b2⟩, ⟨b3, b4, b5⟩⟩ : TBox) (⟨q0, q1, q2⟩ : V3) n)))))) := by
  obtain ⟨ho, hl, hh, hc, hp, ht1, ht2⟩ := hp
  obtain ⟨a1, a2, a3⟩ := inS_iff.1 hl
  obtain ⟨c1, c2, c3⟩ := inS_iff.1 hh
  obtain ⟨d1, d2, d3⟩ := inS_iff.1 hp
  simp only at a1 a2 a3 c1 c2 c3 d1 d2 d3
  have hA : -1010101 ≤ n - m3 ∧ n - m3 ≤ 1010101 := by have := ho.tm; simp only at this; omega
  obtain ⟨_, _, _, _, _, _, _, bP, bL, bl0, bl1⟩ := stg3 ho hl hh hp ⟨ht1, ht2⟩
  have zb : (⟨0, 0⟩ : Rg).bd 0 := by unfold Rg.bd; simp
  obtain ⟨f1, f2, f3, f4⟩ := fast_bd ho hl hh hc
  unfold vc_ref05_Answer
  (repeat' with_reducible first | (refine lt_i ?_; intro _ _) | (refine And.intro ?_ ?_))
  all_goals first | decide | skip
  rename_i x1 h1 x2 h2 x3 h3 x4 h4 x5 h5 x6 h6 x7 h7 x8 h8 x9 h9 x10 h10 x11 h11 x12 h12 x13 h13 x14 h14 x15 h15 x16 h16 x17 h17 x18 h18 x19 h19 x20 h20 x21 h21 x22 h22 x23 h23 x24 h24 x25 h25 x26 h26 x27 h27 x28 h28 x29 h29 x30 h30 x31 h31 x32 h32 x33 h33 x34 h34 x35 h35 x36 h36 x37 h37 x38 h38 x39 h39 x40 h40 x41 h41 x42 h42 x43 h43 x44 h44 x45 h45 x46 h46 x47 h47 x48 h48 x49 h49 x50 h50 x51 h51 x52 h52 x53 h53 x54 h54
  obtain ⟨p1, p2, p3, p4, u1, v1⟩ := coord (d := q0 - m0) (A := n - m3) (r := ⟨b0, b3⟩) (P := ⟨0, 0⟩) (L := ⟨0, 0⟩) ho.tk (by have := ho.px; simp only at this; omega) hA ⟨a1, c1⟩ (bw (by decide) zb) (bw (by decide) zb) rfl rfl h1 h2 h3 h4 h5 h6 h7 h8 h9 h10 h11 h12 h13 h14 h15 h16
  subst p1 p2 p3 p4
  have P1 := Rg.plus_bd zb u1 (C := 404840400) (by decide)
  have L1 := Rg.plus_bd zb v1 (C := 409739373680400) (by decide)
  obtain ⟨p1, p2, p3, p4, u2, v2⟩ := coord (d := q1 - m1) (A := n - m3) (r := ⟨b1, b4⟩) ho.tk (by have := ho.py; simp only at this; omega) hA ⟨a2, c2⟩ (bw (by decide) P1) (bw (by decide) L1) rfl rfl h17 h18 h19 h20 h21 h22 h23 h24 h25 h26 h27 h28 h29 h30 h31 h32
  subst p1 p2 p3 p4
  have P2 := Rg.plus_bd P1 u2 (C := 809680800) (by decide)
  have L2 := Rg.plus_bd L1 v2 (C := 819478747360800) (by decide)
  obtain ⟨p1, p2, p3, p4, u3, v3⟩ := coord (d := q2 - m2) (A := n - m3) (r := ⟨b2, b5⟩) ho.tk (by have := ho.pz; simp only at this; omega) hA ⟨a3, c3⟩ (bw (by decide) P2) (bw (by decide) L2) rfl rfl h33 h34 h35 h36 h37 h38 h39 h40 h41 h42 h43 h44 h45 h46 h47 h48
  have e1 : x45 = ((⟨m0, m1, m2, m3, m4, m5, m6, m7, m8, m9, m10, m11⟩ : TMod).prodR (⟨⟨b0, b1, b2⟩, ⟨b3, b4, b5⟩⟩ : TBox) (⟨q0, q1, q2⟩ : V3) n).lo := p1
  have e2 : x46 = ((⟨m0, m1, m2, m3, m4, m5, m6, m7, m8, m9, m10, m11⟩ : TMod).prodR (⟨⟨b0, b1, b2⟩, ⟨b3, b4, b5⟩⟩ : TBox) (⟨q0, q1, q2⟩ : V3) n).hi := p2
  have e3 : x47 = ((⟨m0, m1, m2, m3, m4, m5, m6, m7, m8, m9, m10, m11⟩ : TMod).leftR (⟨⟨b0, b1, b2⟩, ⟨b3, b4, b5⟩⟩ : TBox) (⟨q0, q1, q2⟩ : V3) n).lo := p3
  have e4 : x48 = ((⟨m0, m1, m2, m3, m4, m5, m6, m7, m8, m9, m10, m11⟩ : TMod).leftR (⟨⟨b0, b1, b2⟩, ⟨b3, b4, b5⟩⟩ : TBox) (⟨q0, q1, q2⟩ : V3) n).hi := p4
  have k1 := ho.tk; have k2 := ho.li
  have hsl := ho.slo; have hsp := ho.slp
  simp only at k1 k2
  have k3 := mul_rg (x := m7) (y := m4) (A := 100) (B := 20) (C := 2000) (by omega) (by omega) (by decide)
  rw [IntWalk.i64_in _ (by omega)] at h49
  subst h49
  have k4 := mul_rg (x := m7 * m4) (y := m4) (A := 2000) (B := 20) (C := 40000) k3 (by omega) (by decide)
  rw [IntWalk.i64_in _ (by omega)] at h50
  have e50 : x50 = (⟨m0, m1, m2, m3, m4, m5, m6, m7, m8, m9, m10, m11⟩ : TMod).slow := h50.symm
  rw [sqsW_eq hl hh, mx_if] at h51
  rw [sqsW_eq hl hh, mn_if] at h53
  have e52 : x52 = ((⟨m0, m1, m2, m3, m4, m5, m6, m7, m8, m9, m10, m11⟩ : TMod).fast (⟨⟨b0, b1, b2⟩, ⟨b3, b4, b5⟩⟩ : TBox)).lo := by rw [← f3, ← h52, ← h51, e50]
  have e54 : x54 = ((⟨m0, m1, m2, m3, m4, m5, m6, m7, m8, m9, m10, m11⟩ : TMod).fast (⟨⟨b0, b1, b2⟩, ⟨b3, b4, b5⟩⟩ : TBox)).hi := by rw [← f4, ← h54, ← h53, e50]
  have eA : (⟨m0, m1, m2, m3, m4, m5, m6, m7, m8, m9, m10, m11⟩ : TMod).ans (⟨⟨b0, b1, b2⟩, ⟨b3, b4, b5⟩⟩ : TBox) (⟨q0, q1, q2⟩ : V3) n = ansR ⟨x45, x46⟩ ⟨x47, x48⟩ ⟨x52, x54⟩ := by
    unfold TMod.ans; rw [e1, e2, e3, e4, e52, e54]
  rw [← e52] at f1
  rw [← e54] at f2
  obtain ⟨⟨y1, y2⟩, ⟨y3, y4⟩⟩ := bP
  obtain ⟨⟨z1, z2⟩, ⟨z3, z4⟩⟩ := bL
  rw [← e1] at y1 y2
  rw [← e2] at y3 y4
  rw [← e3] at z1 z2
  rw [← e4] at z3 z4
  rw [eA]
  clear eA e1 e2 e3 e4 e50 e52 e54
  have g1 := mul_rg (x := x46) (y := x46) (A := 1214521200) (B := 1214521200) (C := 2000000000000000000) (by omega) (by omega) (by decide)
  have g2 := mul_rg (x := x54) (y := x48) (A := 1200) (B := 1229218121041200) (C := 2000000000000000000) (by omega) (by omega) (by decide)
  have g3 := mul_rg (x := x45) (y := x45) (A := 1214521200) (B := 1214521200) (C := 2000000000000000000) (by omega) (by omega) (by decide)
  have g4 := mul_rg (x := x52) (y := x47) (A := 1200) (B := 1229218121041200) (C := 2000000000000000000) (by omega) (by omega) (by decide)
  have w1 : IntKind.i64.wrap (x46 * x46) = x46 * x46 := IntWalk.i64_in _ (by omega)
  have w2 : IntKind.i64.wrap (x54 * x48) = x54 * x48 := IntWalk.i64_in _ (by omega)
  have w3 : IntKind.i64.wrap (x45 * x45) = x45 * x45 := IntWalk.i64_in _ (by omega)
  have w4 : IntKind.i64.wrap (x52 * x47) = x52 * x47 := IntWalk.i64_in _ (by omega)
  rw [w1, w2, w3, w4]
  unfold ansR
  simp only
  generalize x46 * x46 = X1 at *
  generalize x54 * x48 = X2 at *
  generalize x45 * x45 = X3 at *
  generalize x52 * x47 = X4 at *
  (repeat' with_reducible first | (refine lt_i ?_; intro _ _) | (refine cond_i ?_ ?_ <;> intro _) | (refine And.intro ?_ ?_))
  all_goals first
    | decide
    | (refine leI ?_; simp only [beq_iff_eq, beq_eq_false_iff_ne, ne_eq, decide_eq_true_eq, decide_eq_false_iff_not] at *; (repeat' split) <;> omega)
def con_ref05_Answer : Con := fun args => match args with
  | [.t (.a [.v (.int .i64 m0), .v (.int .i64 m1), .v (.int .i64 m2), .v (.int .i64 m3), .v (.int .i64 m4), .v (.int .i64 m5), .v (.int .i64 m6), .v (.int .i64 m7), .v (.int .i64 m8), .v (.int .i64 m9), .v (.int .i64 m10), .v (.int .i64 m11)]), .t (.a [.v (.int .i64 b0), .v (.int .i64 b1), .v (.int .i64 b2), .v (.int .i64 b3), .v (.int .i64 b4), .v (.int .i64 b5)]), .t (.a [.v (.int .i64 q0), .v (.int .i64 q1), .v (.int .i64 q2)]), .t (.c (.v (.int .i64 n)))] => some (.t (.c (.v (.int .i64 (((⟨m0, m1, m2, m3, m4, m5, m6, m7, m8, m9, m10, m11⟩ : TMod)).ans (⟨⟨b0, b1, b2⟩, ⟨b3, b4, b5⟩⟩ : TBox) (⟨q0, q1, q2⟩ : V3) n)))), some (((⟨m0, m1, m2, m3, m4, m5, m6, m7, m8, m9, m10, m11⟩ : TMod)).Ok ∧ ((⟨⟨b0, b1, b2⟩, ⟨b3, b4, b5⟩⟩ : TBox)).lo.inS 20 = true ∧ ((⟨⟨b0, b1, b2⟩, ⟨b3, b4, b5⟩⟩ : TBox)).hi.inS 20 = true ∧ ((⟨m0, m1, m2, m3, m4, m5, m6, m7, m8, m9, m10, m11⟩ : TMod)).canBe (⟨⟨b0, b1, b2⟩, ⟨b3, b4, b5⟩⟩ : TBox) ∧ ((⟨q0, q1, q2⟩ : V3)).inS 1000 = true ∧ -1000101 ≤ n ∧ n ≤ 1000100), false)
  | _ => none
theorem ok_ref05_Answer : Ok Try.prog 42 con_ref05_Answer := by
  refine Ok.fn (ann := ann_ref05_Answer) mixed tabOK VS21 ValidIt.no (fn := Try.f42) (by kernel_rfl) (by kernel_rfl) fit_ref05_Answer fun args r pre fresh h hp => ?_
  unfold con_ref05_Answer at h
  split at h
  · rename_i m0 m1 m2 m3 m4 m5 m6 m7 m8 m9 m10 m11 b0 b1 b2 b3 b4 b5 q0 q1 q2 n
    cases h
    refine ⟨rfl, fun _ _ _ => False, _, LeA.refl _, Nat.le_of_ble_eq_true (by kernel_rfl), ?_, ?_⟩
    · rw [ev_ref05_Answer]; exact spec_ref05_Answer m0 m1 m2 m3 m4 m5 m6 m7 m8 m9 m10 m11 b0 b1 b2 b3 b4 b5 q0 q1 q2 n hp
    · rw [lp_ref05_Answer]; trivial
  · cases h
def S22 : Sum := addS S21 42 con_ref05_Answer
theorem VS22 : Valid Try.prog S22 := Valid.add VS21 ok_ref05_Answer

end Go.Proofs.Ytlmdmpjfehpjeaa

/- Tracks, by the checker: answers asked for. -/
set_option linter.unusedVariables false
set_option linter.unusedSimpArgs false
namespace Go.Proofs.Ytlmdmpjfehpjeaa
open Go.RowKit Ev

theorem fn3 {a b c : Int} (h : firstNZ [a, b, c] = 0) : a = 0 ∧ b = 0 ∧ c = 0 := by
  simp only [firstNZ] at h
  by_cases h1 : a = 0 <;> by_cases h2 : b = 0 <;> by_cases h3 : c = 0 <;> simp_all
theorem fn2 {a b : Int} (h : firstNZ [a, b] = 0) : a = 0 ∧ b = 0 := by
  simp only [firstNZ] at h
  by_cases h1 : a = 0 <;> by_cases h2 : b = 0 <;> simp_all
theorem unl_0 {b : Bool} {n : Int} (h : n ≠ 0) : unl b n = 0 ↔ b = true := by cases b <;> simp [unl, h]
theorem box_in {b : TBox} (h : b.err = 0) : b.lo.inS 20 = true ∧ b.hi.inS 20 = true := by
  unfold TBox.err at h
  obtain ⟨h1, _⟩ := fn3 h
  rw [unl_0 (by decide)] at h1
  simpa using h1
theorem mom_ok {p : V3} {t : Int} (h : momE p t = 0) : p.inS 1000 = true ∧ -1000101 ≤ t ∧ t ≤ 1000100 := by
  unfold momE at h
  obtain ⟨h1, h2⟩ := fn2 h
  rw [unl_0 (by decide)] at h2
  unfold plE at h1
  rw [unl_0 (by decide)] at h1
  unfold inB at h2
  simp at h2
  exact ⟨h1, by omega, by omega⟩
def vc_track_ends_square (r0 r1 : Int) (post : DV → Prop) : Prop := lt (IntKind.i64.wrap (r0 * r0)) fun x1 => lt (IntKind.i64.wrap (r1 * r1)) fun x2 => cond (decide (r0 ≤ (0 : Int))) (cond (decide (r1 ≥ (0 : Int))) (lt ((if x2 > x1 then x2 else x1)) fun x3 => post (.t (.a [.v (.int .i64 0), .v (.int .i64 x3)]))) (lt ((if x2 < x1 then x2 else x1)) fun x4 => lt ((if x2 > x1 then x2 else x1)) fun x5 => post (.t (.a [.v (.int .i64 x4), .v (.int .i64 x5)])))) ((false = false) ∧ (lt ((if x2 < x1 then x2 else x1)) fun x6 => lt ((if x2 > x1 then x2 else x1)) fun x7 => post (.t (.a [.v (.int .i64 x6), .v (.int .i64 x7)]))))
def ann_track_ends_square : Ann := ⟨fun r => lookA r [(1, ([[], [0], [], [2], [0, 1, 2, 3], [], [5], [], [7], [5, 6, 7, 8], [0, 1, 2, 3, 4], [0, 1, 2, 3, 4, 5, 6, 7, 8, 9, 10]], [[], [], [], [], [], [], [], [], [], [], [], []]))], fun _ => none, fun _ => [], noIt, false⟩
theorem ev_track_ends_square (J : Inv) (r0 r1 : Int) (post : DV → Prop) : evFn Try.prog tab S22 ann_track_ends_square J Try.f130 [.t (.a [.v (.int .i64 r0), .v (.int .i64 r1)])] post = vc_track_ends_square r0 r1 post := by kernel_rfl
theorem fit_track_ends_square : okFn ann_track_ends_square Try.f130 = true := by kernel_rfl
theorem lp_track_ends_square (J : Inv) (post : DV → Prop) : AllG J (loopsFn Try.prog tab S22 ann_track_ends_square J Try.f130 post) = (True) := by kernel_rfl
theorem spec_track_ends_square (r0 r1 : Int) : vc_track_ends_square r0 r1 (fun r => LeD r (.t (.a [.v (.int .i64 ((sqW r0 r1).lo)), .v (.int .i64 ((sqW r0 r1).hi))]))) := by
  unfold vc_track_ends_square
  refine lt_i fun x1 h1 => lt_i fun x2 h2 => ?_
  subst h1; subst h2
  refine cond_i (fun h => ?_) (fun h => ?_)
  · have h := of_decide_eq_true h
    refine cond_i (fun g => lt_i fun x hx => LeD.of ?_) (fun g => lt_i fun x hx => lt_i fun y hy => LeD.of ?_)
    · have g := of_decide_eq_true g
      unfold sqW
      rw [if_pos ⟨h, g⟩, ← hx]
      congr 6
      simp only
      rw [mx_if]
    · have g := of_decide_eq_false g
      unfold sqW
      rw [if_neg (fun q => g q.2), ← hx, ← hy]
      simp only [mn_if, mx_if]
  · have h := of_decide_eq_false h
    refine ⟨rfl, lt_i fun x hx => lt_i fun y hy => LeD.of ?_⟩
    unfold sqW
    rw [if_neg (fun q => h q.1), ← hx, ← hy]
    simp only [mn_if, mx_if]
def con_track_ends_square : Con := fun args => match args with
  | [.t (.a [.v (.int .i64 r0), .v (.int .i64 r1)])] => some (.t (.a [.v (.int .i64 ((sqW r0 r1).lo)), .v (.int .i64 ((sqW r0 r1).hi))]), none, false)
  | _ => none
theorem ok_track_ends_square : Ok Try.prog 130 con_track_ends_square := by
  refine Ok.fn (ann := ann_track_ends_square) mixed tabOK VS22 ValidIt.no (fn := Try.f130) (by kernel_rfl) (by kernel_rfl) fit_track_ends_square fun args r pre fresh h hp => ?_
  unfold con_track_ends_square at h
  split at h
  · rename_i r0 r1
    cases h
    refine ⟨rfl, fun _ _ _ => False, _, LeA.refl _, Nat.le_of_ble_eq_true (by kernel_rfl), ?_, ?_⟩
    · rw [ev_track_ends_square]; exact spec_track_ends_square r0 r1
    · rw [lp_track_ends_square]; trivial
  · cases h
def S23 : Sum := addS S22 130 con_track_ends_square
theorem VS23 : Valid Try.prog S23 := Valid.add VS22 ok_track_ends_square

def vc_track_ends_plus (r0 r1 : Int) (s0 s1 : Int) (post : DV → Prop) : Prop := lt (IntKind.i64.wrap (r0 + s0)) fun x1 => lt (IntKind.i64.wrap (r1 + s1)) fun x2 => post (.t (.a [.v (.int .i64 x1), .v (.int .i64 x2)]))
def ann_track_ends_plus : Ann := ⟨fun _ => none, fun _ => none, fun _ => [], noIt, false⟩
theorem ev_track_ends_plus (J : Inv) (r0 r1 : Int) (s0 s1 : Int) (post : DV → Prop) : evFn Try.prog tab S23 ann_track_ends_plus J Try.f129 [.t (.a [.v (.int .i64 r0), .v (.int .i64 r1)]), .t (.a [.v (.int .i64 s0), .v (.int .i64 s1)])] post = vc_track_ends_plus r0 r1 s0 s1 post := by kernel_rfl
theorem fit_track_ends_plus : okFn ann_track_ends_plus Try.f129 = true := by kernel_rfl
theorem lp_track_ends_plus (J : Inv) (post : DV → Prop) : AllG J (loopsFn Try.prog tab S23 ann_track_ends_plus J Try.f129 post) = (True) := by kernel_rfl
theorem spec_track_ends_plus (r0 r1 : Int) (s0 s1 : Int) : vc_track_ends_plus r0 r1 s0 s1 (fun r => LeD r (.t (.a [.v (.int .i64 ((((⟨r0, r1⟩ : Rg) : Rg).plusW (⟨s0, s1⟩ : Rg)).lo)), .v (.int .i64 ((((⟨r0, r1⟩ : Rg) : Rg).plusW (⟨s0, s1⟩ : Rg)).hi))]))) := by
  unfold vc_track_ends_plus
  (repeat' with_reducible first | (refine lt_i ?_; intro _ _) | (refine cond_i ?_ ?_ <;> intro _) | (refine And.intro (by decide) ?_))
  subst_vars
  exact LeD.refl _
def con_track_ends_plus : Con := fun args => match args with
  | [.t (.a [.v (.int .i64 r0), .v (.int .i64 r1)]), .t (.a [.v (.int .i64 s0), .v (.int .i64 s1)])] => some (.t (.a [.v (.int .i64 ((((⟨r0, r1⟩ : Rg) : Rg).plusW (⟨s0, s1⟩ : Rg)).lo)), .v (.int .i64 ((((⟨r0, r1⟩ : Rg) : Rg).plusW (⟨s0, s1⟩ : Rg)).hi))]), none, false)
  | _ => none
theorem ok_track_ends_plus : Ok Try.prog 129 con_track_ends_plus := by
  refine Ok.fn (ann := ann_track_ends_plus) mixed tabOK VS23 ValidIt.no (fn := Try.f129) (by kernel_rfl) (by kernel_rfl) fit_track_ends_plus fun args r pre fresh h hp => ?_
  unfold con_track_ends_plus at h
  split at h
  · rename_i r0 r1 s0 s1
    cases h
    refine ⟨rfl, fun _ _ _ => False, _, LeA.refl _, Nat.le_of_ble_eq_true (by kernel_rfl), ?_, ?_⟩
    · rw [ev_track_ends_plus]; exact spec_track_ends_plus r0 r1 s0 s1
    · rw [lp_track_ends_plus]; trivial
  · cases h
def S24 : Sum := addS S23 129 con_track_ends_plus
theorem VS24 : Valid Try.prog S24 := Valid.add VS23 ok_track_ends_plus

def vc_track_model_squares (m0 m1 m2 m3 m4 m5 m6 m7 m8 m9 m10 m11 : Int) (b0 b1 b2 b3 b4 b5 : Int) (post : DV → Prop) : Prop := (0 ≤ (0 : Int) ∧ (0 : Int) < ((3 : Nat) : Int)) ∧ ((0 ≤ (0 : Int) ∧ (0 : Int) < ((3 : Nat) : Int)) ∧ (lt ((sqW b0 b3).lo) fun x1 => lt ((sqW b0 b3).hi) fun x2 => lt ((((⟨(0 : Int), (0 : Int)⟩ : Rg) : Rg).plusW (⟨x1, x2⟩ : Rg)).lo) fun x3 => lt ((((⟨(0 : Int), (0 : Int)⟩ : Rg) : Rg).plusW (⟨x1, x2⟩ : Rg)).hi) fun x4 => (0 ≤ (1 : Int) ∧ (1 : Int) < ((3 : Nat) : Int)) ∧ ((0 ≤ (1 : Int) ∧ (1 : Int) < ((3 : Nat) : Int)) ∧ (lt ((sqW b1 b4).lo) fun x5 => lt ((sqW b1 b4).hi) fun x6 => lt ((((⟨x3, x4⟩ : Rg) : Rg).plusW (⟨x5, x6⟩ : Rg)).lo) fun x7 => lt ((((⟨x3, x4⟩ : Rg) : Rg).plusW (⟨x5, x6⟩ : Rg)).hi) fun x8 => (0 ≤ (2 : Int) ∧ (2 : Int) < ((3 : Nat) : Int)) ∧ ((0 ≤ (2 : Int) ∧ (2 : Int) < ((3 : Nat) : Int)) ∧ (lt ((sqW b2 b5).lo) fun x9 => lt ((sqW b2 b5).hi) fun x10 => lt ((((⟨x7, x8⟩ : Rg) : Rg).plusW (⟨x9, x10⟩ : Rg)).lo) fun x11 => lt ((((⟨x7, x8⟩ : Rg) : Rg).plusW (⟨x9, x10⟩ : Rg)).hi) fun x12 => cond (decide (x12 ≥ m5)) (post (.tu [.a [.v (.int .i64 x11), .v (.int .i64 x12)], .c (.v (.bool (decide (x11 ≤ m6))))])) ((false = false) ∧ (post (.tu [.a [.v (.int .i64 x11), .v (.int .i64 x12)], .c (.v (.bool false))])))))))))
def ann_track_model_squares : Ann := ⟨fun r => lookA r [(5, ([[], [], [], [1, 2], [1, 2, 3], [], [], [5, 6], [5, 6, 7], [1, 2, 3, 4, 5, 6, 7, 8], [1, 2, 3, 4, 5, 6, 7, 8, 9], [0, 1, 2, 3, 4, 5, 6, 7, 8, 9, 10], [0, 1, 2, 3, 4, 5, 6, 7, 8, 9, 10, 11]], [[], [], [], [], [], [], [], [], [], [], [], [], []])), (7, ([[], [], [1], [], [3], [3, 4], [3, 4, 5], [1, 2, 3, 4, 5, 6], [1, 2, 3, 4, 5, 6, 7], [1, 2, 3, 4, 5, 6, 7, 8], [1, 2, 3, 4, 5, 6, 7, 8, 9], [1, 2, 3, 4, 5, 6, 7, 8], [1, 2, 3, 4, 5, 6, 7, 8, 11], [1, 2, 3, 4, 5, 6, 7, 8, 11, 12], [1, 2, 3, 4, 5, 6, 7, 8, 11, 12, 13], [1, 2, 3, 4, 5, 6, 7, 8, 9, 10, 11, 12, 13, 14], [1, 2, 3, 4, 5, 6, 7, 8, 9, 10, 11, 12, 13, 14, 15], [0, 1, 2, 3, 4, 5, 6, 7, 8], [0, 1, 2, 3, 4, 5, 6, 7, 8, 9, 10, 11, 12, 13, 14, 15, 16, 17]], [[], [], [], [], [], [], [], [], [], [], [4], [], [], [], [4], [], [], [9999, 4], []]))], fun b => lookA b [(0, (some 4, some ⟨[2, 3, 4, 6, 8], [2, 3, 4, 6], []⟩))], fun _ => [], noIt, false⟩
theorem ev_track_model_squares (J : Inv) (m0 m1 m2 m3 m4 m5 m6 m7 m8 m9 m10 m11 : Int) (b0 b1 b2 b3 b4 b5 : Int) (post : DV → Prop) : evFn Try.prog tab S24 ann_track_model_squares J Try.f93 [.t (.a [.v (.int .i64 m0), .v (.int .i64 m1), .v (.int .i64 m2), .v (.int .i64 m3), .v (.int .i64 m4), .v (.int .i64 m5), .v (.int .i64 m6), .v (.int .i64 m7), .v (.int .i64 m8), .v (.int .i64 m9), .v (.int .i64 m10), .v (.int .i64 m11)]), .t (.a [.v (.int .i64 b0), .v (.int .i64 b1), .v (.int .i64 b2), .v (.int .i64 b3), .v (.int .i64 b4), .v (.int .i64 b5)])] post = vc_track_model_squares m0 m1 m2 m3 m4 m5 m6 m7 m8 m9 m10 m11 b0 b1 b2 b3 b4 b5 post := by kernel_rfl
theorem fit_track_model_squares : okFn ann_track_model_squares Try.f93 = true := by kernel_rfl
theorem lp_track_model_squares (J : Inv) (post : DV → Prop) : AllG J (loopsFn Try.prog tab S24 ann_track_model_squares J Try.f93 post) = (True) := by kernel_rfl
theorem spec_track_model_squares (m0 m1 m2 m3 m4 m5 m6 m7 m8 m9 m10 m11 : Int) (b0 b1 b2 b3 b4 b5 : Int) : vc_track_model_squares m0 m1 m2 m3 m4 m5 m6 m7 m8 m9 m10 m11 b0 b1 b2 b3 b4 b5 (fun r => LeD r (.tu [.a [.v (.int .i64 ((sqsW (⟨⟨b0, b1, b2⟩, ⟨b3, b4, b5⟩⟩ : TBox)).lo)), .v (.int .i64 ((sqsW (⟨⟨b0, b1, b2⟩, ⟨b3, b4, b5⟩⟩ : TBox)).hi))], .c (.v (.bool (canW (⟨m0, m1, m2, m3, m4, m5, m6, m7, m8, m9, m10, m11⟩ : TMod) (⟨⟨b0, b1, b2⟩, ⟨b3, b4, b5⟩⟩ : TBox))))])) := by
  unfold vc_track_model_squares
  (repeat' with_reducible first | (refine lt_i ?_; intro _ _) | (refine cond_i ?_ ?_ <;> intro _) | (refine And.intro (by decide) ?_))
  all_goals subst_vars
  all_goals refine LeD.of ?_
  all_goals unfold sqsW canW sqsW
  all_goals simp only [*]
  all_goals first | rfl | simp_all
def con_track_model_squares : Con := fun args => match args with
  | [.t (.a [.v (.int .i64 m0), .v (.int .i64 m1), .v (.int .i64 m2), .v (.int .i64 m3), .v (.int .i64 m4), .v (.int .i64 m5), .v (.int .i64 m6), .v (.int .i64 m7), .v (.int .i64 m8), .v (.int .i64 m9), .v (.int .i64 m10), .v (.int .i64 m11)]), .t (.a [.v (.int .i64 b0), .v (.int .i64 b1), .v (.int .i64 b2), .v (.int .i64 b3), .v (.int .i64 b4), .v (.int .i64 b5)])] => some (.tu [.a [.v (.int .i64 ((sqsW (⟨⟨b0, b1, b2⟩, ⟨b3, b4, b5⟩⟩ : TBox)).lo)), .v (.int .i64 ((sqsW (⟨⟨b0, b1, b2⟩, ⟨b3, b4, b5⟩⟩ : TBox)).hi))], .c (.v (.bool (canW (⟨m0, m1, m2, m3, m4, m5, m6, m7, m8, m9, m10, m11⟩ : TMod) (⟨⟨b0, b1, b2⟩, ⟨b3, b4, b5⟩⟩ : TBox))))], none, false)
  | _ => none
theorem ok_track_model_squares : Ok Try.prog 93 con_track_model_squares := by
  refine Ok.fn (ann := ann_track_model_squares) mixed tabOK VS24 ValidIt.no (fn := Try.f93) (by kernel_rfl) (by kernel_rfl) fit_track_model_squares fun args r pre fresh h hp => ?_
  unfold con_track_model_squares at h
  split at h
  · rename_i m0 m1 m2 m3 m4 m5 m6 m7 m8 m9 m10 m11 b0 b1 b2 b3 b4 b5
    cases h
    refine ⟨rfl, fun _ _ _ => False, _, LeA.refl _, Nat.le_of_ble_eq_true (by kernel_rfl), ?_, ?_⟩
    · rw [ev_track_model_squares]; exact spec_track_model_squares m0 m1 m2 m3 m4 m5 m6 m7 m8 m9 m10 m11 b0 b1 b2 b3 b4 b5
    · rw [lp_track_model_squares]; trivial
  · cases h
def S25 : Sum := addS S24 93 con_track_model_squares
theorem VS25 : Valid Try.prog S25 := Valid.add VS24 ok_track_model_squares

def vc_track_AnswerIn (m0 m1 m2 m3 m4 m5 m6 m7 m8 m9 m10 m11 : Int) (b0 b1 b2 b3 b4 b5 : Int) (p0 p1 p2 p3 : Int) (post : DV → Prop) : Prop := lt ((sqsW (⟨⟨b0, b1, b2⟩, ⟨b3, b4, b5⟩⟩ : TBox)).lo) fun x1 => lt ((sqsW (⟨⟨b0, b1, b2⟩, ⟨b3, b4, b5⟩⟩ : TBox)).hi) fun x2 => lt (canW (⟨m0, m1, m2, m3, m4, m5, m6, m7, m8, m9, m10, m11⟩ : TMod) (⟨⟨b0, b1, b2⟩, ⟨b3, b4, b5⟩⟩ : TBox)) fun x3 => (numsP 1 3 (genC [[.v (.int .i64 (firstNZ [((⟨m0, m1, m2, m3, m4, m5, m6, m7, m8, m9, m10, m11⟩ : TMod)).err, ((⟨⟨b0, b1, b2⟩, ⟨b3, b4, b5⟩⟩ : TBox)).err]))], [.v (.int .i64 (momE ⟨p0, p1, p2⟩ p3))], [.v (.int .i64 (unl x3 (12 : Int)))]])) ∧ (cond ((firstNZ ([(firstNZ [((⟨m0, m1, m2, m3, m4, m5, m6, m7, m8, m9, m10, m11⟩ : TMod)).err, ((⟨⟨b0, b1, b2⟩, ⟨b3, b4, b5⟩⟩ : TBox)).err]), (momE ⟨p0, p1, p2⟩ p3), (unl x3 (12 : Int))] : List Int)) != (0 : Int)) (post (.tu [.c (.v (.int .i64 0)), .c (.v (.int .i64 (firstNZ ([(firstNZ [((⟨m0, m1, m2, m3, m4, m5, m6, m7, m8, m9, m10, m11⟩ : TMod)).err, ((⟨⟨b0, b1, b2⟩, ⟨b3, b4, b5⟩⟩ : TBox)).err]), (momE ⟨p0, p1, p2⟩ p3), (unl x3 (12 : Int))] : List Int))))])) ((((⟨m0, m1, m2, m3, m4, m5, m6, m7, m8, m9, m10, m11⟩ : TMod)).Ok ∧ ((⟨⟨b0, b1, b2⟩, ⟨b3, b4, b5⟩⟩ : TBox)).lo.inS 20 = true ∧ ((⟨⟨b0, b1, b2⟩, ⟨b3, b4, b5⟩⟩ : TBox)).hi.inS 20 = true ∧ ((⟨m0, m1, m2, m3, m4, m5, m6, m7, m8, m9, m10, m11⟩ : TMod)).canBe (⟨⟨b0, b1, b2⟩, ⟨b3, b4, b5⟩⟩ : TBox) ∧ (⟨p0, p1, p2⟩ : V3).inS 1000 = true ∧ -1000101 ≤ p3 ∧ p3 ≤ 1000100) ∧ (post (.tu [.c (.v (.int .i64 (((⟨m0, m1, m2, m3, m4, m5, m6, m7, m8, m9, m10, m11⟩ : TMod)).ans (⟨⟨b0, b1, b2⟩, ⟨b3, b4, b5⟩⟩ : TBox) ⟨p0, p1, p2⟩ p3))), .c (.v (.int .i64 0))]))))
def ann_track_AnswerIn : Ann := ⟨fun _ => none, fun _ => none, fun _ => [], noIt, false⟩
theorem ev_track_AnswerIn (J : Inv) (m0 m1 m2 m3 m4 m5 m6 m7 m8 m9 m10 m11 : Int) (b0 b1 b2 b3 b4 b5 : Int) (p0 p1 p2 p3 : Int) (post : DV → Prop) : evFn Try.prog tab S25 ann_track_AnswerIn J Try.f37 [.t (.a [.v (.int .i64 m0), .v (.int .i64 m1), .v (.int .i64 m2), .v (.int .i64 m3), .v (.int .i64 m4), .v (.int .i64 m5), .v (.int .i64 m6), .v (.int .i64 m7), .v (.int .i64 m8), .v (.int .i64 m9), .v (.int .i64 m10), .v (.int .i64 m11)]), .t (.a [.v (.int .i64 b0), .v (.int .i64 b1), .v (.int .i64 b2), .v (.int .i64 b3), .v (.int .i64 b4), .v (.int .i64 b5)]), .t (.a [.v (.int .i64 p0), .v (.int .i64 p1), .v (.int .i64 p2), .v (.int .i64 p3)])] post = vc_track_AnswerIn m0 m1 m2 m3 m4 m5 m6 m7 m8 m9 m10 m11 b0 b1 b2 b3 b4 b5 p0 p1 p2 p3 post := by kernel_rfl
theorem fit_track_AnswerIn : okFn ann_track_AnswerIn Try.f37 = true := by kernel_rfl
theorem lp_track_AnswerIn (J : Inv) (post : DV → Prop) : AllG J (loopsFn Try.prog tab S25 ann_track_AnswerIn J Try.f37 post) = (True) := by kernel_rfl
theorem spec_track_AnswerIn (m0 m1 m2 m3 m4 m5 m6 m7 m8 m9 m10 m11 : Int) (b0 b1 b2 b3 b4 b5 : Int) (p0 p1 p2 p3 : Int) : vc_track_AnswerIn m0 m1 m2 m3 m4 m5 m6 m7 m8 m9 m10 m11 b0 b1 b2 b3 b4 b5 p0 p1 p2 p3 (fun r => LeD r (.tu [.c (.v (.int .i64 (if (firstNZ [firstNZ [((⟨m0, m1, m2, m3, m4, m5, m6, m7, m8, m9, m10, m11⟩ : TMod)).err, ((⟨⟨b0, b1, b2⟩, ⟨b3, b4, b5⟩⟩ : TBox)).err], momE ⟨p0, p1, p2⟩ p3, unl (canW (⟨m0, m1, m2, m3, m4, m5, m6, m7, m8, m9, m10, m11⟩ : TMod) (⟨⟨b0, b1, b2⟩, ⟨b3, b4, b5⟩⟩ : TBox)) 12]) ≠ 0 then 0 else ((⟨m0, m1, m2, m3, m4, m5, m6, m7, m8, m9, m10, m11⟩ : TMod)).ans (⟨⟨b0, b1, b2⟩, ⟨b3, b4, b5⟩⟩ : TBox) ⟨p0, p1, p2⟩ p3))), .c (.v (.int .i64 (firstNZ [firstNZ [((⟨m0, m1, m2, m3, m4, m5, m6, m7, m8, m9, m10, m11⟩ : TMod)).err, ((⟨⟨b0, b1, b2⟩, ⟨b3, b4, b5⟩⟩ : TBox)).err], momE ⟨p0, p1, p2⟩ p3, unl (canW (⟨m0, m1, m2, m3, m4, m5, m6, m7, m8, m9, m10, m11⟩ : TMod) (⟨⟨b0, b1, b2⟩, ⟨b3, b4, b5⟩⟩ : TBox)) 12])))])) := by
  unfold vc_track_AnswerIn
  (repeat (refine lt_i ?_; intro _ _))
  subst_vars
  refine ⟨numsP_gen [_, _, _], cond_i (fun h => ?_) (fun h => ?_)⟩
  · have h : (firstNZ [firstNZ [((⟨m0, m1, m2, m3, m4, m5, m6, m7, m8, m9, m10, m11⟩ : TMod)).err, ((⟨⟨b0, b1, b2⟩, ⟨b3, b4, b5⟩⟩ : TBox)).err], momE ⟨p0, p1, p2⟩ p3, unl (canW (⟨m0, m1, m2, m3, m4, m5, m6, m7, m8, m9, m10, m11⟩ : TMod) (⟨⟨b0, b1, b2⟩, ⟨b3, b4, b5⟩⟩ : TBox)) 12]) ≠ 0 := by simpa using h
    rw [if_pos h]; exact LeD.refl _
  · have h : (firstNZ [firstNZ [((⟨m0, m1, m2, m3, m4, m5, m6, m7, m8, m9, m10, m11⟩ : TMod)).err, ((⟨⟨b0, b1, b2⟩, ⟨b3, b4, b5⟩⟩ : TBox)).err], momE ⟨p0, p1, p2⟩ p3, unl (canW (⟨m0, m1, m2, m3, m4, m5, m6, m7, m8, m9, m10, m11⟩ : TMod) (⟨⟨b0, b1, b2⟩, ⟨b3, b4, b5⟩⟩ : TBox)) 12]) = 0 := by simpa using h
    obtain ⟨q1, q2, q3⟩ := fn3 h
    obtain ⟨q4, q5⟩ := fn2 q1
    have hb := box_in q5
    have hc := canW_eq (m := (⟨m0, m1, m2, m3, m4, m5, m6, m7, m8, m9, m10, m11⟩ : TMod)) hb.1 hb.2
    rw [unl_0 (by decide)] at q3
    obtain ⟨q6, q7, q8⟩ := mom_ok q2
    refine ⟨⟨err_ok q4, hb.1, hb.2, canB_iff.1 (by rw [← hc]; exact q3), q6, q7, q8⟩, ?_⟩
    rw [h, if_neg (by simp)]
    exact LeD.refl _
def con_track_AnswerIn : Con := fun args => match args with
  | [.t (.a [.v (.int .i64 m0), .v (.int .i64 m1), .v (.int .i64 m2), .v (.int .i64 m3), .v (.int .i64 m4), .v (.int .i64 m5), .v (.int .i64 m6), .v (.int .i64 m7), .v (.int .i64 m8), .v (.int .i64 m9), .v (.int .i64 m10), .v (.int .i64 m11)]), .t (.a [.v (.int .i64 b0), .v (.int .i64 b1), .v (.int .i64 b2), .v (.int .i64 b3), .v (.int .i64 b4), .v (.int .i64 b5)]), .t (.a [.v (.int .i64 p0), .v (.int .i64 p1), .v (.int .i64 p2), .v (.int .i64 p3)])] => some (.tu [.c (.v (.int .i64 (if (firstNZ [firstNZ [((⟨m0, m1, m2, m3, m4, m5, m6, m7, m8, m9, m10, m11⟩ : TMod)).err, ((⟨⟨b0, b1, b2⟩, ⟨b3, b4, b5⟩⟩ : TBox)).err], momE ⟨p0, p1, p2⟩ p3, unl (canW (⟨m0, m1, m2, m3, m4, m5, m6, m7, m8, m9, m10, m11⟩ : TMod) (⟨⟨b0, b1, b2⟩, ⟨b3, b4, b5⟩⟩ : TBox)) 12]) ≠ 0 then 0 else ((⟨m0, m1, m2, m3, m4, m5, m6, m7, m8, m9, m10, m11⟩ : TMod)).ans (⟨⟨b0, b1, b2⟩, ⟨b3, b4, b5⟩⟩ : TBox) ⟨p0, p1, p2⟩ p3))), .c (.v (.int .i64 (firstNZ [firstNZ [((⟨m0, m1, m2, m3, m4, m5, m6, m7, m8, m9, m10, m11⟩ : TMod)).err, ((⟨⟨b0, b1, b2⟩, ⟨b3, b4, b5⟩⟩ : TBox)).err], momE ⟨p0, p1, p2⟩ p3, unl (canW (⟨m0, m1, m2, m3, m4, m5, m6, m7, m8, m9, m10, m11⟩ : TMod) (⟨⟨b0, b1, b2⟩, ⟨b3, b4, b5⟩⟩ : TBox)) 12])))], none, false)
  | _ => none
theorem ok_track_AnswerIn : Ok Try.prog 37 con_track_AnswerIn := by
  refine Ok.fn (ann := ann_track_AnswerIn) mixed tabOK VS25 ValidIt.no (fn := Try.f37) (by kernel_rfl) (by kernel_rfl) fit_track_AnswerIn fun args r pre fresh h hp => ?_
  unfold con_track_AnswerIn at h
  split at h
  · rename_i m0 m1 m2 m3 m4 m5 m6 m7 m8 m9 m10 m11 b0 b1 b2 b3 b4 b5 p0 p1 p2 p3
    cases h
    refine ⟨rfl, fun _ _ _ => False, _, LeA.refl _, Nat.le_of_ble_eq_true (by kernel_rfl), ?_, ?_⟩
    · rw [ev_track_AnswerIn]; exact spec_track_AnswerIn m0 m1 m2 m3 m4 m5 m6 m7 m8 m9 m10 m11 b0 b1 b2 b3 b4 b5 p0 p1 p2 p3
    · rw [lp_track_AnswerIn]; trivial
  · cases h
def S26 : Sum := addS S25 37 con_track_AnswerIn
theorem VS26 : Valid Try.prog S26 := Valid.add VS25 ok_track_AnswerIn

end Go.Proofs.Ytlmdmpjfehpjeaa

/- Tracks, by the checker: scores. -/
set_option linter.unusedVariables false
set_option linter.unusedSimpArgs false
namespace Go.Proofs.Ytlmdmpjfehpjeaa
open Go.RowKit Ev

theorem numsP_hits (l : List THit) : numsP 5 l.length (hitsC l) := by
  intro i j hi hj
  rcases (by omega : j = 0 ∨ j = 1 ∨ j = 2 ∨ j = 3 ∨ j = 4) with rfl | rfl | rfl | rfl | rfl <;> rfl
theorem hits_listC (l : List THit) : listC l.length mkHit (hitsC l) = l := listC_id THit.zero fun i hi => rfl
theorem le_sl {sz n : Nat} {c c' : Nat → Nat → CV} (h : ∀ i j, i < n → j < sz → c i j = c' i j) : LeD (.t (.c (.sl sz n c))) (.t (.c (.sl sz n c'))) := fun w N v g => RelF.sl g h
def vc_track_ScoresIn (m0 m1 m2 m3 m4 m5 m6 m7 m8 m9 m10 m11 : Int) (b0 b1 b2 b3 b4 b5 : Int) (l : List THit) (post : DV → Prop) : Prop := (numsP 5 l.length (hitsC l)) ∧ (lt ((sqsW (⟨⟨b0, b1, b2⟩, ⟨b3, b4, b5⟩⟩ : TBox)).lo) fun x1 => lt ((sqsW (⟨⟨b0, b1, b2⟩, ⟨b3, b4, b5⟩⟩ : TBox)).hi) fun x2 => lt (canW (⟨m0, m1, m2, m3, m4, m5, m6, m7, m8, m9, m10, m11⟩ : TMod) (⟨⟨b0, b1, b2⟩, ⟨b3, b4, b5⟩⟩ : TBox)) fun x3 => (numsP 1 2 (genC [[.v (.int .i64 (firstNZ [firstNZ [((⟨m0, m1, m2, m3, m4, m5, m6, m7, m8, m9, m10, m11⟩ : TMod)).err, ((⟨⟨b0, b1, b2⟩, ⟨b3, b4, b5⟩⟩ : TBox)).err], hitsE (listC l.length mkHit (hitsC l))]))], [.v (.int .i64 (unl x3 (12 : Int)))]])) ∧ (cond ((firstNZ ([(firstNZ [firstNZ [((⟨m0, m1, m2, m3, m4, m5, m6, m7, m8, m9, m10, m11⟩ : TMod)).err, ((⟨⟨b0, b1, b2⟩, ⟨b3, b4, b5⟩⟩ : TBox)).err], hitsE (listC l.length mkHit (hitsC l))]), (unl x3 (12 : Int))] : List Int)) != (0 : Int)) (post (.tu [.a [.v (.int .i64 0), .v (.int .i64 0)], .c (.v (.int .i64 (firstNZ ([(firstNZ [firstNZ [((⟨m0, m1, m2, m3, m4, m5, m6, m7, m8, m9, m10, m11⟩ : TMod)).err, ((⟨⟨b0, b1, b2⟩, ⟨b3, b4, b5⟩⟩ : TBox)).err], hitsE (listC l.length mkHit (hitsC l))]), (unl x3 (12 : Int))] : List Int))))])) ((numsP 5 l.length (hitsC l) ∧ ((⟨m0, m1, m2, m3, m4, m5, m6, m7, m8, m9, m10, m11⟩ : TMod)).Ok ∧ ((⟨⟨b0, b1, b2⟩, ⟨b3, b4, b5⟩⟩ : TBox)).lo.inS 20 = true ∧ ((⟨⟨b0, b1, b2⟩, ⟨b3, b4, b5⟩⟩ : TBox)).hi.inS 20 = true ∧ ((⟨m0, m1, m2, m3, m4, m5, m6, m7, m8, m9, m10, m11⟩ : TMod)).canBe (⟨⟨b0, b1, b2⟩, ⟨b3, b4, b5⟩⟩ : TBox) ∧ ((listC l.length mkHit (hitsC l))).length ≤ 12 ∧ ∀ i, i < ((listC l.length mkHit (hitsC l))).length → (hitAt (listC l.length mkHit (hitsC l)) i).Ok) ∧ (post (.tu [.a [.v (.int .i64 ((((⟨m0, m1, m2, m3, m4, m5, m6, m7, m8, m9, m10, m11⟩ : TMod)).scores (⟨⟨b0, b1, b2⟩, ⟨b3, b4, b5⟩⟩ : TBox) (listC l.length mkHit (hitsC l))).lo)), .v (.int .i64 ((((⟨m0, m1, m2, m3, m4, m5, m6, m7, m8, m9, m10, m11⟩ : TMod)).scores (⟨⟨b0, b1, b2⟩, ⟨b3, b4, b5⟩⟩ : TBox) (listC l.length mkHit (hitsC l))).hi))], .c (.v (.int .i64 0))])))))
def ann_track_ScoresIn : Ann := ⟨fun _ => none, fun _ => none, fun _ => [], noIt, false⟩
theorem ev_track_ScoresIn (J : Inv) (m0 m1 m2 m3 m4 m5 m6 m7 m8 m9 m10 m11 : Int) (b0 b1 b2 b3 b4 b5 : Int) (l : List THit) (post : DV → Prop) : evFn Try.prog tab S26 ann_track_ScoresIn J Try.f38 [.t (.a [.v (.int .i64 m0), .v (.int .i64 m1), .v (.int .i64 m2), .v (.int .i64 m3), .v (.int .i64 m4), .v (.int .i64 m5), .v (.int .i64 m6), .v (.int .i64 m7), .v (.int .i64 m8), .v (.int .i64 m9), .v (.int .i64 m10), .v (.int .i64 m11)]), .t (.a [.v (.int .i64 b0), .v (.int .i64 b1), .v (.int .i64 b2), .v (.int .i64 b3), .v (.int .i64 b4), .v (.int .i64 b5)]), .t (.c (.sl 5 l.length (hitsC l)))] post = vc_track_ScoresIn m0 m1 m2 m3 m4 m5 m6 m7 m8 m9 m10 m11 b0 b1 b2 b3 b4 b5 l post := by kernel_rfl
theorem fit_track_ScoresIn : okFn ann_track_ScoresIn Try.f38 = true := by kernel_rfl
theorem lp_track_ScoresIn (J : Inv) (post : DV → Prop) : AllG J (loopsFn Try.prog tab S26 ann_track_ScoresIn J Try.f38 post) = (True) := by kernel_rfl
theorem spec_track_ScoresIn (m0 m1 m2 m3 m4 m5 m6 m7 m8 m9 m10 m11 : Int) (b0 b1 b2 b3 b4 b5 : Int) (l : List THit) : vc_track_ScoresIn m0 m1 m2 m3 m4 m5 m6 m7 m8 m9 m10 m11 b0 b1 b2 b3 b4 b5 l (fun r => LeD r (.tu [.a [.v (.int .i64 (if (firstNZ [firstNZ [firstNZ [((⟨m0, m1, m2, m3, m4, m5, m6, m7, m8, m9, m10, m11⟩ : TMod)).err, ((⟨⟨b0, b1, b2⟩, ⟨b3, b4, b5⟩⟩ : TBox)).err], hitsE l], unl (canW (⟨m0, m1, m2, m3, m4, m5, m6, m7, m8, m9, m10, m11⟩ : TMod) (⟨⟨b0, b1, b2⟩, ⟨b3, b4, b5⟩⟩ : TBox)) 12]) ≠ 0 then 0 else (((⟨m0, m1, m2, m3, m4, m5, m6, m7, m8, m9, m10, m11⟩ : TMod)).scores (⟨⟨b0, b1, b2⟩, ⟨b3, b4, b5⟩⟩ : TBox) l).lo)), .v (.int .i64 (if (firstNZ [firstNZ [firstNZ [((⟨m0, m1, m2, m3, m4, m5, m6, m7, m8, m9, m10, m11⟩ : TMod)).err, ((⟨⟨b0, b1, b2⟩, ⟨b3, b4, b5⟩⟩ : TBox)).err], hitsE l], unl (canW (⟨m0, m1, m2, m3, m4, m5, m6, m7, m8, m9, m10, m11⟩ : TMod) (⟨⟨b0, b1, b2⟩, ⟨b3, b4, b5⟩⟩ : TBox)) 12]) ≠ 0 then 0 else (((⟨m0, m1, m2, m3, m4, m5, m6, m7, m8, m9, m10, m11⟩ : TMod)).scores (⟨⟨b0, b1, b2⟩, ⟨b3, b4, b5⟩⟩ : TBox) l).hi))], .c (.v (.int .i64 (firstNZ [firstNZ [firstNZ [((⟨m0, m1, m2, m3, m4, m5, m6, m7, m8, m9, m10, m11⟩ : TMod)).err, ((⟨⟨b0, b1, b2⟩, ⟨b3, b4, b5⟩⟩ : TBox)).err], hitsE l], unl (canW (⟨m0, m1, m2, m3, m4, m5, m6, m7, m8, m9, m10, m11⟩ : TMod) (⟨⟨b0, b1, b2⟩, ⟨b3, b4, b5⟩⟩ : TBox)) 12])))])) := by
  unfold vc_track_ScoresIn
  rw [hits_listC]
  refine ⟨numsP_hits l, ?_⟩
  (repeat (refine lt_i ?_; intro _ _))
  subst_vars
  refine ⟨numsP_gen [_, _], cond_i (fun h => ?_) (fun h => ?_)⟩
  · have h : (firstNZ [firstNZ [firstNZ [((⟨m0, m1, m2, m3, m4, m5, m6, m7, m8, m9, m10, m11⟩ : TMod)).err, ((⟨⟨b0, b1, b2⟩, ⟨b3, b4, b5⟩⟩ : TBox)).err], hitsE l], unl (canW (⟨m0, m1, m2, m3, m4, m5, m6, m7, m8, m9, m10, m11⟩ : TMod) (⟨⟨b0, b1, b2⟩, ⟨b3, b4, b5⟩⟩ : TBox)) 12]) ≠ 0 := by simpa using h
    rw [if_pos h, if_pos h]; exact LeD.refl _
  · have h : (firstNZ [firstNZ [firstNZ [((⟨m0, m1, m2, m3, m4, m5, m6, m7, m8, m9, m10, m11⟩ : TMod)).err, ((⟨⟨b0, b1, b2⟩, ⟨b3, b4, b5⟩⟩ : TBox)).err], hitsE l], unl (canW (⟨m0, m1, m2, m3, m4, m5, m6, m7, m8, m9, m10, m11⟩ : TMod) (⟨⟨b0, b1, b2⟩, ⟨b3, b4, b5⟩⟩ : TBox)) 12]) = 0 := by simpa using h
    obtain ⟨q1, q3⟩ := fn2 h
    obtain ⟨q0, q2⟩ := fn2 q1
    obtain ⟨q4, q5⟩ := fn2 q0
    have hb := box_in q5
    have hc := canW_eq (m := (⟨m0, m1, m2, m3, m4, m5, m6, m7, m8, m9, m10, m11⟩ : TMod)) hb.1 hb.2
    rw [unl_0 (by decide)] at q3
    obtain ⟨q6, q7⟩ := hitsE_ok q2
    refine ⟨⟨numsP_hits l, err_ok q4, hb.1, hb.2, canB_iff.1 (by rw [← hc]; exact q3), q6, q7⟩, ?_⟩
    rw [h, if_neg (by simp), if_neg (by simp)]
    exact LeD.refl _
def con_track_ScoresIn : Con := fun args => match args with
  | [.t (.a [.v (.int .i64 m0), .v (.int .i64 m1), .v (.int .i64 m2), .v (.int .i64 m3), .v (.int .i64 m4), .v (.int .i64 m5), .v (.int .i64 m6), .v (.int .i64 m7), .v (.int .i64 m8), .v (.int .i64 m9), .v (.int .i64 m10), .v (.int .i64 m11)]), .t (.a [.v (.int .i64 b0), .v (.int .i64 b1), .v (.int .i64 b2), .v (.int .i64 b3), .v (.int .i64 b4), .v (.int .i64 b5)]), .t (.c (.sl 5 n_l c_l))] => some (.tu [.a [.v (.int .i64 (if (firstNZ [firstNZ [firstNZ [((⟨m0, m1, m2, m3, m4, m5, m6, m7, m8, m9, m10, m11⟩ : TMod)).err, ((⟨⟨b0, b1, b2⟩, ⟨b3, b4, b5⟩⟩ : TBox)).err], hitsE (listC n_l mkHit c_l)], unl (canW (⟨m0, m1, m2, m3, m4, m5, m6, m7, m8, m9, m10, m11⟩ : TMod) (⟨⟨b0, b1, b2⟩, ⟨b3, b4, b5⟩⟩ : TBox)) 12]) ≠ 0 then 0 else (((⟨m0, m1, m2, m3, m4, m5, m6, m7, m8, m9, m10, m11⟩ : TMod)).scores (⟨⟨b0, b1, b2⟩, ⟨b3, b4, b5⟩⟩ : TBox) (listC n_l mkHit c_l)).lo)), .v (.int .i64 (if (firstNZ [firstNZ [firstNZ [((⟨m0, m1, m2, m3, m4, m5, m6, m7, m8, m9, m10, m11⟩ : TMod)).err, ((⟨⟨b0, b1, b2⟩, ⟨b3, b4, b5⟩⟩ : TBox)).err], hitsE (listC n_l mkHit c_l)], unl (canW (⟨m0, m1, m2, m3, m4, m5, m6, m7, m8, m9, m10, m11⟩ : TMod) (⟨⟨b0, b1, b2⟩, ⟨b3, b4, b5⟩⟩ : TBox)) 12]) ≠ 0 then 0 else (((⟨m0, m1, m2, m3, m4, m5, m6, m7, m8, m9, m10, m11⟩ : TMod)).scores (⟨⟨b0, b1, b2⟩, ⟨b3, b4, b5⟩⟩ : TBox) (listC n_l mkHit c_l)).hi))], .c (.v (.int .i64 (firstNZ [firstNZ [firstNZ [((⟨m0, m1, m2, m3, m4, m5, m6, m7, m8, m9, m10, m11⟩ : TMod)).err, ((⟨⟨b0, b1, b2⟩, ⟨b3, b4, b5⟩⟩ : TBox)).err], hitsE (listC n_l mkHit c_l)], unl (canW (⟨m0, m1, m2, m3, m4, m5, m6, m7, m8, m9, m10, m11⟩ : TMod) (⟨⟨b0, b1, b2⟩, ⟨b3, b4, b5⟩⟩ : TBox)) 12])))], some (numsP 5 n_l c_l), false)
  | _ => none
theorem ok_track_ScoresIn : Ok Try.prog 38 con_track_ScoresIn := by
  refine Ok.fn (ann := ann_track_ScoresIn) mixed tabOK VS26 ValidIt.no (fn := Try.f38) (by kernel_rfl) (by kernel_rfl) fit_track_ScoresIn fun args r pre fresh h hp => ?_
  unfold con_track_ScoresIn at h
  split at h
  · rename_i m0 m1 m2 m3 m4 m5 m6 m7 m8 m9 m10 m11 b0 b1 b2 b3 b4 b5 n_l c_l
    cases h
    have hp0 := hp
    refine ⟨rfl, fun _ _ _ => False, [.t (.a [.v (.int .i64 m0), .v (.int .i64 m1), .v (.int .i64 m2), .v (.int .i64 m3), .v (.int .i64 m4), .v (.int .i64 m5), .v (.int .i64 m6), .v (.int .i64 m7), .v (.int .i64 m8), .v (.int .i64 m9), .v (.int .i64 m10), .v (.int .i64 m11)]), .t (.a [.v (.int .i64 b0), .v (.int .i64 b1), .v (.int .i64 b2), .v (.int .i64 b3), .v (.int .i64 b4), .v (.int .i64 b5)]), .t (.c (.sl 5 ((listC n_l mkHit c_l).length) (hitsC (listC n_l mkHit c_l))))], ?_, Nat.le_of_ble_eq_true (by kernel_rfl), ?_, ?_⟩
    · intro w N vs h
      exact (LeA_cons (fun w N v h => h) (LeA_cons (fun w N v h => h) (LeA_cons (leL_THit hp0) LeA_nil))) w N vs h
    · rw [ev_track_ScoresIn]; exact spec_track_ScoresIn m0 m1 m2 m3 m4 m5 m6 m7 m8 m9 m10 m11 b0 b1 b2 b3 b4 b5 (listC n_l mkHit c_l)
    · rw [lp_track_ScoresIn]; trivial
  · cases h
def S27 : Sum := addS S26 38 con_track_ScoresIn
theorem VS27 : Valid Try.prog S27 := Valid.add VS26 ok_track_ScoresIn

def vc_ref05_Copy (l : List THit) (post : DV → Prop) : Prop := (roomP 40 (([] : List (List CV)).length + ((List.range l.length).map fun i => fwd ((hitsC l) i) 0 5).length)) ∧ (post (.t (.c (.sl 5 ((([] : List (List CV)) ++ ((List.range l.length).map fun i => fwd ((hitsC l) i) 0 5)).length) (genC (([] : List (List CV)) ++ ((List.range l.length).map fun i => fwd ((hitsC l) i) 0 5)))))))
def ann_ref05_Copy : Ann := ⟨fun _ => none, fun _ => none, fun _ => [], noIt, false⟩
theorem ev_ref05_Copy (J : Inv) (l : List THit) (post : DV → Prop) : evFn Try.prog tab S27 ann_ref05_Copy J Try.f30 [.t (.c (.sl 5 l.length (hitsC l)))] post = vc_ref05_Copy l post := by kernel_rfl
theorem fit_ref05_Copy : okFn ann_ref05_Copy Try.f30 = true := by kernel_rfl
theorem lp_ref05_Copy (J : Inv) (post : DV → Prop) : AllG J (loopsFn Try.prog tab S27 ann_ref05_Copy J Try.f30 post) = (True) := by kernel_rfl
theorem spec_ref05_Copy (l : List THit) (hp : (l).length ≤ 1000000) : vc_ref05_Copy l (fun r => LeD r (.t (.c (.sl 5 l.length (hitsC l))))) := by
  unfold vc_ref05_Copy
  have e : (([] : List (List CV)) ++ ((List.range l.length).map fun i => fwd ((hitsC l) i) 0 5)).length = l.length := by simp
  refine ⟨?_, ?_⟩
  · unfold roomP maxLen; simp; omega
  · rw [e]
    refine le_sl fun i j hi hj => ?_
    unfold genC
    simp only [List.nil_append, List.getD_eq_getElem?_getD, List.getElem?_map, List.getElem?_range hi, Option.map_some, Option.getD_some]
    rcases (by omega : j = 0 ∨ j = 1 ∨ j = 2 ∨ j = 3 ∨ j = 4) with rfl | rfl | rfl | rfl | rfl <;> rfl
def con_ref05_Copy : Con := fun args => match args with
  | [.t (.c (.sl 5 n_l c_l))] => some (.t (.c (.sl 5 ((listC n_l mkHit c_l).length) (hitsC (listC n_l mkHit c_l)))), some (numsP 5 n_l c_l ∧ ((listC n_l mkHit c_l)).length ≤ 1000000), false)
  | _ => none
theorem ok_ref05_Copy : Ok Try.prog 30 con_ref05_Copy := by
  refine Ok.fn (ann := ann_ref05_Copy) mixed tabOK VS27 ValidIt.no (fn := Try.f30) (by kernel_rfl) (by kernel_rfl) fit_ref05_Copy fun args r pre fresh h hp => ?_
  unfold con_ref05_Copy at h
  split at h
  · rename_i n_l c_l
    cases h
    obtain ⟨hp0, hp⟩ := hp
    refine ⟨rfl, fun _ _ _ => False, [.t (.c (.sl 5 ((listC n_l mkHit c_l).length) (hitsC (listC n_l mkHit c_l))))], ?_, Nat.le_of_ble_eq_true (by kernel_rfl), ?_, ?_⟩
    · intro w N vs h
      exact (LeA_cons (leL_THit hp0) LeA_nil) w N vs h
    · rw [ev_ref05_Copy]; exact spec_ref05_Copy (listC n_l mkHit c_l) hp
    · rw [lp_ref05_Copy]; trivial
  · cases h
def S28 : Sum := addS S27 30 con_ref05_Copy
theorem VS28 : Valid Try.prog S28 := Valid.add VS27 ok_ref05_Copy

def mk_ref05_Scores_0 (m0 m1 m2 m3 m4 m5 m6 m7 m8 m9 m10 m11 : Int) (b0 b1 b2 b3 b4 b5 : Int) (l : List THit) (v0_0 : Int) (v0_1 : Int) (v0_2 : Int) : DS := ⟨[none, none, some (.t (.c (.sl 5 l.length (hitsC l)))), some (.t (.c (.p 3 0))), some (.t (.c (.p 4 0))), none, some (.t (.c (.p 6 0))), some (.t (.c (.p 7 0))), some (.t (.c (.v (.int .i64 v0_2)))), none, none, none, none, none, none, none, none, none, none, none, none, none, none, none, none, none, none, none, none, none, none, none, none, none, none, none, none, none, none, none, none, none, none, none, none, none, none, none, none, none, none, none, none, none, none, none, none, none, none, none, none, none, none, none, none, none, none, none, none, none, none, none, none, none, none, none, none, none, none, none, none, none, none, none, none, none, none, none, none, none, none, none, none, none, none, none, none, none, none, none, none, none, none, none, none, none, none, none, none, none, none, none, none], [none, none, none, some (.box 26 [.v (.int .i64 m0), .v (.int .i64 m1), .v (.int .i64 m2), .v (.int .i64 m3), .v (.int .i64 m4), .v (.int .i64 m5), .v (.int .i64 m6), .v (.int .i64 m7), .v (.int .i64 m8), .v (.int .i64 m9), .v (.int .i64 m10), .v (.int .i64 m11)]), some (.box 75 [.v (.int .i64 b0), .v (.int .i64 b1), .v (.int .i64 b2), .v (.int .i64 b3), .v (.int .i64 b4), .v (.int .i64 b5)]), none, some (.box 24 [.v (.int .i64 0), .v (.int .i64 0)]), some (.box 24 [.v (.int .i64 v0_0), .v (.int .i64 v0_1)]), none, none, none, none, none, none, none, none, none, none, none, none, none, none, none, none, none, none, none, none, none, none, none, none, none, none, none, none, none, none, none, none, none, none, none, none, none, none, none, none, none, none, none, none, none, none, none, none, none, none, none, none, none, none, none, none, none, none, none, none, none, none, none, none, none, none, none, none, none, none, none, none, none, none, none, none, none, none, none, none, none, none, none, none, none, none, none, none, none, none, none, none, none, none, none, none, none, none, none, none, none, none, none, none, none]⟩
def vc_ref05_Scores (J : Inv) (m0 m1 m2 m3 m4 m5 m6 m7 m8 m9 m10 m11 : Int) (b0 b1 b2 b3 b4 b5 : Int) (l : List THit) (post : DV → Prop) : Prop := ∃ n, J 0 (n :: []) (mk_ref05_Scores_0 m0 m1 m2 m3 m4 m5 m6 m7 m8 m9 m10 m11 b0 b1 b2 b3 b4 b5 l 0 0 0)
def ann_ref05_Scores : Ann := ⟨fun r => lookA r [(5, ([[], [], [], [], [2, 3], [2, 3, 4], [2, 3, 4, 5], [], [], [7, 8], [7, 8, 9], [7, 8, 9, 10], [], [12], [7, 8, 9, 10, 11, 12, 13], [0, 1, 2, 3, 4, 5, 6, 7, 8, 9, 10, 11, 12, 13, 14], [], [], [], [], [18, 19], [18, 19, 20], [18, 19, 20, 21], [], [], [23, 24], [23, 24, 25], [23, 24, 25, 26], [], [28], [23, 24, 25, 26, 27, 28, 29], [23, 24, 25, 26, 27, 28, 29, 30], [0, 1, 2, 3, 4, 5, 6, 7, 8, 9, 10, 11, 12, 13, 14, 15, 16, 17, 18, 19, 20, 21, 22, 23, 24, 25, 26, 27, 28, 29, 30, 31], [0, 1, 2, 3, 4, 5, 6, 7, 8, 9, 10, 11, 12, 13, 14, 15, 16, 17, 18, 19, 20, 21, 22, 23, 24, 25, 26, 27, 28, 29, 30, 31, 32], [0, 1, 2, 3, 4, 5, 6, 7, 8, 9, 10, 11, 12, 13, 14, 15, 16, 17, 18, 19, 20, 21, 22, 23, 24, 25, 26, 27, 28, 29, 30, 31, 32, 33]], [[], [], [], [], [], [], [], [], [], [], [], [], [], [], [], [], [], [], [], [], [], [], [], [], [], [], [], [], [], [], [], [], [], [], []])), (6, ([[], [], [0, 1], [0, 1, 2], [0, 1, 2, 3], [], [5], [0, 1, 2, 3, 4, 5, 6], [], [], [8, 9], [8, 9, 10], [8, 9, 10, 11], [], [13], [8, 9, 10, 11, 12, 13, 14], [0, 1, 2, 3, 4, 5, 6, 7], [0, 1, 2, 3, 4, 5, 6, 7, 8, 9, 10, 11, 12, 13, 14, 15, 16]], [[], [], [], [], [], [], [], [], [], [], [], [], [], [], [], [], [], []]))], fun b => lookA b [(0, (none, some ⟨[2, 3, 4, 6, 7, 8], [3, 4, 6, 7], []⟩))], fun _ => [], noIt, false⟩
theorem ev_ref05_Scores (J : Inv) (m0 m1 m2 m3 m4 m5 m6 m7 m8 m9 m10 m11 : Int) (b0 b1 b2 b3 b4 b5 : Int) (l : List THit) (post : DV → Prop) : evFn Try.prog tab S28 ann_ref05_Scores J Try.f43 [.t (.a [.v (.int .i64 m0), .v (.int .i64 m1), .v (.int .i64 m2), .v (.int .i64 m3), .v (.int .i64 m4), .v (.int .i64 m5), .v (.int .i64 m6), .v (.int .i64 m7), .v (.int .i64 m8), .v (.int .i64 m9), .v (.int .i64 m10), .v (.int .i64 m11)]), .t (.a [.v (.int .i64 b0), .v (.int .i64 b1), .v (.int .i64 b2), .v (.int .i64 b3), .v (.int .i64 b4), .v (.int .i64 b5)]), .t (.c (.sl 5 l.length (hitsC l)))] post = vc_ref05_Scores J m0 m1 m2 m3 m4 m5 m6 m7 m8 m9 m10 m11 b0 b1 b2 b3 b4 b5 l post := by kernel_rfl
theorem fit_ref05_Scores : okFn ann_ref05_Scores Try.f43 = true := by kernel_rfl
def rd_ref05_Scores_0 (J : Inv) (m0 m1 m2 m3 m4 m5 m6 m7 m8 m9 m10 m11 : Int) (b0 b1 b2 b3 b4 b5 : Int) (l : List THit) (v0_0 : Int) (v0_1 : Int) (v0_2 : Int) (nn0 : Nat) (post : DV → Prop) : Prop := cond (decide (v0_2 < ((l.length : Nat) : Int))) ((0 ≤ v0_2 ∧ v0_2 < ((l.length : Nat) : Int)) ∧ ((0 ≤ v0_2 ∧ v0_2 < ((l.length : Nat) : Int)) ∧ (lt (IntKind.i64.wrap (((hitAt l v0_2.toNat).t) + m8)) fun x1 => (((⟨m0, m1, m2, m3, m4, m5, m6, m7, m8, m9, m10, m11⟩ : TMod)).Ok ∧ ((⟨⟨b0, b1, b2⟩, ⟨b3, b4, b5⟩⟩ : TBox)).lo.inS 20 = true ∧ ((⟨⟨b0, b1, b2⟩, ⟨b3, b4, b5⟩⟩ : TBox)).hi.inS 20 = true ∧ ((⟨m0, m1, m2, m3, m4, m5, m6, m7, m8, m9, m10, m11⟩ : TMod)).canBe (⟨⟨b0, b1, b2⟩, ⟨b3, b4, b5⟩⟩ : TBox) ∧ ((⟨((hitAt l v0_2.toNat).p.x), ((hitAt l v0_2.toNat).p.y), ((hitAt l v0_2.toNat).p.z)⟩ : V3)).inS 1000 = true ∧ -1000101 ≤ x1 ∧ x1 ≤ 1000100) ∧ ((0 ≤ v0_2 ∧ v0_2 < ((l.length : Nat) : Int)) ∧ ((0 ≤ v0_2 ∧ v0_2 < ((l.length : Nat) : Int)) ∧ (lt (IntKind.i64.wrap (((hitAt l v0_2.toNat).t) - m9)) fun x2 => lt (IntKind.i64.wrap (x2 - (1 : Int))) fun x3 => (((⟨m0, m1, m2, m3, m4, m5, m6, m7, m8, m9, m10, m11⟩ : TMod)).Ok ∧ ((⟨⟨b0, b1, b2⟩, ⟨b3, b4, b5⟩⟩ : TBox)).lo.inS 20 = true ∧ ((⟨⟨b0, b1, b2⟩, ⟨b3, b4, b5⟩⟩ : TBox)).hi.inS 20 = true ∧ ((⟨m0, m1, m2, m3, m4, m5, m6, m7, m8, m9, m10, m11⟩ : TMod)).canBe (⟨⟨b0, b1, b2⟩, ⟨b3, b4, b5⟩⟩ : TBox) ∧ ((⟨((hitAt l v0_2.toNat).p.x), ((hitAt l v0_2.toNat).p.y), ((hitAt l v0_2.toNat).p.z)⟩ : V3)).inS 1000 = true ∧ -1000101 ≤ x3 ∧ x3 ≤ 1000100) ∧ ((0 ≤ v0_2 ∧ v0_2 < ((l.length : Nat) : Int)) ∧ (lt (IntKind.i64.wrap (((hitAt l v0_2.toNat).w) * m11)) fun x4 => (0 ≤ v0_2 ∧ v0_2 < ((l.length : Nat) : Int)) ∧ (lt (IntKind.i64.wrap (((hitAt l v0_2.toNat).w) * m10)) fun x5 => cond ((((⟨m0, m1, m2, m3, m4, m5, m6, m7, m8, m9, m10, m11⟩ : TMod)).ans (⟨⟨b0, b1, b2⟩, ⟨b3, b4, b5⟩⟩ : TBox) (⟨((hitAt l v0_2.toNat).p.x), ((hitAt l v0_2.toNat).p.y), ((hitAt l v0_2.toNat).p.z)⟩ : V3) x1) == (0 : Int)) (cond ((((⟨m0, m1, m2, m3, m4, m5, m6, m7, m8, m9, m10, m11⟩ : TMod)).ans (⟨⟨b0, b1, b2⟩, ⟨b3, b4, b5⟩⟩ : TBox) (⟨((hitAt l v0_2.toNat).p.x), ((hitAt l v0_2.toNat).p.y), ((hitAt l v0_2.toNat).p.z)⟩ : V3) x3) == (2 : Int)) (lt ((if x5 < x4 then x5 else x4)) fun x6 => lt (IntKind.i64.wrap (v0_0 + x6)) fun x7 => cond ((((⟨m0, m1, m2, m3, m4, m5, m6, m7, m8, m9, m10, m11⟩ : TMod)).ans (⟨⟨b0, b1, b2⟩, ⟨b3, b4, b5⟩⟩ : TBox) (⟨((hitAt l v0_2.toNat).p.x), ((hitAt l v0_2.toNat).p.y), ((hitAt l v0_2.toNat).p.z)⟩ : V3) x1) != (2 : Int)) (cond ((((⟨m0, m1, m2, m3, m4, m5, m6, m7, m8, m9, m10, m11⟩ : TMod)).ans (⟨⟨b0, b1, b2⟩, ⟨b3, b4, b5⟩⟩ : TBox) (⟨((hitAt l v0_2.toNat).p.x), ((hitAt l v0_2.toNat).p.y), ((hitAt l v0_2.toNat).p.z)⟩ : V3) x3) != (0 : Int)) (lt ((if x5 > x4 then x5 else x4)) fun x8 => lt (IntKind.i64.wrap (v0_1 + x8)) fun x9 => lt (IntKind.i64.wrap (v0_2 + (1 : Int))) fun x10 => J 0 (nn0 :: []) (mk_ref05_Scores_0 m0 m1 m2 m3 m4 m5 m6 m7 m8 m9 m10 m11 b0 b1 b2 b3 b4 b5 l x7 x9 x10)) (lt (IntKind.i64.wrap (v0_1 + x4)) fun x11 => lt (IntKind.i64.wrap (v0_2 + (1 : Int))) fun x12 => J 0 (nn0 :: []) (mk_ref05_Scores_0 m0 m1 m2 m3 m4 m5 m6 m7 m8 m9 m10 m11 b0 b1 b2 b3 b4 b5 l x7 x11 x12))) (cond ((((⟨m0, m1, m2, m3, m4, m5, m6, m7, m8, m9, m10, m11⟩ : TMod)).ans (⟨⟨b0, b1, b2⟩, ⟨b3, b4, b5⟩⟩ : TBox) (⟨((hitAt l v0_2.toNat).p.x), ((hitAt l v0_2.toNat).p.y), ((hitAt l v0_2.toNat).p.z)⟩ : V3) x3) != (0 : Int)) (lt ((if x5 > (0 : Int) then x5 else (0 : Int))) fun x13 => lt (IntKind.i64.wrap (v0_1 + x13)) fun x14 => lt (IntKind.i64.wrap (v0_2 + (1 : Int))) fun x15 => J 0 (nn0 :: []) (mk_ref05_Scores_0 m0 m1 m2 m3 m4 m5 m6 m7 m8 m9 m10 m11 b0 b1 b2 b3 b4 b5 l x7 x14 x15)) (lt (IntKind.i64.wrap (v0_1 + (0 : Int))) fun x16 => lt (IntKind.i64.wrap (v0_2 + (1 : Int))) fun x17 => J 0 (nn0 :: []) (mk_ref05_Scores_0 m0 m1 m2 m3 m4 m5 m6 m7 m8 m9 m10 m11 b0 b1 b2 b3 b4 b5 l x7 x16 x17)))) (cond ((((⟨m0, m1, m2, m3, m4, m5, m6, m7, m8, m9, m10, m11⟩ : TMod)).ans (⟨⟨b0, b1, b2⟩, ⟨b3, b4, b5⟩⟩ : TBox) (⟨((hitAt l v0_2.toNat).p.x), ((hitAt l v0_2.toNat).p.y), ((hitAt l v0_2.toNat).p.z)⟩ : V3) x1) == (0 : Int)) (lt (IntKind.i64.wrap (v0_0 + x4)) fun x18 => cond ((((⟨m0, m1, m2, m3, m4, m5, m6, m7, m8, m9, m10, m11⟩ : TMod)).ans (⟨⟨b0, b1, b2⟩, ⟨b3, b4, b5⟩⟩ : TBox) (⟨((hitAt l v0_2.toNat).p.x), ((hitAt l v0_2.toNat).p.y), ((hitAt l v0_2.toNat).p.z)⟩ : V3) x1) != (2 : Int)) (cond ((((⟨m0, m1, m2, m3, m4, m5, m6, m7, m8, m9, m10, m11⟩ : TMod)).ans (⟨⟨b0, b1, b2⟩, ⟨b3, b4, b5⟩⟩ : TBox) (⟨((hitAt l v0_2.toNat).p.x), ((hitAt l v0_2.toNat).p.y), ((hitAt l v0_2.toNat).p.z)⟩ : V3) x3) != (0 : Int)) (lt ((if x5 > x4 then x5 else x4)) fun x19 => lt (IntKind.i64.wrap (v0_1 + x19)) fun x20 => lt (IntKind.i64.wrap (v0_2 + (1 : Int))) fun x21 => J 0 (nn0 :: []) (mk_ref05_Scores_0 m0 m1 m2 m3 m4 m5 m6 m7 m8 m9 m10 m11 b0 b1 b2 b3 b4 b5 l x18 x20 x21)) (lt (IntKind.i64.wrap (v0_1 + x4)) fun x22 => lt (IntKind.i64.wrap (v0_2 + (1 : Int))) fun x23 => J 0 (nn0 :: []) (mk_ref05_Scores_0 m0 m1 m2 m3 m4 m5 m6 m7 m8 m9 m10 m11 b0 b1 b2 b3 b4 b5 l x18 x22 x23))) (cond ((((⟨m0, m1, m2, m3, m4, m5, m6, m7, m8, m9, m10, m11⟩ : TMod)).ans (⟨⟨b0, b1, b2⟩, ⟨b3, b4, b5⟩⟩ : TBox) (⟨((hitAt l v0_2.toNat).p.x), ((hitAt l v0_2.toNat).p.y), ((hitAt l v0_2.toNat).p.z)⟩ : V3) x3) != (0 : Int)) (lt ((if x5 > (0 : Int) then x5 else (0 : Int))) fun x24 => lt (IntKind.i64.wrap (v0_1 + x24)) fun x25 => lt (IntKind.i64.wrap (v0_2 + (1 : Int))) fun x26 => J 0 (nn0 :: []) (mk_ref05_Scores_0 m0 m1 m2 m3 m4 m5 m6 m7 m8 m9 m10 m11 b0 b1 b2 b3 b4 b5 l x18 x25 x26)) (lt (IntKind.i64.wrap (v0_1 + (0 : Int))) fun x27 => lt (IntKind.i64.wrap (v0_2 + (1 : Int))) fun x28 => J 0 (nn0 :: []) (mk_ref05_Scores_0 m0 m1 m2 m3 m4 m5 m6 m7 m8 m9 m10 m11 b0 b1 b2 b3 b4 b5 l x18 x27 x28)))) (cond ((((⟨m0, m1, m2, m3, m4, m5, m6, m7, m8, m9, m10, m11⟩ : TMod)).ans (⟨⟨b0, b1, b2⟩, ⟨b3, b4, b5⟩⟩ : TBox) (⟨((hitAt l v0_2.toNat).p.x), ((hitAt l v0_2.toNat).p.y), ((hitAt l v0_2.toNat).p.z)⟩ : V3) x3) == (2 : Int)) (lt (IntKind.i64.wrap (v0_0 + x5)) fun x29 => cond ((((⟨m0, m1, m2, m3, m4, m5, m6, m7, m8, m9, m10, m11⟩ : TMod)).ans (⟨⟨b0, b1, b2⟩, ⟨b3, b4, b5⟩⟩ : TBox) (⟨((hitAt l v0_2.toNat).p.x), ((hitAt l v0_2.toNat).p.y), ((hitAt l v0_2.toNat).p.z)⟩ : V3) x1) != (2 : Int)) (cond ((((⟨m0, m1, m2, m3, m4, m5, m6, m7, m8, m9, m10, m11⟩ : TMod)).ans (⟨⟨b0, b1, b2⟩, ⟨b3, b4, b5⟩⟩ : TBox) (⟨((hitAt l v0_2.toNat).p.x), ((hitAt l v0_2.toNat).p.y), ((hitAt l v0_2.toNat).p.z)⟩ : V3) x3) != (0 : Int)) (lt ((if x5 > x4 then x5 else x4)) fun x30 => lt (IntKind.i64.wrap (v0_1 + x30)) fun x31 => lt (IntKind.i64.wrap (v0_2 + (1 : Int))) fun x32 => J 0 (nn0 :: []) (mk_ref05_Scores_0 m0 m1 m2 m3 m4 m5 m6 m7 m8 m9 m10 m11 b0 b1 b2 b3 b4 b5 l x29 x31 x32)) (lt (IntKind.i64.wrap (v0_1 + x4)) fun x33 => lt (IntKind.i64.wrap (v0_2 + (1 : Int))) fun x34 => J 0 (nn0 :: []) (mk_ref05_Scores_0 m0 m1 m2 m3 m4 m5 m6 m7 m8 m9 m10 m11 b0 b1 b2 b3 b4 b5 l x29 x33 x34))) (cond ((((⟨m0, m1, m2, m3, m4, m5, m6, m7, m8, m9, m10, m11⟩ : TMod)).ans (⟨⟨b0, b1, b2⟩, ⟨b3, b4, b5⟩⟩ : TBox) (⟨((hitAt l v0_2.toNat).p.x), ((hitAt l v0_2.toNat).p.y), ((hitAt l v0_2.toNat).p.z)⟩ : V3) x3) != (0 : Int)) (lt ((if x5 > (0 : Int) then x5 else (0 : Int))) fun x35 => lt (IntKind.i64.wrap (v0_1 + x35)) fun x36 => lt (IntKind.i64.wrap (v0_2 + (1 : Int))) fun x37 => J 0 (nn0 :: []) (mk_ref05_Scores_0 m0 m1 m2 m3 m4 m5 m6 m7 m8 m9 m10 m11 b0 b1 b2 b3 b4 b5 l x29 x36 x37)) (lt (IntKind.i64.wrap (v0_1 + (0 : Int))) fun x38 => lt (IntKind.i64.wrap (v0_2 + (1 : Int))) fun x39 => J 0 (nn0 :: []) (mk_ref05_Scores_0 m0 m1 m2 m3 m4 m5 m6 m7 m8 m9 m10 m11 b0 b1 b2 b3 b4 b5 l x29 x38 x39)))) (cond ((((⟨m0, m1, m2, m3, m4, m5, m6, m7, m8, m9, m10, m11⟩ : TMod)).ans (⟨⟨b0, b1, b2⟩, ⟨b3, b4, b5⟩⟩ : TBox) (⟨((hitAt l v0_2.toNat).p.x), ((hitAt l v0_2.toNat).p.y), ((hitAt l v0_2.toNat).p.z)⟩ : V3) x1) != (2 : Int)) (cond ((((⟨m0, m1, m2, m3, m4, m5, m6, m7, m8, m9, m10, m11⟩ : TMod)).ans (⟨⟨b0, b1, b2⟩, ⟨b3, b4, b5⟩⟩ : TBox) (⟨((hitAt l v0_2.toNat).p.x), ((hitAt l v0_2.toNat).p.y), ((hitAt l v0_2.toNat).p.z)⟩ : V3) x3) != (0 : Int)) (lt ((if x5 > x4 then x5 else x4)) fun x40 => lt (IntKind.i64.wrap (v0_1 + x40)) fun x41 => lt (IntKind.i64.wrap (v0_2 + (1 : Int))) fun x42 => J 0 (nn0 :: []) (mk_ref05_Scores_0 m0 m1 m2 m3 m4 m5 m6 m7 m8 m9 m10 m11 b0 b1 b2 b3 b4 b5 l v0_0 x41 x42)) (lt (IntKind.i64.wrap (v0_1 + x4)) fun x43 => lt (IntKind.i64.wrap (v0_2 + (1 : Int))) fun x44 => J 0 (nn0 :: []) (mk_ref05_Scores_0 m0 m1 m2 m3 m4 m5 m6 m7 m8 m9 m10 m11 b0 b1 b2 b3 b4 b5 l v0_0 x43 x44))) (cond ((((⟨m0, m1, m2, m3, m4, m5, m6, m7, m8, m9, m10, m11⟩ : TMod)).ans (⟨⟨b0, b1, b2⟩, ⟨b3, b4, b5⟩⟩ : TBox) (⟨((hitAt l v0_2.toNat).p.x), ((hitAt l v0_2.toNat).p.y), ((hitAt l v0_2.toNat).p.z)⟩ : V3) x3) != (0 : Int)) (lt ((if x5 > (0 : Int) then x5 else (0 : Int))) fun x45 => lt (IntKind.i64.wrap (v0_1 + x45)) fun x46 => lt (IntKind.i64.wrap (v0_2 + (1 : Int))) fun x47 => J 0 (nn0 :: []) (mk_ref05_Scores_0 m0 m1 m2 m3 m4 m5 m6 m7 m8 m9 m10 m11 b0 b1 b2 b3 b4 b5 l v0_0 x46 x47)) (lt (IntKind.i64.wrap (v0_1 + (0 : Int))) fun x48 => lt (IntKind.i64.wrap (v0_2 + (1 : Int))) fun x49 => J 0 (nn0 :: []) (mk_ref05_Scores_0 m0 m1 m2 m3 m4 m5 m6 m7 m8 m9 m10 m11 b0 b1 b2 b3 b4 b5 l v0_0 x48 x49))))))) ((false = false) ∧ (cond ((((⟨m0, m1, m2, m3, m4, m5, m6, m7, m8, m9, m10, m11⟩ : TMod)).ans (⟨⟨b0, b1, b2⟩, ⟨b3, b4, b5⟩⟩ : TBox) (⟨((hitAt l v0_2.toNat).p.x), ((hitAt l v0_2.toNat).p.y), ((hitAt l v0_2.toNat).p.z)⟩ : V3) x1) == (0 : Int)) (lt (IntKind.i64.wrap (v0_0 + x4)) fun x50 => cond ((((⟨m0, m1, m2, m3, m4, m5, m6, m7, m8, m9, m10, m11⟩ : TMod)).ans (⟨⟨b0, b1, b2⟩, ⟨b3, b4, b5⟩⟩ : TBox) (⟨((hitAt l v0_2.toNat).p.x), ((hitAt l v0_2.toNat).p.y), ((hitAt l v0_2.toNat).p.z)⟩ : V3) x1) != (2 : Int)) (cond ((((⟨m0, m1, m2, m3, m4, m5, m6, m7, m8, m9, m10, m11⟩ : TMod)).ans (⟨⟨b0, b1, b2⟩, ⟨b3, b4, b5⟩⟩ : TBox) (⟨((hitAt l v0_2.toNat).p.x), ((hitAt l v0_2.toNat).p.y), ((hitAt l v0_2.toNat).p.z)⟩ : V3) x3) != (0 : Int)) (lt ((if x5 > x4 then x5 else x4)) fun x51 => lt (IntKind.i64.wrap (v0_1 + x51)) fun x52 => lt (IntKind.i64.wrap (v0_2 + (1 : Int))) fun x53 => J 0 (nn0 :: []) (mk_ref05_Scores_0 m0 m1 m2 m3 m4 m5 m6 m7 m8 m9 m10 m11 b0 b1 b2 b3 b4 b5 l x50 x52 x53)) (lt (IntKind.i64.wrap (v0_1 + x4)) fun x54 => lt (IntKind.i64.wrap (v0_2 + (1 : Int))) fun x55 => J 0 (nn0 :: []) (mk_ref05_Scores_0 m0 m1 m2 m3 m4 m5 m6 m7 m8 m9 m10 m11 b0 b1 b2 b3 b4 b5 l x50 x54 x55))) (cond ((((⟨m0, m1, m2, m3, m4, m5, m6, m7, m8, m9, m10, m11⟩ : TMod)).ans (⟨⟨b0, b1, b2⟩, ⟨b3, b4, b5⟩⟩ : TBox) (⟨((hitAt l v0_2.toNat).p.x), ((hitAt l v0_2.toNat).p.y), ((hitAt l v0_2.toNat).p.z)⟩ : V3) x3) != (0 : Int)) (lt ((if x5 > (0 : Int) then x5 else (0 : Int))) fun x56 => lt (IntKind.i64.wrap (v0_1 + x56)) fun x57 => lt (IntKind.i64.wrap (v0_2 + (1 : Int))) fun x58 => J 0 (nn0 :: []) (mk_ref05_Scores_0 m0 m1 m2 m3 m4 m5 m6 m7 m8 m9 m10 m11 b0 b1 b2 b3 b4 b5 l x50 x57 x58)) (lt (IntKind.i64.wrap (v0_1 + (0 : Int))) fun x59 => lt (IntKind.i64.wrap (v0_2 + (1 : Int))) fun x60 => J 0 (nn0 :: []) (mk_ref05_Scores_0 m0 m1 m2 m3 m4 m5 m6 m7 m8 m9 m10 m11 b0 b1 b2 b3 b4 b5 l x50 x59 x60)))) (cond ((((⟨m0, m1, m2, m3, m4, m5, m6, m7, m8, m9, m10, m11⟩ : TMod)).ans (⟨⟨b0, b1, b2⟩, ⟨b3, b4, b5⟩⟩ : TBox) (⟨((hitAt l v0_2.toNat).p.x), ((hitAt l v0_2.toNat).p.y), ((hitAt l v0_2.toNat).p.z)⟩ : V3) x3) == (2 : Int)) (lt (IntKind.i64.wrap (v0_0 + x5)) fun x61 => cond ((((⟨m0, m1, m2, m3, m4, m5, m6, m7, m8, m9, m10, m11⟩ : TMod)).ans (⟨⟨b0, b1, b2⟩, ⟨b3, b4, b5⟩⟩ : TBox) (⟨((hitAt l v0_2.toNat).p.x), ((hitAt l v0_2.toNat).p.y), ((hitAt l v0_2.toNat).p.z)⟩ : V3) x1) != (2 : Int)) (cond ((((⟨m0, m1, m2, m3, m4, m5, m6, m7, m8, m9, m10, m11⟩ : TMod)).ans (⟨⟨b0, b1, b2⟩, ⟨b3, b4, b5⟩⟩ : TBox) (⟨((hitAt l v0_2.toNat).p.x), ((hitAt l v0_2.toNat).p.y), ((hitAt l v0_2.toNat).p.z)⟩ : V3) x3) != (0 : Int)) (lt ((if x5 > x4 then x5 else x4)) fun x62 => lt (IntKind.i64.wrap (v0_1 + x62)) fun x63 => lt (IntKind.i64.wrap (v0_2 + (1 : Int))) fun x64 => J 0 (nn0 :: []) (mk_ref05_Scores_0 m0 m1 m2 m3 m4 m5 m6 m7 m8 m9 m10 m11 b0 b1 b2 b3 b4 b5 l x61 x63 x64)) (lt (IntKind.i64.wrap (v0_1 + x4)) fun x65 => lt (IntKind.i64.wrap (v0_2 + (1 : Int))) fun x66 => J 0 (nn0 :: []) (mk_ref05_Scores_0 m0 m1 m2 m3 m4 m5 m6 m7 m8 m9 m10 m11 b0 b1 b2 b3 b4 b5 l x61 x65 x66))) (cond ((((⟨m0, m1, m2, m3, m4, m5, m6, m7, m8, m9, m10, m11⟩ : TMod)).ans (⟨⟨b0, b1, b2⟩, ⟨b3, b4, b5⟩⟩ : TBox) (⟨((hitAt l v0_2.toNat).p.x), ((hitAt l v0_2.toNat).p.y), ((hitAt l v0_2.toNat).p.z)⟩ : V3) x3) != (0 : Int)) (lt ((if x5 > (0 : Int) then x5 else (0 : Int))) fun x67 => lt (IntKind.i64.wrap (v0_1 + x67)) fun x68 => lt (IntKind.i64.wrap (v0_2 + (1 : Int))) fun x69 => J 0 (nn0 :: []) (mk_ref05_Scores_0 m0 m1 m2 m3 m4 m5 m6 m7 m8 m9 m10 m11 b0 b1 b2 b3 b4 b5 l x61 x68 x69)) (lt (IntKind.i64.wrap (v0_1 + (0 : Int))) fun x70 => lt (IntKind.i64.wrap (v0_2 + (1 : Int))) fun x71 => J 0 (nn0 :: []) (mk_ref05_Scores_0 m0 m1 m2 m3 m4 m5 m6 m7 m8 m9 m10 m11 b0 b1 b2 b3 b4 b5 l x61 x70 x71)))) (cond ((((⟨m0, m1, m2, m3, m4, m5, m6, m7, m8, m9, m10, m11⟩ : TMod)).ans (⟨⟨b0, b1, b2⟩, ⟨b3, b4, b5⟩⟩ : TBox) (⟨((hitAt l v0_2.toNat).p.x), ((hitAt l v0_2.toNat).p.y), ((hitAt l v0_2.toNat).p.z)⟩ : V3) x1) != (2 : Int)) (cond ((((⟨m0, m1, m2, m3, m4, m5, m6, m7, m8, m9, m10, m11⟩ : TMod)).ans (⟨⟨b0, b1, b2⟩, ⟨b3, b4, b5⟩⟩ : TBox) (⟨((hitAt l v0_2.toNat).p.x), ((hitAt l v0_2.toNat).p.y), ((hitAt l v0_2.toNat).p.z)⟩ : V3) x3) != (0 : Int)) (lt ((if x5 > x4 then x5 else x4)) fun x72 => lt (IntKind.i64.wrap (v0_1 + x72)) fun x73 => lt (IntKind.i64.wrap (v0_2 + (1 : Int))) fun x74 => J 0 (nn0 :: []) (mk_ref05_Scores_0 m0 m1 m2 m3 m4 m5 m6 m7 m8 m9 m10 m11 b0 b1 b2 b3 b4 b5 l v0_0 x73 x74)) (lt (IntKind.i64.wrap (v0_1 + x4)) fun x75 => lt (IntKind.i64.wrap (v0_2 + (1 : Int))) fun x76 => J 0 (nn0 :: []) (mk_ref05_Scores_0 m0 m1 m2 m3 m4 m5 m6 m7 m8 m9 m10 m11 b0 b1 b2 b3 b4 b5 l v0_0 x75 x76))) (cond ((((⟨m0, m1, m2, m3, m4, m5, m6, m7, m8, m9, m10, m11⟩ : TMod)).ans (⟨⟨b0, b1, b2⟩, ⟨b3, b4, b5⟩⟩ : TBox) (⟨((hitAt l v0_2.toNat).p.x), ((hitAt l v0_2.toNat).p.y), ((hitAt l v0_2.toNat).p.z)⟩ : V3) x3) != (0 : Int)) (lt ((if x5 > (0 : Int) then x5 else (0 : Int))) fun x77 => lt (IntKind.i64.wrap (v0_1 + x77)) fun x78 => lt (IntKind.i64.wrap (v0_2 + (1 : Int))) fun x79 => J 0 (nn0 :: []) (mk_ref05_Scores_0 m0 m1 m2 m3 m4 m5 m6 m7 m8 m9 m10 m11 b0 b1 b2 b3 b4 b5 l v0_0 x78 x79)) (lt (IntKind.i64.wrap (v0_1 + (0 : Int))) fun x80 => lt (IntKind.i64.wrap (v0_2 + (1 : Int))) fun x81 => J 0 (nn0 :: []) (mk_ref05_Scores_0 m0 m1 m2 m3 m4 m5 m6 m7 m8 m9 m10 m11 b0 b1 b2 b3 b4 b5 l v0_0 x80 x81)))))))))))))))) (post (.t (.a [.v (.int .i64 v0_0), .v (.int .i64 v0_1)])))
theorem er_ref05_Scores_0 (J : Inv) (m0 m1 m2 m3 m4 m5 m6 m7 m8 m9 m10 m11 : Int) (b0 b1 b2 b3 b4 b5 : Int) (l : List THit) (v0_0 : Int) (v0_1 : Int) (v0_2 : Int) (nn0 : Nat) (post : DV → Prop) : round Try.prog tab S28 ann_ref05_Scores J Try.f43 post 0 (nn0 :: []) (mk_ref05_Scores_0 m0 m1 m2 m3 m4 m5 m6 m7 m8 m9 m10 m11 b0 b1 b2 b3 b4 b5 l v0_0 v0_1 v0_2) = rd_ref05_Scores_0 J m0 m1 m2 m3 m4 m5 m6 m7 m8 m9 m10 m11 b0 b1 b2 b3 b4 b5 l v0_0 v0_1 v0_2 nn0 post := by kernel_rfl
theorem lp_ref05_Scores (J : Inv) (post : DV → Prop) : AllG J (loopsFn Try.prog tab S28 ann_ref05_Scores J Try.f43 post) = (((∀ F s, ¬ J 0 (0 :: F) s) ∧ ∀ n F s, J 0 ((n + 1) :: F) s → round Try.prog tab S28 ann_ref05_Scores J Try.f43 post 0 (n :: F) s) ∧ True) := by kernel_rfl
def J_ref05_Scores (m0 m1 m2 m3 m4 m5 m6 m7 m8 m9 m10 m11 : Int) (b0 b1 b2 b3 b4 b5 : Int) (l : List THit) : Inv := fun b F s => match b, F with
  | 0, [nn0] => ∃ (v0_0 : Int) (v0_1 : Int) (v0_2 : Int), s = mk_ref05_Scores_0 m0 m1 m2 m3 m4 m5 m6 m7 m8 m9 m10 m11 b0 b1 b2 b3 b4 b5 l v0_0 v0_1 v0_2 ∧ (0 ≤ v0_2 ∧ v0_2 ≤ l.length ∧ (nn0 : Int) + v0_2 = l.length + 1 ∧ v0_0 = ((⟨m0, m1, m2, m3, m4, m5, m6, m7, m8, m9, m10, m11⟩ : TMod).scores (⟨⟨b0, b1, b2⟩, ⟨b3, b4, b5⟩⟩ : TBox) (l.take v0_2.toNat)).lo ∧ v0_1 = ((⟨m0, m1, m2, m3, m4, m5, m6, m7, m8, m9, m10, m11⟩ : TMod).scores (⟨⟨b0, b1, b2⟩, ⟨b3, b4, b5⟩⟩ : TBox) (l.take v0_2.toNat)).hi)
  | _, _ => False
set_option maxHeartbeats 8000000 in
set_option maxRecDepth 100000 in
theorem rnd_ref05_Scores_0 (m0 m1 m2 m3 m4 m5 m6 m7 m8 m9 m10 m11 : Int) (b0 b1 b2 b3 b4 b5 : Int) (l : List THit) (v0_0 : Int) (v0_1 : Int) (v0_2 : Int) (nn0 : Nat) (hp : ((⟨m0, m1, m2, m3, m4, m5, m6, m7, m8, m9, m10, m11⟩ : TMod)).Ok ∧ ((⟨⟨b0, b1, b2⟩, ⟨b3, b4, b5⟩⟩ : TBox)).lo.inS 20 = true ∧ ((⟨⟨b0, b1, b2⟩, ⟨b3, b4, b5⟩⟩ : TBox)).hi.inS 20 = true ∧ ((⟨m0, m1, m2, m3, m4, m5, m6, m7, m8, m9, m10, m11⟩ : TMod)).canBe (⟨⟨b0, b1, b2⟩, ⟨b3, b4, b5⟩⟩ : TBox) ∧ (l).length ≤ 12 ∧ ∀ i, i < (l).length → (hitAt l i).Ok) (hi : 0 ≤ v0_2 ∧ v0_2 ≤ l.length ∧ ((nn0 + 1) : Int) + v0_2 = l.length + 1 ∧ v0_0 = ((⟨m0, m1, m2, m3, m4, m5, m6, m7, m8, m9, m10, m11⟩ : TMod).scores (⟨⟨b0, b1, b2⟩, ⟨b3, b4, b5⟩⟩ : TBox) (l.take v0_2.toNat)).lo ∧ v0_1 = ((⟨m0, m1, m2, m3, m4, m5, m6, m7, m8, m9, m10, m11⟩ : TMod).scores (⟨⟨b0, b1, b2⟩, ⟨b3, b4, b5⟩⟩ : TBox) (l.take v0_2.toNat)).hi) : rd_ref05_Scores_0 (J_ref05_Scores m0 m1 m2 m3 m4 m5 m6 m7 m8 m9 m10 m11 b0 b1 b2 b3 b4 b5 l) m0 m1 m2 m3 m4 m5 m6 m7 m8 m9 m10 m11 b0 b1 b2 b3 b4 b5 l v0_0 v0_1 v0_2 nn0 (fun r => LeD r (.t (.a [.v (.int .i64 ((((⟨m0, m1, m2, m3, m4, m5, m6, m7, m8, m9, m10, m11⟩ : TMod)).scores (⟨⟨b0, b1, b2⟩, ⟨b3, b4, b5⟩⟩ : TBox) l).lo)), .v (.int .i64 ((((⟨m0, m1, m2, m3, m4, m5, m6, m7, m8, m9, m10, m11⟩ : TMod)).scores (⟨⟨b0, b1, b2⟩, ⟨b3, b4, b5⟩⟩ : TBox) l).hi))]))) := by
  obtain ⟨i1, i2, i3, i4, i5⟩ := hi
  obtain ⟨ho, hl, hh, hc, hn, hok⟩ := hp
  obtain ⟨k, rfl⟩ : ∃ k : Nat, v0_2 = k := ⟨v0_2.toNat, by omega⟩
  have hk : (k : Int).toNat = k := rfl
  rw [hk] at i4 i5
  unfold rd_ref05_Scores_0
  rw [hk]
  by_cases hlt : k < l.length
  case neg =>
    have e : k = l.length := by omega
    have hd : decide ((k : Int) < ((l.length : Nat) : Int)) = false := by rw [decide_eq_false_iff_not]; omega
    rw [hd]
    rw [e, List.take_length] at i4 i5
    refine cond_i (fun h => by cases h) (fun h => LeD.of ?_)
    rw [i4, i5]
  have hh0 := hok k hlt
  have hp0 := hh0.p
  have ht0 := hh0.t
  have hea := ho.ea
  have hla := ho.la
  obtain ⟨g1, g2⟩ := hit_prod ho hh0
  have hb0 := scores_bd (b := (⟨⟨b0, b1, b2⟩, ⟨b3, b4, b5⟩⟩ : TBox)) ho hok k (by omega)
  have hb1 := scores_bd (b := (⟨⟨b0, b1, b2⟩, ⟨b3, b4, b5⟩⟩ : TBox)) ho hok (k + 1) (by omega)
  have hst := scores_take (⟨m0, m1, m2, m3, m4, m5, m6, m7, m8, m9, m10, m11⟩ : TMod) (⟨⟨b0, b1, b2⟩, ⟨b3, b4, b5⟩⟩ : TBox) hlt
  generalize hh1 : hitAt l k = h1 at *
  simp only at hea hla g1 g2
  have w1 : IntKind.i64.wrap (h1.t + m8) = h1.t + m8 := IntWalk.i64_in _ (by omega)
  have w2 : IntKind.i64.wrap (h1.t - m9) = h1.t - m9 := IntWalk.i64_in _ (by omega)
  have w3 : IntKind.i64.wrap (h1.t - m9 - 1) = h1.t - m9 - 1 := IntWalk.i64_in _ (by omega)
  have w4 : IntKind.i64.wrap (h1.w * m11) = h1.w * m11 := IntWalk.i64_in _ (by omega)
  have w5 : IntKind.i64.wrap (h1.w * m10) = h1.w * m10 := IntWalk.i64_in _ (by omega)
  have hR : (⟨m0, m1, m2, m3, m4, m5, m6, m7, m8, m9, m10, m11⟩ : TMod).hitR (⟨⟨b0, b1, b2⟩, ⟨b3, b4, b5⟩⟩ : TBox) h1 = ownR ((⟨m0, m1, m2, m3, m4, m5, m6, m7, m8, m9, m10, m11⟩ : TMod).ans (⟨⟨b0, b1, b2⟩, ⟨b3, b4, b5⟩⟩ : TBox) h1.p (h1.t + m8)) ((⟨m0, m1, m2, m3, m4, m5, m6, m7, m8, m9, m10, m11⟩ : TMod).ans (⟨⟨b0, b1, b2⟩, ⟨b3, b4, b5⟩⟩ : TBox) h1.p (h1.t - m9 - 1)) (h1.w * m11) (h1.w * m10) := rfl
  rw [hR] at hst
  have hE := ans_val (⟨m0, m1, m2, m3, m4, m5, m6, m7, m8, m9, m10, m11⟩ : TMod) (⟨⟨b0, b1, b2⟩, ⟨b3, b4, b5⟩⟩ : TBox) h1.p (h1.t + m8)
  have hL := ans_val (⟨m0, m1, m2, m3, m4, m5, m6, m7, m8, m9, m10, m11⟩ : TMod) (⟨⟨b0, b1, b2⟩, ⟨b3, b4, b5⟩⟩ : TBox) h1.p (h1.t - m9 - 1)
  refine cond_i (fun h => ?_) (fun h => by rw [decide_eq_false_iff_not] at h; omega)
  refine ⟨by omega, by omega, ?_⟩
  rw [w1]
  refine lt_i fun x hx => ?_
  subst hx
  refine ⟨⟨ho, hl, hh, hc, hp0, by omega, by omega⟩, by omega, by omega, ?_⟩
  rw [w2]
  refine lt_i fun x hx => ?_
  subst hx
  rw [w3]
  refine lt_i fun x hx => ?_
  subst hx
  refine ⟨⟨ho, hl, hh, hc, hp0, by omega, by omega⟩, by omega, ?_⟩
  rw [w4]
  refine lt_i fun x hx => ?_
  subst hx
  refine ⟨by omega, ?_⟩
  rw [w5]
  refine lt_i fun x hx => ?_
  subst hx
  have e0 : (⟨h1.p.x, h1.p.y, h1.p.z⟩ : V3) = h1.p := rfl
  rw [e0]
  generalize (⟨m0, m1, m2, m3, m4, m5, m6, m7, m8, m9, m10, m11⟩ : TMod).ans (⟨⟨b0, b1, b2⟩, ⟨b3, b4, b5⟩⟩ : TBox) h1.p (h1.t + m8) = E at *
  generalize (⟨m0, m1, m2, m3, m4, m5, m6, m7, m8, m9, m10, m11⟩ : TMod).ans (⟨⟨b0, b1, b2⟩, ⟨b3, b4, b5⟩⟩ : TBox) h1.p (h1.t - m9 - 1) = D at *
  generalize h1.w * m11 = A at *
  generalize h1.w * m10 = C at *
  have hs1 := congrArg Rg.lo hst
  have hs2 := congrArg Rg.hi hst
  simp only [Rg.plus] at hs1 hs2
  rw [← i4] at hs1 hb0
  rw [← i5] at hs2 hb0
  clear hst hR hok hh0 hp0 ht0 e0 w1 w2 w3 w4 w5 ho hh1 hea hla
  generalize hq1 : ((⟨m0, m1, m2, m3, m4, m5, m6, m7, m8, m9, m10, m11⟩ : TMod).scores (⟨⟨b0, b1, b2⟩, ⟨b3, b4, b5⟩⟩ : TBox) (l.take (k + 1))).lo = Q1 at *
  generalize hq2 : ((⟨m0, m1, m2, m3, m4, m5, m6, m7, m8, m9, m10, m11⟩ : TMod).scores (⟨⟨b0, b1, b2⟩, ⟨b3, b4, b5⟩⟩ : TBox) (l.take (k + 1))).hi = Q2 at *
  push_cast at hb0 hb1
  have fin : ∀ {a b c : Int}, a = Q1 → b = Q2 → IntKind.i64.wrap ((k : Int) + 1) = c → J_ref05_Scores m0 m1 m2 m3 m4 m5 m6 m7 m8 m9 m10 m11 b0 b1 b2 b3 b4 b5 l 0 (nn0 :: []) (mk_ref05_Scores_0 m0 m1 m2 m3 m4 m5 m6 m7 m8 m9 m10 m11 b0 b1 b2 b3 b4 b5 l a b c) := by
    intro a b c e1 e2 e3
    rw [IntWalk.i64_in _ (by omega)] at e3
    subst e3
    refine ⟨_, _, _, rfl, by omega, by omega, by omega, ?_, ?_⟩
    · rw [show ((k : Int) + 1).toNat = k + 1 by omega, hq1]; exact e1
    · rw [show ((k : Int) + 1).toNat = k + 1 by omega, hq2]; exact e2
  unfold ownR at hs1 hs2
  simp only at hs1 hs2
  (repeat' with_reducible first | (refine lt_i ?_; intro _ _) | (refine cond_i ?_ ?_ <;> intro _) | (refine And.intro (by decide) ?_))
  all_goals
    simp only [beq_iff_eq, beq_eq_false_iff_ne, bne_iff_ne, bne_eq_false_iff_eq, ne_eq, mn_if, mx_if] at *
    refine fin ?_ ?_ ‹IntKind.i64.wrap ((k : Int) + 1) = _›
    all_goals
      (try (have q1 := ‹IntKind.i64.wrap (v0_0 + _) = _›; rw [IntWalk.i64_in _ (by omega)] at q1))
      (try (have q2 := ‹IntKind.i64.wrap (v0_1 + _) = _›; rw [IntWalk.i64_in _ (by omega)] at q2))
      (repeat' split at hs1) <;> (repeat' split at hs2) <;> omega
theorem zero_ref05_Scores_0 (m0 m1 m2 m3 m4 m5 m6 m7 m8 m9 m10 m11 : Int) (b0 b1 b2 b3 b4 b5 : Int) (l : List THit) (v0_0 : Int) (v0_1 : Int) (v0_2 : Int)  (hi : 0 ≤ v0_2 ∧ v0_2 ≤ l.length ∧ (0 : Int) + v0_2 = l.length + 1 ∧ v0_0 = ((⟨m0, m1, m2, m3, m4, m5, m6, m7, m8, m9, m10, m11⟩ : TMod).scores (⟨⟨b0, b1, b2⟩, ⟨b3, b4, b5⟩⟩ : TBox) (l.take v0_2.toNat)).lo ∧ v0_1 = ((⟨m0, m1, m2, m3, m4, m5, m6, m7, m8, m9, m10, m11⟩ : TMod).scores (⟨⟨b0, b1, b2⟩, ⟨b3, b4, b5⟩⟩ : TBox) (l.take v0_2.toNat)).hi) : False := by
  omega
set_option maxHeartbeats 8000000 in
set_option maxRecDepth 100000 in
theorem spec_ref05_Scores (m0 m1 m2 m3 m4 m5 m6 m7 m8 m9 m10 m11 : Int) (b0 b1 b2 b3 b4 b5 : Int) (l : List THit) (hp : ((⟨m0, m1, m2, m3, m4, m5, m6, m7, m8, m9, m10, m11⟩ : TMod)).Ok ∧ ((⟨⟨b0, b1, b2⟩, ⟨b3, b4, b5⟩⟩ : TBox)).lo.inS 20 = true ∧ ((⟨⟨b0, b1, b2⟩, ⟨b3, b4, b5⟩⟩ : TBox)).hi.inS 20 = true ∧ ((⟨m0, m1, m2, m3, m4, m5, m6, m7, m8, m9, m10, m11⟩ : TMod)).canBe (⟨⟨b0, b1, b2⟩, ⟨b3, b4, b5⟩⟩ : TBox) ∧ (l).length ≤ 12 ∧ ∀ i, i < (l).length → (hitAt l i).Ok) : vc_ref05_Scores (J_ref05_Scores m0 m1 m2 m3 m4 m5 m6 m7 m8 m9 m10 m11 b0 b1 b2 b3 b4 b5 l) m0 m1 m2 m3 m4 m5 m6 m7 m8 m9 m10 m11 b0 b1 b2 b3 b4 b5 l (fun r => LeD r (.t (.a [.v (.int .i64 ((((⟨m0, m1, m2, m3, m4, m5, m6, m7, m8, m9, m10, m11⟩ : TMod)).scores (⟨⟨b0, b1, b2⟩, ⟨b3, b4, b5⟩⟩ : TBox) l).lo)), .v (.int .i64 ((((⟨m0, m1, m2, m3, m4, m5, m6, m7, m8, m9, m10, m11⟩ : TMod)).scores (⟨⟨b0, b1, b2⟩, ⟨b3, b4, b5⟩⟩ : TBox) l).hi))]))) := by
  unfold vc_ref05_Scores
  exact ⟨l.length + 1, 0, 0, 0, rfl, by omega, by omega, by omega, by simp [TMod.scores], by simp [TMod.scores]⟩
theorem all_ref05_Scores (m0 m1 m2 m3 m4 m5 m6 m7 m8 m9 m10 m11 : Int) (b0 b1 b2 b3 b4 b5 : Int) (l : List THit) (hp : ((⟨m0, m1, m2, m3, m4, m5, m6, m7, m8, m9, m10, m11⟩ : TMod)).Ok ∧ ((⟨⟨b0, b1, b2⟩, ⟨b3, b4, b5⟩⟩ : TBox)).lo.inS 20 = true ∧ ((⟨⟨b0, b1, b2⟩, ⟨b3, b4, b5⟩⟩ : TBox)).hi.inS 20 = true ∧ ((⟨m0, m1, m2, m3, m4, m5, m6, m7, m8, m9, m10, m11⟩ : TMod)).canBe (⟨⟨b0, b1, b2⟩, ⟨b3, b4, b5⟩⟩ : TBox) ∧ (l).length ≤ 12 ∧ ∀ i, i < (l).length → (hitAt l i).Ok) : AllG (J_ref05_Scores m0 m1 m2 m3 m4 m5 m6 m7 m8 m9 m10 m11 b0 b1 b2 b3 b4 b5 l) (loopsFn Try.prog tab S28 ann_ref05_Scores (J_ref05_Scores m0 m1 m2 m3 m4 m5 m6 m7 m8 m9 m10 m11 b0 b1 b2 b3 b4 b5 l) Try.f43 (fun r => LeD r (.t (.a [.v (.int .i64 ((((⟨m0, m1, m2, m3, m4, m5, m6, m7, m8, m9, m10, m11⟩ : TMod)).scores (⟨⟨b0, b1, b2⟩, ⟨b3, b4, b5⟩⟩ : TBox) l).lo)), .v (.int .i64 ((((⟨m0, m1, m2, m3, m4, m5, m6, m7, m8, m9, m10, m11⟩ : TMod)).scores (⟨⟨b0, b1, b2⟩, ⟨b3, b4, b5⟩⟩ : TBox) l).hi))])))) := by
  rw [lp_ref05_Scores]
  refine ⟨⟨?_, ?_⟩, trivial⟩
  · intro F s h
    obtain _ | ⟨g, F⟩ := F
    case cons => exact h.elim
    obtain ⟨w0, w1, w2, rfl, hi⟩ := h
    exact zero_ref05_Scores_0 _ _ _ _ _ _ _ _ _ _ _ _ _ _ _ _ _ _ _ _ _ _ hi
  · intro n F s h
    obtain _ | ⟨g, F⟩ := F
    case cons => exact h.elim
    obtain ⟨w0, w1, w2, rfl, hi⟩ := h
    rw [er_ref05_Scores_0]
    exact rnd_ref05_Scores_0 _ _ _ _ _ _ _ _ _ _ _ _ _ _ _ _ _ _ _ _ _ _ _ hp hi
def con_ref05_Scores : Con := fun args => match args with
  | [.t (.a [.v (.int .i64 m0), .v (.int .i64 m1), .v (.int .i64 m2), .v (.int .i64 m3), .v (.int .i64 m4), .v (.int .i64 m5), .v (.int .i64 m6), .v (.int .i64 m7), .v (.int .i64 m8), .v (.int .i64 m9), .v (.int .i64 m10), .v (.int .i64 m11)]), .t (.a [.v (.int .i64 b0), .v (.int .i64 b1), .v (.int .i64 b2), .v (.int .i64 b3), .v (.int .i64 b4), .v (.int .i64 b5)]), .t (.c (.sl 5 n_l c_l))] => some (.t (.a [.v (.int .i64 ((((⟨m0, m1, m2, m3, m4, m5, m6, m7, m8, m9, m10, m11⟩ : TMod)).scores (⟨⟨b0, b1, b2⟩, ⟨b3, b4, b5⟩⟩ : TBox) (listC n_l mkHit c_l)).lo)), .v (.int .i64 ((((⟨m0, m1, m2, m3, m4, m5, m6, m7, m8, m9, m10, m11⟩ : TMod)).scores (⟨⟨b0, b1, b2⟩, ⟨b3, b4, b5⟩⟩ : TBox) (listC n_l mkHit c_l)).hi))]), some (numsP 5 n_l c_l ∧ ((⟨m0, m1, m2, m3, m4, m5, m6, m7, m8, m9, m10, m11⟩ : TMod)).Ok ∧ ((⟨⟨b0, b1, b2⟩, ⟨b3, b4, b5⟩⟩ : TBox)).lo.inS 20 = true ∧ ((⟨⟨b0, b1, b2⟩, ⟨b3, b4, b5⟩⟩ : TBox)).hi.inS 20 = true ∧ ((⟨m0, m1, m2, m3, m4, m5, m6, m7, m8, m9, m10, m11⟩ : TMod)).canBe (⟨⟨b0, b1, b2⟩, ⟨b3, b4, b5⟩⟩ : TBox) ∧ ((listC n_l mkHit c_l)).length ≤ 12 ∧ ∀ i, i < ((listC n_l mkHit c_l)).length → (hitAt (listC n_l mkHit c_l) i).Ok), false)
  | _ => none
theorem ok_ref05_Scores : Ok Try.prog 43 con_ref05_Scores := by
  refine Ok.fn (ann := ann_ref05_Scores) mixed tabOK VS28 ValidIt.no (fn := Try.f43) (by kernel_rfl) (by kernel_rfl) fit_ref05_Scores fun args r pre fresh h hp => ?_
  unfold con_ref05_Scores at h
  split at h
  · rename_i m0 m1 m2 m3 m4 m5 m6 m7 m8 m9 m10 m11 b0 b1 b2 b3 b4 b5 n_l c_l
    cases h
    obtain ⟨hp0, hp⟩ := hp
    refine ⟨rfl, J_ref05_Scores m0 m1 m2 m3 m4 m5 m6 m7 m8 m9 m10 m11 b0 b1 b2 b3 b4 b5 (listC n_l mkHit c_l), [.t (.a [.v (.int .i64 m0), .v (.int .i64 m1), .v (.int .i64 m2), .v (.int .i64 m3), .v (.int .i64 m4), .v (.int .i64 m5), .v (.int .i64 m6), .v (.int .i64 m7), .v (.int .i64 m8), .v (.int .i64 m9), .v (.int .i64 m10), .v (.int .i64 m11)]), .t (.a [.v (.int .i64 b0), .v (.int .i64 b1), .v (.int .i64 b2), .v (.int .i64 b3), .v (.int .i64 b4), .v (.int .i64 b5)]), .t (.c (.sl 5 ((listC n_l mkHit c_l).length) (hitsC (listC n_l mkHit c_l))))], ?_, Nat.le_of_ble_eq_true (by kernel_rfl), ?_, ?_⟩
    · intro w N vs h
      exact (LeA_cons (fun w N v h => h) (LeA_cons (fun w N v h => h) (LeA_cons (leL_THit hp0) LeA_nil))) w N vs h
    · rw [ev_ref05_Scores]; exact spec_ref05_Scores m0 m1 m2 m3 m4 m5 m6 m7 m8 m9 m10 m11 b0 b1 b2 b3 b4 b5 (listC n_l mkHit c_l) hp
    · exact all_ref05_Scores m0 m1 m2 m3 m4 m5 m6 m7 m8 m9 m10 m11 b0 b1 b2 b3 b4 b5 (listC n_l mkHit c_l) hp
  · cases h
def S29 : Sum := addS S28 43 con_ref05_Scores
theorem VS29 : Valid Try.prog S29 := Valid.add VS28 ok_ref05_Scores

end Go.Proofs.Ytlmdmpjfehpjeaa
