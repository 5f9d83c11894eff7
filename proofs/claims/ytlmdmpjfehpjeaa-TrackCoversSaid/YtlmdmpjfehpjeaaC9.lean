/- Texts of this claim, together. -/
import Derived.Test.YtlmdmpjfehpjeaaC8
import Derived.Test.YtlmdmpjfehpjeaaC7
import Derived.Test.YtlmdmpjfehpjeaaC6

set_option linter.unusedVariables false
set_option linter.unusedSimpArgs false
namespace Go.Proofs.Ytlmdmpjfehpjeaa
open Go.RowKit
def Rg.bd (r : Rg) (A : Int) : Prop := (-A ≤ r.lo ∧ r.lo ≤ A) ∧ (-A ≤ r.hi ∧ r.hi ≤ A)
theorem Rg.times_bd {r s : Rg} {A B C : Int} (h : r.bd A) (g : s.bd B) (hC : A * B ≤ C) : (r.times s).bd C := by
 have h1 := mul_rg h.1 g.1 hC
 have h2 := mul_rg h.1 g.2 hC
 have h3 := mul_rg h.2 g.1 hC
 have h4 := mul_rg h.2 g.2 hC
 unfold Rg.bd Rg.times mn4 mx4; simp only; omega
theorem Rg.plus_bd {r s : Rg} {A B C : Int} (h : r.bd A) (g : s.bd B) (hC : A + B ≤ C) : (r.plus s).bd C := by
 unfold Rg.bd Rg.plus at *; simp only; omega
theorem Rg.square_bd {r : Rg} {A C : Int} (h : r.bd A) (hC : A * A ≤ C) : r.square.bd C ∧ 0 ≤ r.square.lo ∧ 0 ≤ r.square.hi := by
 have := Rg.square_sz h.1 h.2 hC
 unfold Rg.bd; omega
def CR (f : FuncId) (args : Array Value) (v : Value) : Prop := ∀ W, Calls Try.prog f args W fun e w' => e = .returned v ∧ Below W.heap.size W w'
def Stg (tk d A : Int) (r P L P' L' : Rg) : Prop :=
 ∃ (R S U V : Rg) (TD : Int), IntKind.i64.wrap (tk * d) = TD ∧ CR 131 #[r.v, .agg #[.int .i64 (-A), .int .i64 (-A)]] R.v ∧ CR 129 #[R.v, .agg #[.int .i64 TD, .int .i64 TD]] S.v ∧ CR 131 #[S.v, r.v] U.v ∧ CR 129 #[P.v, U.v] P'.v ∧ CR 130 #[S.v] V.v ∧ CR 129 #[L.v, V.v] L'.v
theorem stg {tk d A : Int} {r P L : Rg} (htk : 1 ≤ tk ∧ tk ≤ 20) (hd : -2000 ≤ d ∧ d ≤ 2000) (hA : -1010101 ≤ A ∧ A ≤ 1010101) (hr : r.bd 20) (hP : P.bd 1000000000) (hL : L.bd 1000000000000000) :
  Stg tk d A r P L (P.plus ((restR tk r d A).times r)) (L.plus (restR tk r d A).square) ∧ ((restR tk r d A).times r).bd 404840400 ∧ ((restR tk r d A).square.bd 409739373680400 ∧ 0 ≤ (restR tk r d A).square.lo ∧ 0 ≤ (restR tk r d A).square.hi) := by
 have hT := mul_rg (x := tk) (y := d) (A := 20) (B := 2000) (C := 40000) (by omega) hd (by decide)
 have hn : (⟨-A, -A⟩ : Rg).bd 1010101 := by unfold Rg.bd; simp only; omega
 have hR := Rg.times_bd hr hn (C := 20202020) (by decide)
 have hTD : (⟨tk * d, tk * d⟩ : Rg).bd 40000 := ⟨hT, hT⟩
 have hS := Rg.plus_bd hR hTD (C := 20242020) (by decide)
 have hU := Rg.times_bd hS hr (C := 404840400) (by decide)
 have hV := Rg.square_bd hS (C := 409739373680400) (by decide)
 refine ⟨⟨r.times ⟨-A, -A⟩, restR tk r d A, (restR tk r d A).times r, (restR tk r d A).square, tk * d, IntWalk.i64_in _ (by omega), ?_, ?_, ?_, ?_, ?_, ?_⟩, hU, hV⟩
 ·intro W
  have m1 := mul_rg hr.1 hn.1 (C := 20202020) (by decide)
  have m2 := mul_rg hr.2 hn.1 (C := 20202020) (by decide)
  exact track_times r ⟨-A, -A⟩ W (by simp only at *; omega) (by simp only at *; omega) (by simp only at *; omega) (by simp only at *; omega)
 ·intro W
  exact track_plus _ ⟨tk * d, tk * d⟩ W (by have := hR.1; omega) (by have := hR.2; omega) (by simp only; omega) (by simp only; omega)
 ·intro W
  have hS' : (restR tk r d A).bd 20242020 := hS
  have m1 := mul_rg hS'.1 hr.1 (C := 404840400) (by decide)
  have m2 := mul_rg hS'.1 hr.2 (C := 404840400) (by decide)
  have m3 := mul_rg hS'.2 hr.1 (C := 404840400) (by decide)
  have m4 := mul_rg hS'.2 hr.2 (C := 404840400) (by decide)
  exact track_times _ _ W (by omega) (by omega) (by omega) (by omega)
 ·intro W
  have hU' : ((restR tk r d A).times r).bd 404840400 := hU
  unfold Rg.bd at hU' hP
  exact track_plus _ _ W (by omega) (by omega) (by omega) (by omega)
 ·intro W
  have hS' : (restR tk r d A).bd 20242020 := hS
  unfold Rg.bd at hS'
  exact track_square _ W (by omega) (by omega)
 ·intro W
  have hV' : (restR tk r d A).square.bd 409739373680400 := hV.1
  unfold Rg.bd at hV' hL
  exact track_plus _ _ W (by omega) (by omega) (by omega) (by omega)
theorem stg3 {m : TMod} {b : TBox} {p : V3} {t : Int} (ho : m.Ok) (hl : b.lo.inS 20 = true) (hh : b.hi.inS 20 = true) (hp : p.inS 1000 = true) (ht : -1000101 ≤ t ∧ t ≤ 1000100) :
  ∃ P1 P2 L1 L2 : Rg, Stg m.tk (p.x - m.px) (t - m.tm) b.rx ⟨0, 0⟩ ⟨0, 0⟩ P1 L1 ∧ Stg m.tk (p.y - m.py) (t - m.tm) b.ry P1 L1 P2 L2 ∧ Stg m.tk (p.z - m.pz) (t - m.tm) b.rz P2 L2 (m.prodR b p t) (m.leftR b p t) ∧ (m.prodR b p t).bd 1214521200 ∧ (m.leftR b p t).bd 1229218121041200 ∧ 0 ≤ (m.leftR b p t).lo ∧ 0 ≤ (m.leftR b p t).hi := by
 obtain ⟨a1, a2, a3⟩ := inS_iff.1 hl
 obtain ⟨b1, b2, b3⟩ := inS_iff.1 hh
 obtain ⟨c1, c2, c3⟩ := inS_iff.1 hp
 have hA : -1010101 ≤ t - m.tm ∧ t - m.tm ≤ 1010101 := by have := ho.tm; omega
 have z : (⟨0, 0⟩ : Rg).bd 0 := by unfold Rg.bd; simp
 have zw : ∀ (C : Int), 0 ≤ C → (⟨0, 0⟩ : Rg).bd C := fun C h => by unfold Rg.bd; simp only; omega
 have s0 := stg (tk := m.tk) (d := p.x - m.px) (A := t - m.tm) (r := b.rx) (P := ⟨0, 0⟩) (L := ⟨0, 0⟩) ho.tk (by have := ho.px; omega) hA ⟨a1, b1⟩ (zw _ (by decide)) (zw _ (by decide))
 have p1 := Rg.plus_bd z s0.2.1 (C := 404840400) (by decide)
 have l1 := Rg.plus_bd z s0.2.2.1 (C := 409739373680400) (by decide)
 have w : ∀ {r : Rg} {A B : Int}, r.bd A → A ≤ B → r.bd B := fun h g => by unfold Rg.bd at *; omega
 have s1 := stg (tk := m.tk) (d := p.y - m.py) (A := t - m.tm) (r := b.ry) ho.tk (by have := ho.py; omega) hA ⟨a2, b2⟩ (w p1 (by decide)) (w l1 (by decide))
 have p2 := Rg.plus_bd p1 s1.2.1 (C := 809680800) (by decide)
 have l2 := Rg.plus_bd l1 s1.2.2.1 (C := 819478747360800) (by decide)
 have s2 := stg (tk := m.tk) (d := p.z - m.pz) (A := t - m.tm) (r := b.rz) ho.tk (by have := ho.pz; omega) hA ⟨a3, b3⟩ (w p2 (by decide)) (w l2 (by decide))
 have p3 := Rg.plus_bd p2 s2.2.1 (C := 1214521200) (by decide)
 have l3 := Rg.plus_bd l2 s2.2.2.1 (C := 1229218121041200) (by decide)
 have h0 := s0.2.2.2
 have h1 := s1.2.2.2
 have h2 := s2.2.2.2
 refine ⟨_, _, _, _, s0.1, s1.1, s2.1, p3, l3, ?_, ?_⟩
 ·unfold TMod.leftR Rg.plus; simp only; omega
 ·unfold TMod.leftR Rg.plus; simp only; omega
theorem fast_bd {m : TMod} {b : TBox} (ho : m.Ok) (hl : b.lo.inS 20 = true) (hh : b.hi.inS 20 = true) (hc : m.canBe b) :
  (1 ≤ (m.fast b).lo ∧ (m.fast b).lo ≤ 1200) ∧ (1 ≤ (m.fast b).hi ∧ (m.fast b).hi ≤ 1200) ∧ IntKind.i64.wrap (max b.squares.lo m.lo - m.slow) = (m.fast b).lo ∧ IntKind.i64.wrap (min b.squares.hi m.hi - m.slow) = (m.fast b).hi := by
 obtain ⟨a1, a2, a3⟩ := inS_iff.1 hl
 obtain ⟨b1, b2, b3⟩ := inS_iff.1 hh
 have s1 := Rg.square_sz (r := b.rx) (A := 20) (C := 400) a1 b1 (by decide)
 have s2 := Rg.square_sz (r := b.ry) (A := 20) (C := 400) a2 b2 (by decide)
 have s3 := Rg.square_sz (r := b.rz) (A := 20) (C := 400) a3 b3 (by decide)
 have hsq : (0 ≤ b.squares.lo ∧ b.squares.lo ≤ 1200) ∧ (0 ≤ b.squares.hi ∧ b.squares.hi ≤ 1200) := by unfold TBox.squares Rg.plus; simp only; omega
 have h1 := ho.slo; have h2 := ho.slp; have h3 := ho.lo; have h4 := ho.hi; have h5 := ho.ord
 unfold TMod.canBe at hc
 have e1 : (m.fast b).lo = max b.squares.lo m.lo - m.slow := rfl
 have e2 : (m.fast b).hi = min b.squares.hi m.hi - m.slow := rfl
 refine ⟨by omega, by omega, ?_, ?_⟩
 ·rw [e1]; exact IntWalk.i64_in _ (by omega)
 ·rw [e2]; exact IntWalk.i64_in _ (by omega)
end Go.Proofs.Ytlmdmpjfehpjeaa
set_option linter.unusedVariables false
set_option linter.unusedSimpArgs false
namespace Go.Proofs.Ytlmdmpjfehpjeaa
open Go.RowKit
theorem law_few5 (l : List THit) (v : Value) (w : World) (h : HitsAt w v l) :
  Calls Try.prog 28 #[v] w fun e w' => e = .returned (.bool (decide (l.length ≤ 14))) ∧ w = w' := by
 obtain ⟨ao, cap, rfl, h1, h2, h3⟩ := h.opn
 clear h h3
 unfold maxLen at h2
 by_cases hl : l.length ≤ 14
 all_goals
  have HL := hid hl
  go_enter Try.func28, Try.ntmps28
  go_wp2_with fail
  go_ret
  exact ⟨ret_bool (by simp [HL.out]; omega), rfl⟩
set_option maxRecDepth 100000 in
set_option maxHeartbeats 4000000 in
theorem ref_CheckHits (l : List THit) (v : Value) (w : World) (h : HitsAt w v l) :
  Calls Try.prog 33 #[v] w fun e w' => e = .returned (.tuple #[.int .i64 (hitsIdx l), .int .i64 (hitsE l)]) ∧ Below w.heap.size w w' := by
 obtain ⟨ao, cap, rfl, h1, h2, h3⟩ := h.opn
 unfold maxLen at h2
 by_cases hbig : 12 < l.length
 ·have HR : Hid (hitsIdx l = 0 ∧ hitsE l = 8) := hid (by simp [hitsIdx, hitsE, hbig])
  go_enter Try.func33, Try.ntmps33
  go_wp2_with fail
  go_ret2
  exact ⟨by rw [HR.out.1, HR.out.2]; rfl, Below.refl _ _⟩
 have HBIG := hid hbig
 go_enter Try.func33, Try.ntmps33
 go_wp2_with fail
 go_loopw [4] (fun i wr => ∃ k : Nat, k ≤ l.length ∧ i = .int .i64 k ∧ Hid (∀ j, j < k → (hitAt l j).err = 0) ∧ Below w.heap.size w wr) (fun i _ => l.length - (intOf i).toNat)
 case atStart => exact ⟨0, Nat.zero_le _, rfl, hid (fun j hj => by omega), Below.refl _ _⟩
 case round =>
  obtain ⟨k, hk, rfl, HZ, hbel⟩ := hrel
  have hzw := hbel.size
  by_cases hlt : k < l.length
  ·obtain ⟨b, off, rfl, hb, hc⟩ := h3 k hlt
   obtain ⟨c0, c1, c2, c3, c4⟩ := hc k hlt
   obtain ⟨hcb, hfb⟩ := bcell hbel
   rw [← hcb b _ hb] at c0 c1 c2 c3 c4
   have hbw : b < wr.heap.size := by omega
   have HBAD : Hid (∀ e, (hitAt l k).err = e → e ≠ 0 → hitsIdx l = k ∧ hitsE l = e) := hid (by
    intro e he hne
    have hne' : (hitAt l k).err ≠ 0 := by rw [he]; exact hne
    unfold hitsIdx hitsE
    rw [if_neg hbig, if_neg hbig, scan_at (f := fun i => (hitAt l i).err) HZ.out hlt hne', scanI_at (f := fun i => (hitAt l i).err) HZ.out hlt hne', he]
    exact ⟨rfl, rfl⟩)
   have HOK : Hid ((hitAt l k).err = 0 → ∀ j, j < k + 1 → (hitAt l j).err = 0) := hid (by
    intro he j hj
    rcases Nat.lt_or_ge j k with h | h
    ·exact HZ.out j h
    ·rw [show j = k from by omega]; exact he)
   have HE : Hid ((hitAt l k).err = firstNZ [plE (hitAt l k).p, tmE (hitAt l k).t, unl (inB (hitAt l k).w 0 100) 2]) := hid rfl
   have HP : Hid (∀ W, Calls Try.prog 21 #[.agg #[.int .i64 (hitAt l k).p.x, .int .i64 (hitAt l k).p.y, .int .i64 (hitAt l k).p.z]] W fun e w' => e = .returned (.int .i64 (plE (hitAt l k).p)) ∧ Below W.heap.size W w') := hid (fun W => ref_PlaceErr _ _ _ W)
   have HT : Hid (∀ W, Calls Try.prog 45 #[.int .i64 (hitAt l k).t] W fun e w' => e = .returned (.int .i64 (tmE (hitAt l k).t)) ∧ W = w') := hid (fun W => ref_TimeErr _ W)
   generalize (hitAt l k).err = E at HBAD HOK HE
   generalize hitAt l k = x at *
   obtain ⟨⟨x0, x1, x2⟩, t, u⟩ := x
   simp only at *
   generalize plE ⟨x0, x1, x2⟩ = P at HP HE
   generalize tmE t = T at HT HE
   clear hc h3 h hcb hfb
   by_cases hp : P = 0
   ·subst hp
    by_cases ht : T = 0
    ·subst ht
     cases hu : inB u 0 100
     ·have HV : Hid (E = 2) := hid (by rw [HE.out, hu]; rfl)
      have HU := hid hu
      go_wp2_with (first | (go_at_call 21; refine (HP.out _).mono ?_; rintro _ w2 ⟨rfl, hb2⟩; obtain ⟨hcb, _⟩ := bcell hb2; rw [← hcb b _ hbw] at c0 c1 c2 c3 c4; have hbw2 : b < w2.heap.size := Nat.lt_of_lt_of_le hbw hb2.size; clear hcb) | (go_at_call 45; refine (HT.out _).mono ?_; rintro _ _ ⟨rfl, rfl⟩) | (go_at_call 80; refine (ref_isWeight _ _).mono ?_; rintro _ _ ⟨rfl, rfl⟩))
      go_ret2
      obtain ⟨e2, e3⟩ := HBAD.out _ HV.out (by decide)
      exact ⟨by rw [e2, e3]; rfl, by exact BelowA⟩
     ·have HV : Hid (E = 0) := hid (by rw [HE.out, hu]; rfl)
      go_wp2_with (first | (go_at_call 21; refine (HP.out _).mono ?_; rintro _ w2 ⟨rfl, hb2⟩; obtain ⟨hcb, _⟩ := bcell hb2; rw [← hcb b _ hbw] at c0 c1 c2 c3 c4; have hbw2 : b < w2.heap.size := Nat.lt_of_lt_of_le hbw hb2.size; clear hcb) | (go_at_call 45; refine (HT.out _).mono ?_; rintro _ _ ⟨rfl, rfl⟩) | (go_at_call 80; refine (ref_isWeight _ _).mono ?_; rintro _ _ ⟨rfl, rfl⟩))
      go_roundw
      case rel => exact ⟨k + 1, by omega, by go_num, hid (HOK.out HV.out), by exact BelowA⟩
      case measure => simp [intOf]; omega
    ·have hne : (T != 0) = true := by simpa using ht
     have HV : Hid (E = T) := hid (by rw [HE.out]; simp [firstNZ, ht])
     have HT0 := hid ht
     clear ht
     go_wp2_with (first | (go_at_call 21; refine (HP.out _).mono ?_; rintro _ w2 ⟨rfl, hb2⟩; obtain ⟨hcb, _⟩ := bcell hb2; rw [← hcb b _ hbw] at c0 c1 c2 c3 c4; have hbw2 : b < w2.heap.size := Nat.lt_of_lt_of_le hbw hb2.size; clear hcb) | (go_at_call 45; refine (HT.out _).mono ?_; rintro _ _ ⟨rfl, rfl⟩))
     go_ret2
     obtain ⟨e2, e3⟩ := HBAD.out _ HV.out HT0.out
     exact ⟨by rw [e2, e3]; rfl, by exact BelowA⟩
   ·have hne : (P != 0) = true := by simpa using hp
    have HV : Hid (E = P) := hid (by rw [HE.out]; simp [firstNZ, hp])
    have HP0 := hid hp
    clear hp
    go_wp2_with (go_at_call 21; refine (HP.out _).mono ?_; rintro _ w2 ⟨rfl, hb2⟩)
    go_ret2
    obtain ⟨e2, e3⟩ := HBAD.out _ HV.out HP0.out
    exact ⟨by rw [e2, e3]; rfl, by exact BelowA⟩
  ·have hkl : k = l.length := by omega
   have e1 := scan_end (f := fun i => (hitAt l i).err) (n := l.length) fun j hj => HZ.out j (by omega)
   have e2 := scanI_end (f := fun i => (hitAt l i).err) (n := l.length) fun j hj => HZ.out j (by omega)
   have HR : Hid (hitsIdx l = 0 ∧ hitsE l = 0) := hid (by unfold hitsIdx hitsE; rw [if_neg hbig, if_neg hbig, e1, e2]; exact ⟨rfl, rfl⟩)
   clear e1 e2
   go_wp2_with fail
   go_ret2
   exact ⟨by rw [HR.out.1, HR.out.2]; rfl, by exact BelowA⟩
theorem ref_HitsErr (l : List THit) (v : Value) (w : World) (h : HitsAt w v l) :
  Calls Try.prog 40 #[v] w fun e w' => e = .returned (.int .i64 (hitsE l)) ∧ Below w.heap.size w w' := by
 go_enter Try.func40, Try.ntmps40
 go_wp2_with (go_at_call 33; refine (ref_CheckHits l v _ h).mono ?_; rintro _ w1 ⟨rfl, hb1⟩)
 go_ret
 exact ⟨rfl, hb1⟩
end Go.Proofs.Ytlmdmpjfehpjeaa
set_option linter.unusedVariables false
set_option linter.unusedSimpArgs false
namespace Go.Proofs.Ytlmdmpjfehpjeaa
open Go.RowKit Ev
def hitsC (l : List THit) : Nat → Nat → CV := fun i j => match j with
 | 0 => .v (.int .i64 (hitAt l i).p.x)
 | 1 => .v (.int .i64 (hitAt l i).p.y)
 | 2 => .v (.int .i64 (hitAt l i).p.z)
 | 3 => .v (.int .i64 (hitAt l i).t)
 | _ => .v (.int .i64 (hitAt l i).w)
def mkHit (g : Nat → Int) : THit := ⟨⟨g 0, g 1, g 2⟩, g 3, g 4⟩
theorem hitAt_C {n : Nat} {c : Nat → Nat → CV} {i : Nat} (hi : i < n) : hitAt (listC n mkHit c) i = mkHit fun j => cvInt (c i j) := listC_get hi
theorem leL_THit {n : Nat} {c : Nat → Nat → CV} (hp : numsP 5 n c) : LeD (.t (.c (.sl 5 n c))) (.t (.c (.sl 5 (listC n mkHit c).length (hitsC (listC n mkHit c))))) := by
 refine leL hp fun i j hi hj => ?_
 unfold hitsC
 rw [hitAt_C hi]
 rcases (by omega : j = 0 ∨ j = 1 ∨ j = 2 ∨ j = 3 ∨ j = 4) with rfl | rfl | rfl | rfl | rfl <;> rfl
theorem at_THit {w : World} {N : Nat → Prop} {n : Nat} {c : Nat → Nat → CV} {v : Value} (hp : numsP 5 n c) (h : RelF w N (.sl 5 n c) v) : HitsAt w v (listC n mkHit c) := by
 have hl : (listC n mkHit c).length = n := listC_len
 unfold HitsAt
 rw [hl]
 refine sl_SlAt h fun i j hi hj => ?_
 rw [hitAt_C hi, hp i j hi hj]
 rcases (by omega : j = 0 ∨ j = 1 ∨ j = 2 ∨ j = 3 ∨ j = 4) with rfl | rfl | rfl | rfl | rfl <;> rfl
def con_law05_few : Con := fun args => match args with
 | [.t (.c (.sl 5 n_l c_l))] => some (.t (.c (.v (.bool (decide (((listC n_l mkHit c_l)).length ≤ 14))))), some (numsP 5 n_l c_l), false)
 | _ => none
theorem ok_law05_few : Ok Try.prog 28 con_law05_few := by
 refine Ok.oldG (Enters.of (fn := Try.f28) (by kernel_rfl) (by kernel_rfl) (by kernel_rfl)) fun args r pre fresh h hp => ?_
 unfold con_law05_few at h
 split at h
 ·rename_i n_l c_l
  cases h
  refine ⟨rfl, _, rfl, fun W N vs hv => ?_⟩
  have hp0 := hp
  obtain ⟨v_l, ws0, k0, g0, hv0⟩ := hv.cons_inv
  subst k0
  have h_l := at_THit hp0 g0
  have ev := hv0.nil_inv
  subst ev
  generalize listC n_l mkHit c_l = l at *
  exact (law_few5 l v_l W h_l).mono fun e w' h => ⟨h.1, h.2 ▸ Below.refl _ _⟩
 ·cases h
def S8 : Sum := addS S7 28 con_law05_few
theorem VS8 : Valid Try.prog S8 := Valid.add VS7 ok_law05_few
def con_ref05_ModelErr : Con := fun args => match args with
 | [.t (.a [.v (.int .i64 m0), .v (.int .i64 m1), .v (.int .i64 m2), .v (.int .i64 m3), .v (.int .i64 m4), .v (.int .i64 m5), .v (.int .i64 m6), .v (.int .i64 m7), .v (.int .i64 m8), .v (.int .i64 m9), .v (.int .i64 m10), .v (.int .i64 m11)])] => some (.t (.c (.v (.int .i64 (((⟨m0, m1, m2, m3, m4, m5, m6, m7, m8, m9, m10, m11⟩ : TMod)).err)))), none, false)
 | _ => none
theorem ok_ref05_ModelErr : Ok Try.prog 18 con_ref05_ModelErr := by
 refine Ok.oldG (Enters.of (fn := Try.f18) (by kernel_rfl) (by kernel_rfl) (by kernel_rfl)) fun args r pre fresh h hp => ?_
 unfold con_ref05_ModelErr at h
 split at h
 ·rename_i m0 m1 m2 m3 m4 m5 m6 m7 m8 m9 m10 m11
  cases h
  refine ⟨rfl, _, rfl, fun W N vs hv => ?_⟩
  obtain ⟨u0, ws0, k0, g0, hv0⟩ := hv.cons_inv
  subst k0
  have e0 := plain_arg rfl g0
  subst e0
  have ev := hv0.nil_inv
  subst ev
  exact ref_ModelErr (⟨m0, m1, m2, m3, m4, m5, m6, m7, m8, m9, m10, m11⟩ : TMod) W
 ·cases h
def S9 : Sum := addS S8 18 con_ref05_ModelErr
theorem VS9 : Valid Try.prog S9 := Valid.add VS8 ok_ref05_ModelErr
def S10 : Sum := S9
theorem VS10 : Valid Try.prog S10 := VS9
def con_ref05_HitsErr : Con := fun args => match args with
 | [.t (.c (.sl 5 n_l c_l))] => some (.t (.c (.v (.int .i64 (hitsE (listC n_l mkHit c_l))))), some (numsP 5 n_l c_l), false)
 | _ => none
theorem ok_ref05_HitsErr : Ok Try.prog 40 con_ref05_HitsErr := by
 refine Ok.oldG (Enters.of (fn := Try.f40) (by kernel_rfl) (by kernel_rfl) (by kernel_rfl)) fun args r pre fresh h hp => ?_
 unfold con_ref05_HitsErr at h
 split at h
 ·rename_i n_l c_l
  cases h
  refine ⟨rfl, _, rfl, fun W N vs hv => ?_⟩
  have hp0 := hp
  obtain ⟨v_l, ws0, k0, g0, hv0⟩ := hv.cons_inv
  subst k0
  have h_l := at_THit hp0 g0
  have ev := hv0.nil_inv
  subst ev
  generalize listC n_l mkHit c_l = l at *
  exact ref_HitsErr l v_l W h_l
 ·cases h
def S11 : Sum := addS S10 40 con_ref05_HitsErr
theorem VS11 : Valid Try.prog S11 := Valid.add VS10 ok_ref05_HitsErr
def con_track_unless : Con := fun args => match args with
 | [.t (.c (.v (.bool b))), .t (.c (.v (.int .i64 n)))] => some (.t (.c (.v (.int .i64 (unl b n)))), none, false)
 | _ => none
theorem ok_track_unless : Ok Try.prog 72 con_track_unless := by
 refine Ok.oldG (Enters.of (fn := Try.f72) (by kernel_rfl) (by kernel_rfl) (by kernel_rfl)) fun args r pre fresh h hp => ?_
 unfold con_track_unless at h
 split at h
 ·rename_i b n
  cases h
  refine ⟨rfl, _, rfl, fun W N vs hv => ?_⟩
  obtain ⟨u0, ws0, k0, g0, hv0⟩ := hv.cons_inv
  subst k0
  have e0 := plain_arg rfl g0
  subst e0
  obtain ⟨u1, ws1, k1, g1, hv1⟩ := hv0.cons_inv
  subst k1
  have e1 := plain_arg rfl g1
  subst e1
  have ev := hv1.nil_inv
  subst ev
  exact (track_unless b n W).mono fun e w' h => ⟨h.1, h.2 ▸ Below.refl _ _⟩
 ·cases h
def S12 : Sum := addS S11 72 con_track_unless
theorem VS12 : Valid Try.prog S12 := Valid.add VS11 ok_track_unless
def con_track_first : Con := fun args => match args with
 | [.t (.c (.sl 1 n_l c_l))] => some (.t (.c (.v (.int .i64 (firstNZ (listC n_l mkInt c_l))))), some (numsP 1 n_l c_l), false)
 | _ => none
theorem ok_track_first : Ok Try.prog 69 con_track_first := by
 refine Ok.oldG (Enters.of (fn := Try.f69) (by kernel_rfl) (by kernel_rfl) (by kernel_rfl)) fun args r pre fresh h hp => ?_
 unfold con_track_first at h
 split at h
 ·rename_i n_l c_l
  cases h
  refine ⟨rfl, _, rfl, fun W N vs hv => ?_⟩
  have hp0 := hp
  obtain ⟨v_l, ws0, k0, g0, hv0⟩ := hv.cons_inv
  subst k0
  have h_l := at_int hp0 g0
  have ev := hv0.nil_inv
  subst ev
  generalize listC n_l mkInt c_l = l at *
  exact (track_first l v_l W h_l).mono fun e w' h => ⟨h.1, h.2 ▸ Below.refl _ _⟩
 ·cases h
def S13 : Sum := addS S12 69 con_track_first
theorem VS13 : Valid Try.prog S13 := Valid.add VS12 ok_track_first
def S14 : Sum := S13
theorem VS14 : Valid Try.prog S14 := VS13
def S15 : Sum := S14
theorem VS15 : Valid Try.prog S15 := VS14
def con_track_openHits : Con := fun args => match args with
 | [.t (.a [.v (.int .i64 m0), .v (.int .i64 m1), .v (.int .i64 m2), .v (.int .i64 m3), .v (.int .i64 m4), .v (.int .i64 m5), .v (.int .i64 m6), .v (.int .i64 m7), .v (.int .i64 m8), .v (.int .i64 m9), .v (.int .i64 m10), .v (.int .i64 m11)]), .t (.a [.v (.int .i64 b0), .v (.int .i64 b1), .v (.int .i64 b2), .v (.int .i64 b3), .v (.int .i64 b4), .v (.int .i64 b5)]), .t (.c (.sl 5 n_l c_l))] => some (.tu [.a [.v (.int .i64 m0), .v (.int .i64 m1), .v (.int .i64 m2), .v (.int .i64 m3), .v (.int .i64 m4), .v (.int .i64 m5), .v (.int .i64 m6), .v (.int .i64 m7), .v (.int .i64 m8), .v (.int .i64 m9), .v (.int .i64 m10), .v (.int .i64 m11)], .c (.v (.int .i64 (firstNZ [firstNZ [((⟨m0, m1, m2, m3, m4, m5, m6, m7, m8, m9, m10, m11⟩ : TMod)).err, ((⟨⟨b0, b1, b2⟩, ⟨b3, b4, b5⟩⟩ : TBox)).err], hitsE (listC n_l mkHit c_l)])))], some (numsP 5 n_l c_l), false)
 | _ => none
theorem ok_track_openHits : Ok Try.prog 95 con_track_openHits := by
 refine Ok.oldG (Enters.of (fn := Try.f95) (by kernel_rfl) (by kernel_rfl) (by kernel_rfl)) fun args r pre fresh h hp => ?_
 unfold con_track_openHits at h
 split at h
 ·rename_i m0 m1 m2 m3 m4 m5 m6 m7 m8 m9 m10 m11 b0 b1 b2 b3 b4 b5 n_l c_l
  cases h
  refine ⟨rfl, _, rfl, fun W N vs hv => ?_⟩
  have hp0 := hp
  obtain ⟨u0, ws0, k0, g0, hv0⟩ := hv.cons_inv
  subst k0
  have e0 := plain_arg rfl g0
  subst e0
  obtain ⟨u1, ws1, k1, g1, hv1⟩ := hv0.cons_inv
  subst k1
  have e1 := plain_arg rfl g1
  subst e1
  obtain ⟨v_l, ws2, k2, g2, hv2⟩ := hv1.cons_inv
  subst k2
  have h_l := at_THit hp0 g2
  have ev := hv2.nil_inv
  subst ev
  generalize listC n_l mkHit c_l = l at *
  exact track_openHits (⟨m0, m1, m2, m3, m4, m5, m6, m7, m8, m9, m10, m11⟩ : TMod) (⟨⟨b0, b1, b2⟩, ⟨b3, b4, b5⟩⟩ : TBox) l v_l W h_l
 ·cases h
def S16 : Sum := addS S15 95 con_track_openHits
theorem VS16 : Valid Try.prog S16 := Valid.add VS15 ok_track_openHits
def con_track_ends_times : Con := fun args => match args with
 | [.t (.a [.v (.int .i64 r0), .v (.int .i64 r1)]), .t (.a [.v (.int .i64 s0), .v (.int .i64 s1)])] => some (.t (.a [.v (.int .i64 ((((⟨r0, r1⟩ : Rg) : Rg).times (⟨s0, s1⟩ : Rg)).lo)), .v (.int .i64 ((((⟨r0, r1⟩ : Rg) : Rg).times (⟨s0, s1⟩ : Rg)).hi))]), some ((-4000000000000000000 ≤ r0 * s0 ∧ r0 * s0 ≤ 4000000000000000000) ∧ (-4000000000000000000 ≤ r0 * s1 ∧ r0 * s1 ≤ 4000000000000000000) ∧ (-4000000000000000000 ≤ r1 * s0 ∧ r1 * s0 ≤ 4000000000000000000) ∧ (-4000000000000000000 ≤ r1 * s1 ∧ r1 * s1 ≤ 4000000000000000000)), false)
 | _ => none
theorem ok_track_ends_times : Ok Try.prog 131 con_track_ends_times := by
 refine Ok.oldG (Enters.of (fn := Try.f131) (by kernel_rfl) (by kernel_rfl) (by kernel_rfl)) fun args r pre fresh h hp => ?_
 unfold con_track_ends_times at h
 split at h
 ·rename_i r0 r1 s0 s1
  cases h
  refine ⟨rfl, _, rfl, fun W N vs hv => ?_⟩
  have hp := hp
  obtain ⟨u0, ws0, k0, g0, hv0⟩ := hv.cons_inv
  subst k0
  have e0 := plain_arg rfl g0
  subst e0
  obtain ⟨u1, ws1, k1, g1, hv1⟩ := hv0.cons_inv
  subst k1
  have e1 := plain_arg rfl g1
  subst e1
  have ev := hv1.nil_inv
  subst ev
  exact track_times ⟨r0, r1⟩ ⟨s0, s1⟩ W hp.1 hp.2.1 hp.2.2.1 hp.2.2.2
 ·cases h
def S17 : Sum := addS S16 131 con_track_ends_times
theorem VS17 : Valid Try.prog S17 := Valid.add VS16 ok_track_ends_times
end Go.Proofs.Ytlmdmpjfehpjeaa
set_option linter.unusedVariables false
set_option linter.unusedSimpArgs false
namespace Go.Proofs.Ytlmdmpjfehpjeaa
open Go.RowKit Ev
theorem leI {a b : Int} (h : a = b) : LeD (.t (.c (.v (.int .i64 a)))) (.t (.c (.v (.int .i64 b)))) := LeD.of (by rw [h])
theorem leB {a b : Bool} (h : a = b) : LeD (.t (.c (.v (.bool a)))) (.t (.c (.v (.bool b)))) := LeD.of (by rw [h])
theorem bw {r : Rg} {A B : Int} (h : A ≤ B) (g : r.bd A) : r.bd B := by unfold Rg.bd at *; omega
theorem timesW_eq {r s : Rg} {A B C : Int} (h : r.bd A) (g : s.bd B) (hC : A * B ≤ C) (hm : C ≤ 4000000000000000000) : r.timesW s = r.times s := by
 have m1 := mul_rg h.1 g.1 hC
 have m2 := mul_rg h.1 g.2 hC
 have m3 := mul_rg h.2 g.1 hC
 have m4 := mul_rg h.2 g.2 hC
 have e1 : wr (r.lo * s.lo) = r.lo * s.lo := IntWalk.i64_in _ (by omega)
 have e2 : wr (r.lo * s.hi) = r.lo * s.hi := IntWalk.i64_in _ (by omega)
 have e3 : wr (r.hi * s.lo) = r.hi * s.lo := IntWalk.i64_in _ (by omega)
 have e4 : wr (r.hi * s.hi) = r.hi * s.hi := IntWalk.i64_in _ (by omega)
 unfold Rg.timesW Rg.times
 rw [e1, e2, e3, e4]
theorem sqW_eq {r : Rg} {A C : Int} (h : r.bd A) (hC : A * A ≤ C) (hm : C ≤ 4000000000000000000) : sqW r.lo r.hi = r.square := by
 have m1 := mul_rg h.1 h.1 hC
 have m2 := mul_rg h.2 h.2 hC
 have e1 : wr (r.lo * r.lo) = r.lo * r.lo := IntWalk.i64_in _ (by omega)
 have e2 : wr (r.hi * r.hi) = r.hi * r.hi := IntWalk.i64_in _ (by omega)
 unfold sqW Rg.square
 rw [e1, e2]
theorem plusW_eq {r s : Rg} {A B : Int} (h : r.bd A) (g : s.bd B) (hm : A + B ≤ 8000000000000000000) : r.plusW s = r.plus s := by
 unfold Rg.bd at h g
 have e1 : wr (r.lo + s.lo) = r.lo + s.lo := IntWalk.i64_in _ (by omega)
 have e2 : wr (r.hi + s.hi) = r.hi + s.hi := IntWalk.i64_in _ (by omega)
 unfold Rg.plusW Rg.plus
 rw [e1, e2]
theorem sqsW_eq {b : TBox} (hl : b.lo.inS 20 = true) (hh : b.hi.inS 20 = true) : sqsW b = b.squares := by
 obtain ⟨a1, a2, a3⟩ := inS_iff.1 hl
 obtain ⟨b1, b2, b3⟩ := inS_iff.1 hh
 have r1 : b.rx.bd 20 := ⟨a1, b1⟩
 have r2 : b.ry.bd 20 := ⟨a2, b2⟩
 have r3 : b.rz.bd 20 := ⟨a3, b3⟩
 have s1 := (Rg.square_bd r1 (C := 400) (by decide)).1
 have s2 := (Rg.square_bd r2 (C := 400) (by decide)).1
 have s3 := (Rg.square_bd r3 (C := 400) (by decide)).1
 have z : (⟨0, 0⟩ : Rg).bd 0 := by unfold Rg.bd; simp
 have p1 := Rg.plus_bd z s1 (C := 400) (by decide)
 have p2 := Rg.plus_bd p1 s2 (C := 800) (by decide)
 have e1 : sqW b.lo.x b.hi.x = b.rx.square := sqW_eq r1 (C := 400) (by decide) (by decide)
 have e2 : sqW b.lo.y b.hi.y = b.ry.square := sqW_eq r2 (C := 400) (by decide) (by decide)
 have e3 : sqW b.lo.z b.hi.z = b.rz.square := sqW_eq r3 (C := 400) (by decide) (by decide)
 unfold sqsW TBox.squares
 rw [e1, e2, e3, plusW_eq z s1 (by decide), plusW_eq p1 s2 (by decide), plusW_eq p2 s3 (by decide)]
theorem canW_eq {m : TMod} {b : TBox} (hl : b.lo.inS 20 = true) (hh : b.hi.inS 20 = true) : canW m b = m.canB b := by
 unfold canW TMod.canB
 rw [sqsW_eq hl hh]
theorem restR_eq (tk d a : Int) (r : Rg) : restR tk r d a = ⟨min (tk * d - a * r.lo) (tk * d - a * r.hi), max (tk * d - a * r.lo) (tk * d - a * r.hi)⟩ := by
 have e1 : r.lo * -a = -(a * r.lo) := by rw [Int.mul_neg, Int.mul_comm]
 have e2 : r.hi * -a = -(a * r.hi) := by rw [Int.mul_neg, Int.mul_comm]
 unfold restR Rg.plus Rg.times mn4 mx4
 simp only [e1, e2, Rg.mk.injEq]
 generalize a * r.lo = x
 generalize a * r.hi = y
 generalize tk * d = z
 omega
theorem coord {tk d A : Int} {r P L : Rg} (htk : 1 ≤ tk ∧ tk ≤ 20) (hd : -2000 ≤ d ∧ d ≤ 2000) (hA : -1010101 ≤ A ∧ A ≤ 1010101) (hr : r.bd 20) (hP : P.bd 1000000000) (hL : L.bd 1000000000000000) {q px n tm : Int} (hq : q - px = d) (hn : n - tm = A)
  {x1 x2 x3 x4 x5 x6 x7 x8 x9 x10 x11 x12 x13 x14 x15 x16 : Int} (h1 : wr (q - px) = x1) (h2 : wr (tk * x1) = x2) (h3 : wr (n - tm) = x3) (h4 : wr (x3 * r.lo) = x4) (h5 : wr (x2 - x4) = x5)
  (h6 : wr (q - px) = x6) (h7 : wr (tk * x6) = x7) (h8 : wr (n - tm) = x8) (h9 : wr (x8 * r.hi) = x9) (h10 : wr (x7 - x9) = x10) (h11 : (if x10 < x5 then x10 else x5) = x11) (h12 : (if x10 > x5 then x10 else x5) = x12)
  (h13 : wr (P.lo + ((⟨x11, x12⟩ : Rg).timesW r).lo) = x13) (h14 : wr (P.hi + ((⟨x11, x12⟩ : Rg).timesW r).hi) = x14) (h15 : wr (L.lo + (sqW x11 x12).lo) = x15) (h16 : wr (L.hi + (sqW x11 x12).hi) = x16) :
  x13 = (P.plus ((restR tk r d A).times r)).lo ∧ x14 = (P.plus ((restR tk r d A).times r)).hi ∧ x15 = (L.plus (restR tk r d A).square).lo ∧ x16 = (L.plus (restR tk r d A).square).hi ∧ ((restR tk r d A).times r).bd 404840400 ∧ (restR tk r d A).square.bd 409739373680400 := by
 have hT := mul_rg (x := tk) (y := d) (A := 20) (B := 2000) (C := 40000) (by omega) hd (by decide)
 have hn' : (⟨-A, -A⟩ : Rg).bd 1010101 := by unfold Rg.bd; simp only; omega
 have hR := Rg.times_bd hr hn' (C := 20202020) (by decide)
 have hTD : (⟨tk * d, tk * d⟩ : Rg).bd 40000 := ⟨hT, hT⟩
 have hS : (restR tk r d A).bd 20242020 := Rg.plus_bd hR hTD (C := 20242020) (by decide)
 have hU := Rg.times_bd hS hr (C := 404840400) (by decide)
 have hV := (Rg.square_bd hS (C := 409739373680400) (by decide)).1
 have m1 := mul_rg (x := A) (y := r.lo) (A := 1010101) (B := 20) (C := 20202020) hA hr.1 (by decide)
 have m2 := mul_rg (x := A) (y := r.hi) (A := 1010101) (B := 20) (C := 20202020) hA hr.2 (by decide)
 have w : ∀ {a b : Int}, wr a = b → -4000000000000000000 ≤ a ∧ a ≤ 4000000000000000000 → b = a := fun {a b} h g => by rw [← h]; exact IntWalk.i64_in _ (by omega)
 rw [hq] at h1 h6
 rw [hn] at h3 h8
 have e1 := w h1 (by omega)
 have e3 := w h3 (by omega)
 have e6 := w h6 (by omega)
 have e8 := w h8 (by omega)
 rw [e1] at h2
 rw [e3] at h4
 rw [e6] at h7
 rw [e8] at h9
 have e2 := w h2 (by omega)
 have e4 := w h4 (by omega)
 have e7 := w h7 (by omega)
 have e9 := w h9 (by omega)
 rw [e2, e4] at h5
 rw [e7, e9] at h10
 have e5 := w h5 (by omega)
 have e10 := w h10 (by omega)
 rw [e10, e5, mn_if] at h11
 rw [e10, e5, mx_if] at h12
 have eR : (⟨x11, x12⟩ : Rg) = restR tk r d A := by
  rw [restR_eq, ← h11, ← h12, Int.min_comm, Int.max_comm]
 have e11 : x11 = (restR tk r d A).lo := by rw [← eR]
 have e12 : x12 = (restR tk r d A).hi := by rw [← eR]
 rw [eR, timesW_eq hS hr (C := 404840400) (by decide) (by decide)] at h13 h14
 rw [e11, e12, sqW_eq hS (C := 409739373680400) (by decide) (by decide)] at h15 h16
 have hU' := hU
 have hV' := hV
 unfold Rg.bd at hP hL hU' hV'
 have e13 := w h13 (by omega)
 have e14 := w h14 (by omega)
 have e15 := w h15 (by omega)
 have e16 := w h16 (by omega)
 exact ⟨e13, e14, e15, e16, hU, hV⟩
def vc_ref05_Count (b0 b1 b2 b3 b4 b5 : Int) (post : DV → Prop) : Prop := (0 ≤ (0 : Int) ∧ (0 : Int) < ((3 : Nat) : Int)) ∧ ((0 ≤ (0 : Int) ∧ (0 : Int) < ((3 : Nat) : Int)) ∧ (lt (IntKind.i64.wrap (b3 - b0)) fun x1 => lt (IntKind.i64.wrap (x1 + (1 : Int))) fun x2 => (0 ≤ (1 : Int) ∧ (1 : Int) < ((3 : Nat) : Int)) ∧ ((0 ≤ (1 : Int) ∧ (1 : Int) < ((3 : Nat) : Int)) ∧ (lt (IntKind.i64.wrap (b4 - b1)) fun x3 => lt (IntKind.i64.wrap (x3 + (1 : Int))) fun x4 => lt (IntKind.i64.wrap (x2 * x4)) fun x5 => (0 ≤ (2 : Int) ∧ (2 : Int) < ((3 : Nat) : Int)) ∧ ((0 ≤ (2 : Int) ∧ (2 : Int) < ((3 : Nat) : Int)) ∧ (lt (IntKind.i64.wrap (b5 - b2)) fun x6 => lt (IntKind.i64.wrap (x6 + (1 : Int))) fun x7 => lt (IntKind.i64.wrap (x5 * x7)) fun x8 => post (.t (.c (.v (.int .i64 x8))))))))))
def ann_ref05_Count : Ann := ⟨fun _ => none, fun _ => none, fun _ => [], noIt, false, fun _ => none, fun _ => none⟩
theorem ev_ref05_Count (J : Inv) (b0 b1 b2 b3 b4 b5 : Int) (post : DV → Prop) : evFn Try.prog tab S17 ann_ref05_Count J Try.f54 [.t (.a [.v (.int .i64 b0), .v (.int .i64 b1), .v (.int .i64 b2), .v (.int .i64 b3), .v (.int .i64 b4), .v (.int .i64 b5)])] post = vc_ref05_Count b0 b1 b2 b3 b4 b5 post := by kernel_rfl
theorem fit_ref05_Count : okFn ann_ref05_Count Try.f54 = true := by kernel_rfl
theorem lp_ref05_Count (J : Inv) (post : DV → Prop) : AllG J (loopsFn Try.prog tab S17 ann_ref05_Count J Try.f54 post) = (True) := by kernel_rfl
theorem spec_ref05_Count (b0 b1 b2 b3 b4 b5 : Int) (hp : ((⟨⟨b0, b1, b2⟩, ⟨b3, b4, b5⟩⟩ : TBox)).lo.inS 20 = true ∧ ((⟨⟨b0, b1, b2⟩, ⟨b3, b4, b5⟩⟩ : TBox)).hi.inS 20 = true) : vc_ref05_Count b0 b1 b2 b3 b4 b5 (fun r => LeD r (.t (.c (.v (.int .i64 (((⟨⟨b0, b1, b2⟩, ⟨b3, b4, b5⟩⟩ : TBox)).count)))))) := by
 obtain ⟨a1, a2, a3⟩ := inS_iff.1 hp.1
 obtain ⟨c1, c2, c3⟩ := inS_iff.1 hp.2
 simp only at a1 a2 a3 c1 c2 c3
 unfold vc_ref05_Count
 (repeat' with_reducible first | (refine lt_i ?_; intro _ _) | (refine cond_i ?_ ?_ <;> intro _) | (refine And.intro ?_ ?_))
 all_goals first | decide | skip
 rename_i x1 h1 x2 h2 x3 h3 x4 h4 x5 h5 x6 h6 x7 h7 x8 h8
 rw [IntWalk.i64_in _ (by omega)] at h1
 rw [IntWalk.i64_in _ (by omega)] at h2
 rw [IntWalk.i64_in _ (by omega)] at h3
 rw [IntWalk.i64_in _ (by omega)] at h4
 have m1 := mul_rg (x := x2) (y := x4) (A := 41) (B := 41) (C := 1681) (by omega) (by omega) (by decide)
 rw [IntWalk.i64_in _ (by omega)] at h5
 rw [IntWalk.i64_in _ (by omega)] at h6
 rw [IntWalk.i64_in _ (by omega)] at h7
 have m2 := mul_rg (x := x5) (y := x7) (A := 1681) (B := 41) (C := 68921) (by omega) (by omega) (by decide)
 rw [IntWalk.i64_in _ (by omega)] at h8
 refine LeD.of ?_
 unfold TBox.count
 simp only
 rw [← h8, ← h5, ← h2, ← h4, ← h7, ← h1, ← h3, ← h6]
def con_ref05_Count : Con := fun args => match args with
 | [.t (.a [.v (.int .i64 b0), .v (.int .i64 b1), .v (.int .i64 b2), .v (.int .i64 b3), .v (.int .i64 b4), .v (.int .i64 b5)])] => some (.t (.c (.v (.int .i64 (((⟨⟨b0, b1, b2⟩, ⟨b3, b4, b5⟩⟩ : TBox)).count)))), some (((⟨⟨b0, b1, b2⟩, ⟨b3, b4, b5⟩⟩ : TBox)).lo.inS 20 = true ∧ ((⟨⟨b0, b1, b2⟩, ⟨b3, b4, b5⟩⟩ : TBox)).hi.inS 20 = true), false)
 | _ => none
theorem ok_ref05_Count : Ok Try.prog 54 con_ref05_Count := by
 refine Ok.fn (ann := ann_ref05_Count) mixed tabOK VS17 ValidIt.no (fn := Try.f54) (by kernel_rfl) (by kernel_rfl) fit_ref05_Count fun args r pre fresh h hp => ?_
 unfold con_ref05_Count at h
 split at h
 ·rename_i b0 b1 b2 b3 b4 b5
  cases h
  refine ⟨rfl, fun _ _ _ => False, _, LeA.refl _, Nat.le_of_ble_eq_true (by kernel_rfl), ?_, ?_⟩
  ·rw [ev_ref05_Count]; exact spec_ref05_Count b0 b1 b2 b3 b4 b5 hp
  ·rw [lp_ref05_Count]; trivial
 ·cases h
def S18 : Sum := addS S17 54 con_ref05_Count
theorem VS18 : Valid Try.prog S18 := Valid.add VS17 ok_ref05_Count
def vc_ref05_BoxErr (b0 b1 b2 b3 b4 b5 : Int) (post : DV → Prop) : Prop := (0 ≤ (0 : Int) ∧ (0 : Int) < ((3 : Nat) : Int)) ∧ (cond (!(inB b0 (-20) 20)) ((true = true) ∧ (post (.t (.c (.v (.int .i64 2)))))) ((0 ≤ (0 : Int) ∧ (0 : Int) < ((3 : Nat) : Int)) ∧ (cond (!(inB b3 (-20) 20)) (post (.t (.c (.v (.int .i64 2))))) ((0 ≤ (1 : Int) ∧ (1 : Int) < ((3 : Nat) : Int)) ∧ (cond (!(inB b1 (-20) 20)) ((true = true) ∧ (post (.t (.c (.v (.int .i64 2)))))) ((0 ≤ (1 : Int) ∧ (1 : Int) < ((3 : Nat) : Int)) ∧ (cond (!(inB b4 (-20) 20)) (post (.t (.c (.v (.int .i64 2))))) ((0 ≤ (2 : Int) ∧ (2 : Int) < ((3 : Nat) : Int)) ∧ (cond (!(inB b2 (-20) 20)) ((true = true) ∧ (post (.t (.c (.v (.int .i64 2)))))) ((0 ≤ (2 : Int) ∧ (2 : Int) < ((3 : Nat) : Int)) ∧ (cond (!(inB b5 (-20) 20)) (post (.t (.c (.v (.int .i64 2))))) ((0 ≤ (0 : Int) ∧ (0 : Int) < ((3 : Nat) : Int)) ∧ ((0 ≤ (0 : Int) ∧ (0 : Int) < ((3 : Nat) : Int)) ∧ (cond (decide (b0 > b3)) (post (.t (.c (.v (.int .i64 9))))) ((0 ≤ (1 : Int) ∧ (1 : Int) < ((3 : Nat) : Int)) ∧ ((0 ≤ (1 : Int) ∧ (1 : Int) < ((3 : Nat) : Int)) ∧ (cond (decide (b1 > b4)) (post (.t (.c (.v (.int .i64 9))))) ((0 ≤ (2 : Int) ∧ (2 : Int) < ((3 : Nat) : Int)) ∧ ((0 ≤ (2 : Int) ∧ (2 : Int) < ((3 : Nat) : Int)) ∧ (cond (decide (b2 > b5)) (post (.t (.c (.v (.int .i64 9))))) ((((⟨⟨b0, b1, b2⟩, ⟨b3, b4, b5⟩⟩ : TBox)).lo.inS 20 = true ∧ ((⟨⟨b0, b1, b2⟩, ⟨b3, b4, b5⟩⟩ : TBox)).hi.inS 20 = true) ∧ (cond (decide ((((⟨⟨b0, b1, b2⟩, ⟨b3, b4, b5⟩⟩ : TBox)).count) > (700 : Int))) (post (.t (.c (.v (.int .i64 8))))) (post (.t (.c (.v (.int .i64 0)))))))))))))))))))))))))))
def ann_ref05_BoxErr : Ann := ⟨fun r => lookA r [(9, ([[], [], [0, 1], [0, 1, 2], [], [], [4, 5], [4, 5, 6], [0, 1, 2, 3, 4, 5, 6, 7]], [[], [], [], [], [], [], [], [], []]))], fun b => lookA b [(0, (some 4, some ⟨[1, 3], [1], []⟩)), (2, (some 4, some ⟨[1, 4], [1], []⟩))], fun _ => [], noIt, false, fun _ => none, fun _ => none⟩
theorem ev_ref05_BoxErr (J : Inv) (b0 b1 b2 b3 b4 b5 : Int) (post : DV → Prop) : evFn Try.prog tab S18 ann_ref05_BoxErr J Try.f39 [.t (.a [.v (.int .i64 b0), .v (.int .i64 b1), .v (.int .i64 b2), .v (.int .i64 b3), .v (.int .i64 b4), .v (.int .i64 b5)])] post = vc_ref05_BoxErr b0 b1 b2 b3 b4 b5 post := by kernel_rfl
theorem fit_ref05_BoxErr : okFn ann_ref05_BoxErr Try.f39 = true := by kernel_rfl
theorem lp_ref05_BoxErr (J : Inv) (post : DV → Prop) : AllG J (loopsFn Try.prog tab S18 ann_ref05_BoxErr J Try.f39 post) = (True) := by kernel_rfl
theorem spec_ref05_BoxErr (b0 b1 b2 b3 b4 b5 : Int) : vc_ref05_BoxErr b0 b1 b2 b3 b4 b5 (fun r => LeD r (.t (.c (.v (.int .i64 (((⟨⟨b0, b1, b2⟩, ⟨b3, b4, b5⟩⟩ : TBox)).err)))))) := by
 unfold vc_ref05_BoxErr
 (repeat' with_reducible first | (refine lt_i ?_; intro _ _) | (refine cond_i ?_ ?_ <;> intro _) | (refine And.intro ?_ ?_))
 all_goals first
  | decide
  | (refine leI ?_; simp_all [TBox.err, firstNZ, unl, V3.inS]; done)
  | (simp_all [V3.inS]; done)
  | (refine leI ?_; simp_all [TBox.err, firstNZ, unl, V3.inS]; omega)
def con_ref05_BoxErr : Con := fun args => match args with
 | [.t (.a [.v (.int .i64 b0), .v (.int .i64 b1), .v (.int .i64 b2), .v (.int .i64 b3), .v (.int .i64 b4), .v (.int .i64 b5)])] => some (.t (.c (.v (.int .i64 (((⟨⟨b0, b1, b2⟩, ⟨b3, b4, b5⟩⟩ : TBox)).err)))), none, false)
 | _ => none
theorem ok_ref05_BoxErr : Ok Try.prog 39 con_ref05_BoxErr := by
 refine Ok.fn (ann := ann_ref05_BoxErr) mixed tabOK VS18 ValidIt.no (fn := Try.f39) (by kernel_rfl) (by kernel_rfl) fit_ref05_BoxErr fun args r pre fresh h hp => ?_
 unfold con_ref05_BoxErr at h
 split at h
 ·rename_i b0 b1 b2 b3 b4 b5
  cases h
  refine ⟨rfl, fun _ _ _ => False, _, LeA.refl _, Nat.le_of_ble_eq_true (by kernel_rfl), ?_, ?_⟩
  ·rw [ev_ref05_BoxErr]; exact spec_ref05_BoxErr b0 b1 b2 b3 b4 b5
  ·rw [lp_ref05_BoxErr]; trivial
 ·cases h
def S19 : Sum := addS S18 39 con_ref05_BoxErr
theorem VS19 : Valid Try.prog S19 := Valid.add VS18 ok_ref05_BoxErr
def vc_ref05_Answer (m0 m1 m2 m3 m4 m5 m6 m7 m8 m9 m10 m11 : Int) (b0 b1 b2 b3 b4 b5 : Int) (q0 q1 q2 : Int) (n : Int) (post : DV → Prop) : Prop := (fun (Z1 : TBox) => (0 ≤ (0 : Int) ∧ (0 : Int) < ((3 : Nat) : Int)) ∧ ((0 ≤ (0 : Int) ∧ (0 : Int) < ((3 : Nat) : Int)) ∧ (lt (IntKind.i64.wrap (q0 - m0)) fun x1 => lt (IntKind.i64.wrap (m4 * x1)) fun x2 => lt (IntKind.i64.wrap (n - m3)) fun x3 => lt (IntKind.i64.wrap (x3 * b0)) fun x4 => lt (IntKind.i64.wrap (x2 - x4)) fun x5 => (0 ≤ (0 : Int) ∧ (0 : Int) < ((3 : Nat) : Int)) ∧ ((0 ≤ (0 : Int) ∧ (0 : Int) < ((3 : Nat) : Int)) ∧ (lt (IntKind.i64.wrap (q0 - m0)) fun x6 => lt (IntKind.i64.wrap (m4 * x6)) fun x7 => lt (IntKind.i64.wrap (n - m3)) fun x8 => lt (IntKind.i64.wrap (x8 * b3)) fun x9 => lt (IntKind.i64.wrap (x7 - x9)) fun x10 => lt ((if x10 < x5 then x10 else x5)) fun x11 => lt ((if x10 > x5 then x10 else x5)) fun x12 => lt (IntKind.i64.wrap ((0 : Int) + ((((⟨x11, x12⟩ : Rg) : Rg).timesW (⟨b0, b3⟩ : Rg)).lo))) fun x13 => lt (IntKind.i64.wrap ((0 : Int) + ((((⟨x11, x12⟩ : Rg) : Rg).timesW (⟨b0, b3⟩ : Rg)).hi))) fun x14 => lt (IntKind.i64.wrap ((0 : Int) + ((sqW x11 x12).lo))) fun x15 => lt (IntKind.i64.wrap ((0 : Int) + ((sqW x11 x12).hi))) fun x16 => (0 ≤ (1 : Int) ∧ (1 : Int) < ((3 : Nat) : Int)) ∧ ((0 ≤ (1 : Int) ∧ (1 : Int) < ((3 : Nat) : Int)) ∧ (lt (IntKind.i64.wrap (q1 - m1)) fun x17 => lt (IntKind.i64.wrap (m4 * x17)) fun x18 => lt (IntKind.i64.wrap (n - m3)) fun x19 => lt (IntKind.i64.wrap (x19 * b1)) fun x20 => lt (IntKind.i64.wrap (x18 - x20)) fun x21 => (0 ≤ (1 : Int) ∧ (1 : Int) < ((3 : Nat) : Int)) ∧ ((0 ≤ (1 : Int) ∧ (1 : Int) < ((3 : Nat) : Int)) ∧ (lt (IntKind.i64.wrap (q1 - m1)) fun x22 => lt (IntKind.i64.wrap (m4 * x22)) fun x23 => lt (IntKind.i64.wrap (n - m3)) fun x24 => lt (IntKind.i64.wrap (x24 * b4)) fun x25 => lt (IntKind.i64.wrap (x23 - x25)) fun x26 => lt ((if x26 < x21 then x26 else x21)) fun x27 => lt ((if x26 > x21 then x26 else x21)) fun x28 => lt (IntKind.i64.wrap (x13 + ((((⟨x27, x28⟩ : Rg) : Rg).timesW (⟨b1, b4⟩ : Rg)).lo))) fun x29 => lt (IntKind.i64.wrap (x14 + ((((⟨x27, x28⟩ : Rg) : Rg).timesW (⟨b1, b4⟩ : Rg)).hi))) fun x30 => lt (IntKind.i64.wrap (x15 + ((sqW x27 x28).lo))) fun x31 => lt (IntKind.i64.wrap (x16 + ((sqW x27 x28).hi))) fun x32 => (0 ≤ (2 : Int) ∧ (2 : Int) < ((3 : Nat) : Int)) ∧ ((0 ≤ (2 : Int) ∧ (2 : Int) < ((3 : Nat) : Int)) ∧ (lt (IntKind.i64.wrap (q2 - m2)) fun x33 => lt (IntKind.i64.wrap (m4 * x33)) fun x34 => lt (IntKind.i64.wrap (n - m3)) fun x35 => lt (IntKind.i64.wrap (x35 * b2)) fun x36 => lt (IntKind.i64.wrap (x34 - x36)) fun x37 => (0 ≤ (2 : Int) ∧ (2 : Int) < ((3 : Nat) : Int)) ∧ ((0 ≤ (2 : Int) ∧ (2 : Int) < ((3 : Nat) : Int)) ∧ (lt (IntKind.i64.wrap (q2 - m2)) fun x38 => lt (IntKind.i64.wrap (m4 * x38)) fun x39 => lt (IntKind.i64.wrap (n - m3)) fun x40 => lt (IntKind.i64.wrap (x40 * b5)) fun x41 => lt (IntKind.i64.wrap (x39 - x41)) fun x42 => lt ((if x42 < x37 then x42 else x37)) fun x43 => lt ((if x42 > x37 then x42 else x37)) fun x44 => lt (IntKind.i64.wrap (x29 + ((((⟨x43, x44⟩ : Rg) : Rg).timesW (⟨b2, b5⟩ : Rg)).lo))) fun x45 => lt (IntKind.i64.wrap (x30 + ((((⟨x43, x44⟩ : Rg) : Rg).timesW (⟨b2, b5⟩ : Rg)).hi))) fun x46 => lt (IntKind.i64.wrap (x31 + ((sqW x43 x44).lo))) fun x47 => lt (IntKind.i64.wrap (x32 + ((sqW x43 x44).hi))) fun x48 => lt (IntKind.i64.wrap (m7 * m4)) fun x49 => lt (IntKind.i64.wrap (x49 * m4)) fun x50 => lt ((if m5 > ((sqsW Z1).lo) then m5 else ((sqsW Z1).lo))) fun x51 => lt (IntKind.i64.wrap (x51 - x50)) fun x52 => lt ((if m6 < ((sqsW Z1).hi) then m6 else ((sqsW Z1).hi))) fun x53 => lt (IntKind.i64.wrap (x53 - x50)) fun x54 => cond (x48 == (0 : Int)) ((true = true) ∧ (post (.t (.c (.v (.int .i64 2)))))) (cond (decide (x46 ≤ (0 : Int))) (lt (IntKind.i64.wrap (x46 * x46)) fun x55 => lt (IntKind.i64.wrap (x54 * x48)) fun x56 => cond (decide (x55 ≥ x56)) (post (.t (.c (.v (.int .i64 2))))) (cond (decide (x47 > (0 : Int))) (cond (decide (x45 > (0 : Int))) ((true = true) ∧ (post (.t (.c (.v (.int .i64 0)))))) (lt (IntKind.i64.wrap (x45 * x45)) fun x57 => lt (IntKind.i64.wrap (x52 * x47)) fun x58 => cond (decide (x57 < x58)) (post (.t (.c (.v (.int .i64 0))))) (post (.t (.c (.v (.int .i64 1))))))) ((false = false) ∧ (post (.t (.c (.v (.int .i64 1)))))))) ((false = false) ∧ (cond (decide (x47 > (0 : Int))) (cond (decide (x45 > (0 : Int))) ((true = true) ∧ (post (.t (.c (.v (.int .i64 0)))))) (lt (IntKind.i64.wrap (x45 * x45)) fun x59 => lt (IntKind.i64.wrap (x52 * x47)) fun x60 => cond (decide (x59 < x60)) (post (.t (.c (.v (.int .i64 0))))) (post (.t (.c (.v (.int .i64 1))))))) ((false = false) ∧ (post (.t (.c (.v (.int .i64 1)))))))))))))))))))))) (⟨⟨b0, b1, b2⟩, ⟨b3, b4, b5⟩⟩ : TBox)
def ann_ref05_Answer : Ann := ⟨fun r => lookA r [(6, ([[], [0], [], [2], [2, 3], [], [], [5, 6], [5, 6, 7], [2, 3, 4, 5, 6, 7, 8], [0, 1, 2, 3, 4, 5, 6, 7, 8, 9], [], [], [12], [11, 12, 13], [], [15], [11, 12, 13, 14, 15, 16], [0, 1, 2, 3, 4, 5, 6, 7, 8, 9, 10, 11, 12, 13, 14, 15, 16, 17], [], [19], [], [21], [21, 22], [], [], [24, 25], [24, 25, 26], [21, 22, 23, 24, 25, 26, 27], [19, 20, 21, 22, 23, 24, 25, 26, 27, 28], [], [], [31], [30, 31, 32], [], [34], [30, 31, 32, 33, 34, 35], [19, 20, 21, 22, 23, 24, 25, 26, 27, 28, 29, 30, 31, 32, 33, 34, 35, 36], [0, 1, 2, 3, 4, 5, 6, 7, 8, 9, 10, 11, 12, 13, 14, 15, 16, 17, 18], [0, 1, 2, 3, 4, 5, 6, 7, 8, 9, 10, 11, 12, 13, 14, 15, 16, 17, 18, 19, 20, 21, 22, 23, 24, 25, 26, 27, 28, 29, 30, 31, 32, 33, 34, 35, 36, 37, 38]], [[], [], [], [], [], [], [], [], [], [], [], [], [], [], [], [], [], [], [], [], [], [], [], [], [], [], [], [], [], [], [], [], [], [], [], [], [], [], [], []])), (8, ([[], [], [0, 1], [], [0, 1, 2, 3], [], [], [0, 1, 2, 3, 4, 5, 6], [0, 1, 2, 3, 4, 5, 6, 7]], [[75, 77, 16, 17], [75, 77, 16, 17], [77, 16, 17], [75, 77, 16, 17], [16, 17], [75, 77, 17], [75, 77, 16], [], []])), (9, ([[], [0], [], [2], [0, 1, 2, 3], [], [5], [], [7], [5, 6, 7, 8], [0, 1, 2, 3, 4, 5, 6, 7, 8, 9], [], [11], [], [13], [11, 12, 13, 14], [], [16], [], [18], [16, 17, 18, 19], [11, 12, 13, 14, 15, 16, 17, 18, 19, 20], [0, 1, 2, 3, 4, 5, 6, 7, 8, 9, 10], [0, 1, 2, 3, 4, 5, 6, 7, 8, 9, 10, 11, 12, 13, 14, 15, 16, 17, 18, 19, 20, 21, 22]], [[], [], [], [], [], [], [], [], [], [], [], [], [9], [], [9], [], [], [9], [], [9], [], [], [9999, 9], []]))], fun b => lookA b [(0, (some 4, some ⟨[3, 4, 5, 6, 9, 10, 11], [4, 5, 6, 9, 10], []⟩))], fun _ => [], noIt, false, fun _ => none, fun _ => none⟩
theorem ev_ref05_Answer (J : Inv) (m0 m1 m2 m3 m4 m5 m6 m7 m8 m9 m10 m11 : Int) (b0 b1 b2 b3 b4 b5 : Int) (q0 q1 q2 : Int) (n : Int) (post : DV → Prop) : evFn Try.prog tab S19 ann_ref05_Answer J Try.f42 [.t (.a [.v (.int .i64 m0), .v (.int .i64 m1), .v (.int .i64 m2), .v (.int .i64 m3), .v (.int .i64 m4), .v (.int .i64 m5), .v (.int .i64 m6), .v (.int .i64 m7), .v (.int .i64 m8), .v (.int .i64 m9), .v (.int .i64 m10), .v (.int .i64 m11)]), .t (.a [.v (.int .i64 b0), .v (.int .i64 b1), .v (.int .i64 b2), .v (.int .i64 b3), .v (.int .i64 b4), .v (.int .i64 b5)]), .t (.a [.v (.int .i64 q0), .v (.int .i64 q1), .v (.int .i64 q2)]), .t (.c (.v (.int .i64 n)))] post = vc_ref05_Answer m0 m1 m2 m3 m4 m5 m6 m7 m8 m9 m10 m11 b0 b1 b2 b3 b4 b5 q0 q1 q2 n post := by kernel_rfl
theorem fit_ref05_Answer : okFn ann_ref05_Answer Try.f42 = true := by kernel_rfl
theorem lp_ref05_Answer (J : Inv) (post : DV → Prop) : AllG J (loopsFn Try.prog tab S19 ann_ref05_Answer J Try.f42 post) = (True) := by kernel_rfl
theorem spec_ref05_Answer (m0 m1 m2 m3 m4 m5 m6 m7 m8 m9 m10 m11 : Int) (b0 b1 b2 b3 b4 b5 : Int) (q0 q1 q2 : Int) (n : Int) (hp : ((⟨m0, m1, m2, m3, m4, m5, m6, m7, m8, m9, m10, m11⟩ : TMod)).Ok ∧ ((⟨⟨b0, b1, b2⟩, ⟨b3, b4, b5⟩⟩ : TBox)).lo.inS 20 = true ∧ ((⟨⟨b0, b1, b2⟩, ⟨b3, b4, b5⟩⟩ : TBox)).hi.inS 20 = true ∧ ((⟨m0, m1, m2, m3, m4, m5, m6, m7, m8, m9, m10, m11⟩ : TMod)).canBe (⟨⟨b0, b1, b2⟩, ⟨b3, b4, b5⟩⟩ : TBox) ∧ ((⟨q0, q1, q2⟩ : V3)).inS 1000 = true ∧ -1000101 ≤ n ∧ n ≤ 1000100) : vc_ref05_Answer m0 m1 m2 m3 m4 m5 m6 m7 m8 m9 m10 m11 b0 b1 b2 b3 b4 b5 q0 q1 q2 n (fun r => LeD r (.t (.c (.v (.int .i64 (((⟨m0, m1, m2, m3, m4, m5, m6, m7, m8, m9, m10, m11⟩ : TMod)).ans (⟨⟨b0, b1, b2⟩, ⟨b3, b4, b5⟩⟩ : TBox) (⟨q0, q1, q2⟩ : V3) n)))))) := by
 obtain ⟨ho, hl, hh, hc, hp, ht1, ht2⟩ := hp
 obtain ⟨a1, a2, a3⟩ := inS_iff.1 hl
 obtain ⟨c1, c2, c3⟩ := inS_iff.1 hh
 obtain ⟨d1, d2, d3⟩ := inS_iff.1 hp
 simp only at a1 a2 a3 c1 c2 c3 d1 d2 d3
 have hA : -1010101 ≤ n - m3 ∧ n - m3 ≤ 1010101 := by have := ho.tm; simp only at this; omega
 obtain ⟨_, _, _, _, _, _, _, bP, bL, bl0, bl1⟩ := stg3 ho hl hh hp ⟨ht1, ht2⟩
 have zb : (⟨0, 0⟩ : Rg).bd 0 := by unfold Rg.bd; simp
 obtain ⟨f1, f2, f3, f4⟩ := fast_bd ho hl hh hc
 unfold vc_ref05_Answer
 (repeat' with_reducible first | (refine lt_i ?_; intro _ _) | (refine And.intro ?_ ?_))
 all_goals first | decide | skip
 rename_i x1 h1 x2 h2 x3 h3 x4 h4 x5 h5 x6 h6 x7 h7 x8 h8 x9 h9 x10 h10 x11 h11 x12 h12 x13 h13 x14 h14 x15 h15 x16 h16 x17 h17 x18 h18 x19 h19 x20 h20 x21 h21 x22 h22 x23 h23 x24 h24 x25 h25 x26 h26 x27 h27 x28 h28 x29 h29 x30 h30 x31 h31 x32 h32 x33 h33 x34 h34 x35 h35 x36 h36 x37 h37 x38 h38 x39 h39 x40 h40 x41 h41 x42 h42 x43 h43 x44 h44 x45 h45 x46 h46 x47 h47 x48 h48 x49 h49 x50 h50 x51 h51 x52 h52 x53 h53 x54 h54
 obtain ⟨p1, p2, p3, p4, u1, v1⟩ := coord (d := q0 - m0) (A := n - m3) (r := ⟨b0, b3⟩) (P := ⟨0, 0⟩) (L := ⟨0, 0⟩) ho.tk (by have := ho.px; simp only at this; omega) hA ⟨a1, c1⟩ (bw (by decide) zb) (bw (by decide) zb) rfl rfl h1 h2 h3 h4 h5 h6 h7 h8 h9 h10 h11 h12 h13 h14 h15 h16
 subst p1 p2 p3 p4
 have P1 := Rg.plus_bd zb u1 (C := 404840400) (by decide)
 have L1 := Rg.plus_bd zb v1 (C := 409739373680400) (by decide)
 obtain ⟨p1, p2, p3, p4, u2, v2⟩ := coord (d := q1 - m1) (A := n - m3) (r := ⟨b1, b4⟩) ho.tk (by have := ho.py; simp only at this; omega) hA ⟨a2, c2⟩ (bw (by decide) P1) (bw (by decide) L1) rfl rfl h17 h18 h19 h20 h21 h22 h23 h24 h25 h26 h27 h28 h29 h30 h31 h32
 subst p1 p2 p3 p4
 have P2 := Rg.plus_bd P1 u2 (C := 809680800) (by decide)
 have L2 := Rg.plus_bd L1 v2 (C := 819478747360800) (by decide)
 obtain ⟨p1, p2, p3, p4, u3, v3⟩ := coord (d := q2 - m2) (A := n - m3) (r := ⟨b2, b5⟩) ho.tk (by have := ho.pz; simp only at this; omega) hA ⟨a3, c3⟩ (bw (by decide) P2) (bw (by decide) L2) rfl rfl h33 h34 h35 h36 h37 h38 h39 h40 h41 h42 h43 h44 h45 h46 h47 h48
 have e1 : x45 = ((⟨m0, m1, m2, m3, m4, m5, m6, m7, m8, m9, m10, m11⟩ : TMod).prodR (⟨⟨b0, b1, b2⟩, ⟨b3, b4, b5⟩⟩ : TBox) (⟨q0, q1, q2⟩ : V3) n).lo := p1
 have e2 : x46 = ((⟨m0, m1, m2, m3, m4, m5, m6, m7, m8, m9, m10, m11⟩ : TMod).prodR (⟨⟨b0, b1, b2⟩, ⟨b3, b4, b5⟩⟩ : TBox) (⟨q0, q1, q2⟩ : V3) n).hi := p2
 have e3 : x47 = ((⟨m0, m1, m2, m3, m4, m5, m6, m7, m8, m9, m10, m11⟩ : TMod).leftR (⟨⟨b0, b1, b2⟩, ⟨b3, b4, b5⟩⟩ : TBox) (⟨q0, q1, q2⟩ : V3) n).lo := p3
 have e4 : x48 = ((⟨m0, m1, m2, m3, m4, m5, m6, m7, m8, m9, m10, m11⟩ : TMod).leftR (⟨⟨b0, b1, b2⟩, ⟨b3, b4, b5⟩⟩ : TBox) (⟨q0, q1, q2⟩ : V3) n).hi := p4
 have k1 := ho.tk; have k2 := ho.li
 have hsl := ho.slo; have hsp := ho.slp
 simp only at k1 k2
 have k3 := mul_rg (x := m7) (y := m4) (A := 100) (B := 20) (C := 2000) (by omega) (by omega) (by decide)
 rw [IntWalk.i64_in _ (by omega)] at h49
 subst h49
 have k4 := mul_rg (x := m7 * m4) (y := m4) (A := 2000) (B := 20) (C := 40000) k3 (by omega) (by decide)
 rw [IntWalk.i64_in _ (by omega)] at h50
 have e50 : x50 = (⟨m0, m1, m2, m3, m4, m5, m6, m7, m8, m9, m10, m11⟩ : TMod).slow := h50.symm
 rw [sqsW_eq hl hh, mx_if] at h51
 rw [sqsW_eq hl hh, mn_if] at h53
 have e52 : x52 = ((⟨m0, m1, m2, m3, m4, m5, m6, m7, m8, m9, m10, m11⟩ : TMod).fast (⟨⟨b0, b1, b2⟩, ⟨b3, b4, b5⟩⟩ : TBox)).lo := by rw [← f3, ← h52, ← h51, e50]
 have e54 : x54 = ((⟨m0, m1, m2, m3, m4, m5, m6, m7, m8, m9, m10, m11⟩ : TMod).fast (⟨⟨b0, b1, b2⟩, ⟨b3, b4, b5⟩⟩ : TBox)).hi := by rw [← f4, ← h54, ← h53, e50]
 have eA : (⟨m0, m1, m2, m3, m4, m5, m6, m7, m8, m9, m10, m11⟩ : TMod).ans (⟨⟨b0, b1, b2⟩, ⟨b3, b4, b5⟩⟩ : TBox) (⟨q0, q1, q2⟩ : V3) n = ansR ⟨x45, x46⟩ ⟨x47, x48⟩ ⟨x52, x54⟩ := by
  unfold TMod.ans; rw [e1, e2, e3, e4, e52, e54]
 rw [← e52] at f1
 rw [← e54] at f2
 obtain ⟨⟨y1, y2⟩, ⟨y3, y4⟩⟩ := bP
 obtain ⟨⟨z1, z2⟩, ⟨z3, z4⟩⟩ := bL
 rw [← e1] at y1 y2
 rw [← e2] at y3 y4
 rw [← e3] at z1 z2
 rw [← e4] at z3 z4
 rw [eA]
 clear eA e1 e2 e3 e4 e50 e52 e54
 have g1 := mul_rg (x := x46) (y := x46) (A := 1214521200) (B := 1214521200) (C := 2000000000000000000) (by omega) (by omega) (by decide)
 have g2 := mul_rg (x := x54) (y := x48) (A := 1200) (B := 1229218121041200) (C := 2000000000000000000) (by omega) (by omega) (by decide)
 have g3 := mul_rg (x := x45) (y := x45) (A := 1214521200) (B := 1214521200) (C := 2000000000000000000) (by omega) (by omega) (by decide)
 have g4 := mul_rg (x := x52) (y := x47) (A := 1200) (B := 1229218121041200) (C := 2000000000000000000) (by omega) (by omega) (by decide)
 have w1 : IntKind.i64.wrap (x46 * x46) = x46 * x46 := IntWalk.i64_in _ (by omega)
 have w2 : IntKind.i64.wrap (x54 * x48) = x54 * x48 := IntWalk.i64_in _ (by omega)
 have w3 : IntKind.i64.wrap (x45 * x45) = x45 * x45 := IntWalk.i64_in _ (by omega)
 have w4 : IntKind.i64.wrap (x52 * x47) = x52 * x47 := IntWalk.i64_in _ (by omega)
 rw [w1, w2, w3, w4]
 unfold ansR
 simp only
 generalize x46 * x46 = X1 at *
 generalize x54 * x48 = X2 at *
 generalize x45 * x45 = X3 at *
 generalize x52 * x47 = X4 at *
 (repeat' with_reducible first | (refine lt_i ?_; intro _ _) | (refine cond_i ?_ ?_ <;> intro _) | (refine And.intro ?_ ?_))
 all_goals first
  | decide
  | (refine leI ?_; simp only [beq_iff_eq, beq_eq_false_iff_ne, ne_eq, decide_eq_true_eq, decide_eq_false_iff_not] at *; (repeat' split) <;> omega)
def con_ref05_Answer : Con := fun args => match args with
 | [.t (.a [.v (.int .i64 m0), .v (.int .i64 m1), .v (.int .i64 m2), .v (.int .i64 m3), .v (.int .i64 m4), .v (.int .i64 m5), .v (.int .i64 m6), .v (.int .i64 m7), .v (.int .i64 m8), .v (.int .i64 m9), .v (.int .i64 m10), .v (.int .i64 m11)]), .t (.a [.v (.int .i64 b0), .v (.int .i64 b1), .v (.int .i64 b2), .v (.int .i64 b3), .v (.int .i64 b4), .v (.int .i64 b5)]), .t (.a [.v (.int .i64 q0), .v (.int .i64 q1), .v (.int .i64 q2)]), .t (.c (.v (.int .i64 n)))] => some (.t (.c (.v (.int .i64 (((⟨m0, m1, m2, m3, m4, m5, m6, m7, m8, m9, m10, m11⟩ : TMod)).ans (⟨⟨b0, b1, b2⟩, ⟨b3, b4, b5⟩⟩ : TBox) (⟨q0, q1, q2⟩ : V3) n)))), some (((⟨m0, m1, m2, m3, m4, m5, m6, m7, m8, m9, m10, m11⟩ : TMod)).Ok ∧ ((⟨⟨b0, b1, b2⟩, ⟨b3, b4, b5⟩⟩ : TBox)).lo.inS 20 = true ∧ ((⟨⟨b0, b1, b2⟩, ⟨b3, b4, b5⟩⟩ : TBox)).hi.inS 20 = true ∧ ((⟨m0, m1, m2, m3, m4, m5, m6, m7, m8, m9, m10, m11⟩ : TMod)).canBe (⟨⟨b0, b1, b2⟩, ⟨b3, b4, b5⟩⟩ : TBox) ∧ ((⟨q0, q1, q2⟩ : V3)).inS 1000 = true ∧ -1000101 ≤ n ∧ n ≤ 1000100), false)
 | _ => none
theorem ok_ref05_Answer : Ok Try.prog 42 con_ref05_Answer := by
 refine Ok.fn (ann := ann_ref05_Answer) mixed tabOK VS19 ValidIt.no (fn := Try.f42) (by kernel_rfl) (by kernel_rfl) fit_ref05_Answer fun args r pre fresh h hp => ?_
 unfold con_ref05_Answer at h
 split at h
 ·rename_i m0 m1 m2 m3 m4 m5 m6 m7 m8 m9 m10 m11 b0 b1 b2 b3 b4 b5 q0 q1 q2 n
  cases h
  refine ⟨rfl, fun _ _ _ => False, _, LeA.refl _, Nat.le_of_ble_eq_true (by kernel_rfl), ?_, ?_⟩
  ·rw [ev_ref05_Answer]; exact spec_ref05_Answer m0 m1 m2 m3 m4 m5 m6 m7 m8 m9 m10 m11 b0 b1 b2 b3 b4 b5 q0 q1 q2 n hp
  ·rw [lp_ref05_Answer]; trivial
 ·cases h
def S20 : Sum := addS S19 42 con_ref05_Answer
theorem VS20 : Valid Try.prog S20 := Valid.add VS19 ok_ref05_Answer
end Go.Proofs.Ytlmdmpjfehpjeaa
set_option linter.unusedVariables false
set_option linter.unusedSimpArgs false
namespace Go.Proofs.Ytlmdmpjfehpjeaa
open Go.RowKit Ev
theorem coordT {tk d A i : Int} {r0 r1 P0 P1 L0 L1 : Int} (htk : 1 ≤ tk ∧ tk ≤ 20) (hd : -2000 ≤ d ∧ d ≤ 2000) (hA : -1010101 ≤ A ∧ A ≤ 1010101) (hr : (⟨r0, r1⟩ : Rg).bd 20) (hP : (⟨P0, P1⟩ : Rg).bd 1000000000) (hL : (⟨L0, L1⟩ : Rg).bd 1000000000000000) (hi : 0 ≤ i ∧ i < ((3 : Nat) : Int)) {K : Int → Int → Int → Int → Prop}
  (hK : ∀ a b c e, a = ((⟨P0, P1⟩ : Rg).plus ((restR tk ⟨r0, r1⟩ d A).times ⟨r0, r1⟩)).lo → b = ((⟨P0, P1⟩ : Rg).plus ((restR tk ⟨r0, r1⟩ d A).times ⟨r0, r1⟩)).hi → c = ((⟨L0, L1⟩ : Rg).plus (restR tk ⟨r0, r1⟩ d A).square).lo → e = ((⟨L0, L1⟩ : Rg).plus (restR tk ⟨r0, r1⟩ d A).square).hi →
   ((restR tk ⟨r0, r1⟩ d A).times ⟨r0, r1⟩).bd 404840400 → (restR tk ⟨r0, r1⟩ d A).square.bd 409739373680400 → K a b c e) :
  (0 ≤ i ∧ i < ((3 : Nat) : Int)) ∧ ((0 ≤ i ∧ i < ((3 : Nat) : Int)) ∧ (lt (IntKind.i64.wrap ((0 : Int) - A)) fun x5 => lt (IntKind.i64.wrap ((0 : Int) - A)) fun x6 => lt ((((⟨r0, r1⟩ : Rg) : Rg).times (⟨x5, x6⟩ : Rg)).lo) fun x7 => lt ((((⟨r0, r1⟩ : Rg) : Rg).times (⟨x5, x6⟩ : Rg)).hi) fun x8 =>
   ((-4000000000000000000 ≤ r0 * x5 ∧ r0 * x5 ≤ 4000000000000000000) ∧ (-4000000000000000000 ≤ r0 * x6 ∧ r0 * x6 ≤ 4000000000000000000) ∧ (-4000000000000000000 ≤ r1 * x5 ∧ r1 * x5 ≤ 4000000000000000000) ∧ (-4000000000000000000 ≤ r1 * x6 ∧ r1 * x6 ≤ 4000000000000000000)) ∧ ((0 ≤ i ∧ i < ((3 : Nat) : Int)) ∧
   (lt (IntKind.i64.wrap (tk * d)) fun x9 => (0 ≤ i ∧ i < ((3 : Nat) : Int)) ∧ (lt (IntKind.i64.wrap (tk * d)) fun x10 => lt ((((⟨x7, x8⟩ : Rg) : Rg).plusW (⟨x9, x10⟩ : Rg)).lo) fun x11 => lt ((((⟨x7, x8⟩ : Rg) : Rg).plusW (⟨x9, x10⟩ : Rg)).hi) fun x12 => lt ((((⟨x11, x12⟩ : Rg) : Rg).times (⟨r0, r1⟩ : Rg)).lo) fun x13 => lt ((((⟨x11, x12⟩ : Rg) : Rg).times (⟨r0, r1⟩ : Rg)).hi) fun x14 =>
   ((-4000000000000000000 ≤ x11 * r0 ∧ x11 * r0 ≤ 4000000000000000000) ∧ (-4000000000000000000 ≤ x11 * r1 ∧ x11 * r1 ≤ 4000000000000000000) ∧ (-4000000000000000000 ≤ x12 * r0 ∧ x12 * r0 ≤ 4000000000000000000) ∧ (-4000000000000000000 ≤ x12 * r1 ∧ x12 * r1 ≤ 4000000000000000000)) ∧
   (lt ((((⟨P0, P1⟩ : Rg) : Rg).plusW (⟨x13, x14⟩ : Rg)).lo) fun x15 => lt ((((⟨P0, P1⟩ : Rg) : Rg).plusW (⟨x13, x14⟩ : Rg)).hi) fun x16 => lt ((sqW x11 x12).lo) fun x17 => lt ((sqW x11 x12).hi) fun x18 => lt ((((⟨L0, L1⟩ : Rg) : Rg).plusW (⟨x17, x18⟩ : Rg)).lo) fun x19 => lt ((((⟨L0, L1⟩ : Rg) : Rg).plusW (⟨x17, x18⟩ : Rg)).hi) fun x20 => K x15 x16 x19 x20)))))) := by
 have hT := mul_rg (x := tk) (y := d) (A := 20) (B := 2000) (C := 40000) (by omega) hd (by decide)
 have hn : (⟨-A, -A⟩ : Rg).bd 1010101 := by unfold Rg.bd; simp only; omega
 have hR := Rg.times_bd hr hn (C := 20202020) (by decide)
 have hTD : (⟨tk * d, tk * d⟩ : Rg).bd 40000 := ⟨hT, hT⟩
 have hS : (restR tk ⟨r0, r1⟩ d A).bd 20242020 := Rg.plus_bd hR hTD (C := 20242020) (by decide)
 have hU := Rg.times_bd hS hr (C := 404840400) (by decide)
 have hV := (Rg.square_bd hS (C := 409739373680400) (by decide)).1
 have en : IntKind.i64.wrap ((0 : Int) - A) = -A := by rw [IntWalk.i64_in _ (by omega)]; omega
 have et : IntKind.i64.wrap (tk * d) = tk * d := IntWalk.i64_in _ (by omega)
 have b20 : ∀ {x y : Int} {C : Int}, (-1010101 ≤ y ∧ y ≤ 1010101) → (-20 ≤ x ∧ x ≤ 20) → -4000000000000000000 ≤ x * y ∧ x * y ≤ 4000000000000000000 := fun {x y C} h g => by
  have := mul_rg (x := x) (y := y) (A := 20) (B := 1010101) (C := 20202020) g h (by decide); omega
 have b21 : ∀ {x y : Int}, (-20242020 ≤ x ∧ x ≤ 20242020) → (-20 ≤ y ∧ y ≤ 20) → -4000000000000000000 ≤ x * y ∧ x * y ≤ 4000000000000000000 := fun {x y} g h => by
  have := mul_rg (x := x) (y := y) (A := 20242020) (B := 20) (C := 404840400) g h (by decide); omega
 refine ⟨hi, hi, ?_⟩
 rw [en, et]
 refine lt_i fun x5 h5 => lt_i fun x6 h6 => ?_
 subst h5; subst h6
 refine lt_i fun x7 h7 => lt_i fun x8 h8 => ⟨⟨b20 (C := 0) hn.1 hr.1, b20 (C := 0) hn.1 hr.1, b20 (C := 0) hn.1 hr.2, b20 (C := 0) hn.1 hr.2⟩, hi, lt_i fun x9 h9 => ⟨hi, lt_i fun x10 h10 => ?_⟩⟩
 subst h9; subst h10
 have eR : (⟨x7, x8⟩ : Rg) = (⟨r0, r1⟩ : Rg).times ⟨-A, -A⟩ := by rw [← h7, ← h8]
 rw [eR, plusW_eq hR hTD (by decide)]
 have eS : ((⟨r0, r1⟩ : Rg).times ⟨-A, -A⟩).plus ⟨tk * d, tk * d⟩ = restR tk ⟨r0, r1⟩ d A := rfl
 rw [eS]
 refine lt_i fun x11 h11 => lt_i fun x12 h12 => ?_
 subst h11; subst h12
 refine lt_i fun x13 h13 => lt_i fun x14 h14 => ⟨⟨b21 hS.1 hr.1, b21 hS.1 hr.2, b21 hS.2 hr.1, b21 hS.2 hr.2⟩, ?_⟩
 have eU : (⟨x13, x14⟩ : Rg) = (restR tk ⟨r0, r1⟩ d A).times ⟨r0, r1⟩ := by rw [← h13, ← h14]
 rw [eU, plusW_eq hP hU (by decide)]
 have e1 : sqW (restR tk ⟨r0, r1⟩ d A).lo (restR tk ⟨r0, r1⟩ d A).hi = (restR tk ⟨r0, r1⟩ d A).square := sqW_eq hS (C := 409739373680400) (by decide) (by decide)
 rw [e1]
 refine lt_i fun x15 h15 => lt_i fun x16 h16 => lt_i fun x17 h17 => lt_i fun x18 h18 => ?_
 have eV : (⟨x17, x18⟩ : Rg) = (restR tk ⟨r0, r1⟩ d A).square := by rw [← h17, ← h18]
 rw [eV, plusW_eq hL hV (by decide)]
 exact lt_i fun x19 h19 => lt_i fun x20 h20 => hK _ _ _ _ h15.symm h16.symm h19.symm h20.symm hU hV
def vc_track_ends_square (r0 r1 : Int) (post : DV → Prop) : Prop := lt (IntKind.i64.wrap (r0 * r0)) fun x1 => lt (IntKind.i64.wrap (r1 * r1)) fun x2 => cond (decide (r0 ≤ (0 : Int))) (cond (decide (r1 ≥ (0 : Int))) (lt ((if x2 > x1 then x2 else x1)) fun x3 => post (.t (.a [.v (.int .i64 0), .v (.int .i64 x3)]))) (lt ((if x2 < x1 then x2 else x1)) fun x4 => lt ((if x2 > x1 then x2 else x1)) fun x5 => post (.t (.a [.v (.int .i64 x4), .v (.int .i64 x5)])))) ((false = false) ∧ (lt ((if x2 < x1 then x2 else x1)) fun x6 => lt ((if x2 > x1 then x2 else x1)) fun x7 => post (.t (.a [.v (.int .i64 x6), .v (.int .i64 x7)]))))
def ann_track_ends_square : Ann := ⟨fun r => lookA r [(1, ([[], [0], [], [2], [0, 1, 2, 3], [], [5], [], [7], [5, 6, 7, 8], [0, 1, 2, 3, 4], [0, 1, 2, 3, 4, 5, 6, 7, 8, 9, 10]], [[], [], [], [], [], [], [], [], [], [], [], []]))], fun _ => none, fun _ => [], noIt, false, fun _ => none, fun _ => none⟩
theorem ev_track_ends_square (J : Inv) (r0 r1 : Int) (post : DV → Prop) : evFn Try.prog tab S20 ann_track_ends_square J Try.f130 [.t (.a [.v (.int .i64 r0), .v (.int .i64 r1)])] post = vc_track_ends_square r0 r1 post := by kernel_rfl
theorem fit_track_ends_square : okFn ann_track_ends_square Try.f130 = true := by kernel_rfl
theorem lp_track_ends_square (J : Inv) (post : DV → Prop) : AllG J (loopsFn Try.prog tab S20 ann_track_ends_square J Try.f130 post) = (True) := by kernel_rfl
theorem spec_track_ends_square (r0 r1 : Int) : vc_track_ends_square r0 r1 (fun r => LeD r (.t (.a [.v (.int .i64 ((sqW r0 r1).lo)), .v (.int .i64 ((sqW r0 r1).hi))]))) := by
 unfold vc_track_ends_square
 refine lt_i fun x1 h1 => lt_i fun x2 h2 => ?_
 subst h1; subst h2
 refine cond_i (fun h => ?_) (fun h => ?_)
 ·have h := of_decide_eq_true h
  refine cond_i (fun g => lt_i fun x hx => LeD.of ?_) (fun g => lt_i fun x hx => lt_i fun y hy => LeD.of ?_)
  ·have g := of_decide_eq_true g
   unfold sqW
   rw [if_pos ⟨h, g⟩, ← hx]
   congr 6
   simp only
   rw [mx_if]
  ·have g := of_decide_eq_false g
   unfold sqW
   rw [if_neg (fun q => g q.2), ← hx, ← hy]
   simp only [mn_if, mx_if]
 ·have h := of_decide_eq_false h
  refine ⟨rfl, lt_i fun x hx => lt_i fun y hy => LeD.of ?_⟩
  unfold sqW
  rw [if_neg (fun q => h q.1), ← hx, ← hy]
  simp only [mn_if, mx_if]
def con_track_ends_square : Con := fun args => match args with
 | [.t (.a [.v (.int .i64 r0), .v (.int .i64 r1)])] => some (.t (.a [.v (.int .i64 ((sqW r0 r1).lo)), .v (.int .i64 ((sqW r0 r1).hi))]), none, false)
 | _ => none
theorem ok_track_ends_square : Ok Try.prog 130 con_track_ends_square := by
 refine Ok.fn (ann := ann_track_ends_square) mixed tabOK VS20 ValidIt.no (fn := Try.f130) (by kernel_rfl) (by kernel_rfl) fit_track_ends_square fun args r pre fresh h hp => ?_
 unfold con_track_ends_square at h
 split at h
 ·rename_i r0 r1
  cases h
  refine ⟨rfl, fun _ _ _ => False, _, LeA.refl _, Nat.le_of_ble_eq_true (by kernel_rfl), ?_, ?_⟩
  ·rw [ev_track_ends_square]; exact spec_track_ends_square r0 r1
  ·rw [lp_track_ends_square]; trivial
 ·cases h
def S21 : Sum := addS S20 130 con_track_ends_square
theorem VS21 : Valid Try.prog S21 := Valid.add VS20 ok_track_ends_square
def vc_track_ends_plus (r0 r1 : Int) (s0 s1 : Int) (post : DV → Prop) : Prop := lt (IntKind.i64.wrap (r0 + s0)) fun x1 => lt (IntKind.i64.wrap (r1 + s1)) fun x2 => post (.t (.a [.v (.int .i64 x1), .v (.int .i64 x2)]))
def ann_track_ends_plus : Ann := ⟨fun _ => none, fun _ => none, fun _ => [], noIt, false, fun _ => none, fun _ => none⟩
theorem ev_track_ends_plus (J : Inv) (r0 r1 : Int) (s0 s1 : Int) (post : DV → Prop) : evFn Try.prog tab S21 ann_track_ends_plus J Try.f129 [.t (.a [.v (.int .i64 r0), .v (.int .i64 r1)]), .t (.a [.v (.int .i64 s0), .v (.int .i64 s1)])] post = vc_track_ends_plus r0 r1 s0 s1 post := by kernel_rfl
theorem fit_track_ends_plus : okFn ann_track_ends_plus Try.f129 = true := by kernel_rfl
theorem lp_track_ends_plus (J : Inv) (post : DV → Prop) : AllG J (loopsFn Try.prog tab S21 ann_track_ends_plus J Try.f129 post) = (True) := by kernel_rfl
theorem spec_track_ends_plus (r0 r1 : Int) (s0 s1 : Int) : vc_track_ends_plus r0 r1 s0 s1 (fun r => LeD r (.t (.a [.v (.int .i64 ((((⟨r0, r1⟩ : Rg) : Rg).plusW (⟨s0, s1⟩ : Rg)).lo)), .v (.int .i64 ((((⟨r0, r1⟩ : Rg) : Rg).plusW (⟨s0, s1⟩ : Rg)).hi))]))) := by
 unfold vc_track_ends_plus
 (repeat' with_reducible first | (refine lt_i ?_; intro _ _) | (refine cond_i ?_ ?_ <;> intro _) | (refine And.intro (by decide) ?_))
 subst_vars
 exact LeD.refl _
def con_track_ends_plus : Con := fun args => match args with
 | [.t (.a [.v (.int .i64 r0), .v (.int .i64 r1)]), .t (.a [.v (.int .i64 s0), .v (.int .i64 s1)])] => some (.t (.a [.v (.int .i64 ((((⟨r0, r1⟩ : Rg) : Rg).plusW (⟨s0, s1⟩ : Rg)).lo)), .v (.int .i64 ((((⟨r0, r1⟩ : Rg) : Rg).plusW (⟨s0, s1⟩ : Rg)).hi))]), none, false)
 | _ => none
theorem ok_track_ends_plus : Ok Try.prog 129 con_track_ends_plus := by
 refine Ok.fn (ann := ann_track_ends_plus) mixed tabOK VS21 ValidIt.no (fn := Try.f129) (by kernel_rfl) (by kernel_rfl) fit_track_ends_plus fun args r pre fresh h hp => ?_
 unfold con_track_ends_plus at h
 split at h
 ·rename_i r0 r1 s0 s1
  cases h
  refine ⟨rfl, fun _ _ _ => False, _, LeA.refl _, Nat.le_of_ble_eq_true (by kernel_rfl), ?_, ?_⟩
  ·rw [ev_track_ends_plus]; exact spec_track_ends_plus r0 r1 s0 s1
  ·rw [lp_track_ends_plus]; trivial
 ·cases h
def S22 : Sum := addS S21 129 con_track_ends_plus
theorem VS22 : Valid Try.prog S22 := Valid.add VS21 ok_track_ends_plus
def vc_track_model_squares (m0 m1 m2 m3 m4 m5 m6 m7 m8 m9 m10 m11 : Int) (b0 b1 b2 b3 b4 b5 : Int) (post : DV → Prop) : Prop := (0 ≤ (0 : Int) ∧ (0 : Int) < ((3 : Nat) : Int)) ∧ ((0 ≤ (0 : Int) ∧ (0 : Int) < ((3 : Nat) : Int)) ∧ (lt ((sqW b0 b3).lo) fun x1 => lt ((sqW b0 b3).hi) fun x2 => lt ((((⟨(0 : Int), (0 : Int)⟩ : Rg) : Rg).plusW (⟨x1, x2⟩ : Rg)).lo) fun x3 => lt ((((⟨(0 : Int), (0 : Int)⟩ : Rg) : Rg).plusW (⟨x1, x2⟩ : Rg)).hi) fun x4 => (0 ≤ (1 : Int) ∧ (1 : Int) < ((3 : Nat) : Int)) ∧ ((0 ≤ (1 : Int) ∧ (1 : Int) < ((3 : Nat) : Int)) ∧ (lt ((sqW b1 b4).lo) fun x5 => lt ((sqW b1 b4).hi) fun x6 => lt ((((⟨x3, x4⟩ : Rg) : Rg).plusW (⟨x5, x6⟩ : Rg)).lo) fun x7 => lt ((((⟨x3, x4⟩ : Rg) : Rg).plusW (⟨x5, x6⟩ : Rg)).hi) fun x8 => (0 ≤ (2 : Int) ∧ (2 : Int) < ((3 : Nat) : Int)) ∧ ((0 ≤ (2 : Int) ∧ (2 : Int) < ((3 : Nat) : Int)) ∧ (lt ((sqW b2 b5).lo) fun x9 => lt ((sqW b2 b5).hi) fun x10 => lt ((((⟨x7, x8⟩ : Rg) : Rg).plusW (⟨x9, x10⟩ : Rg)).lo) fun x11 => lt ((((⟨x7, x8⟩ : Rg) : Rg).plusW (⟨x9, x10⟩ : Rg)).hi) fun x12 => cond (decide (x12 ≥ m5)) (post (.tu [.a [.v (.int .i64 x11), .v (.int .i64 x12)], .c (.v (.bool (decide (x11 ≤ m6))))])) ((false = false) ∧ (post (.tu [.a [.v (.int .i64 x11), .v (.int .i64 x12)], .c (.v (.bool false))])))))))))
def ann_track_model_squares : Ann := ⟨fun r => lookA r [(5, ([[], [], [], [1, 2], [1, 2, 3], [], [], [5, 6], [5, 6, 7], [1, 2, 3, 4, 5, 6, 7, 8], [1, 2, 3, 4, 5, 6, 7, 8, 9], [0, 1, 2, 3, 4, 5, 6, 7, 8, 9, 10], [0, 1, 2, 3, 4, 5, 6, 7, 8, 9, 10, 11]], [[21, 22], [21, 22], [21, 22], [21, 22], [21, 22], [21, 22], [21, 22], [21, 22], [21, 22], [21, 22], [22], [], []])), (7, ([[], [], [1], [], [3], [3, 4], [3, 4, 5], [1, 2, 3, 4, 5, 6], [1, 2, 3, 4, 5, 6, 7], [1, 2, 3, 4, 5, 6, 7, 8], [1, 2, 3, 4, 5, 6, 7, 8, 9], [1, 2, 3, 4, 5, 6, 7, 8], [1, 2, 3, 4, 5, 6, 7, 8, 11], [1, 2, 3, 4, 5, 6, 7, 8, 11, 12], [1, 2, 3, 4, 5, 6, 7, 8, 11, 12, 13], [1, 2, 3, 4, 5, 6, 7, 8, 9, 10, 11, 12, 13, 14], [1, 2, 3, 4, 5, 6, 7, 8, 9, 10, 11, 12, 13, 14, 15], [0, 1, 2, 3, 4, 5, 6, 7, 8], [0, 1, 2, 3, 4, 5, 6, 7, 8, 9, 10, 11, 12, 13, 14, 15, 16, 17]], [[], [], [], [], [], [], [], [], [], [], [4], [], [], [], [4], [], [], [9999, 4], []]))], fun b => lookA b [(0, (some 4, some ⟨[2, 3, 4, 6, 8], [2, 3, 4, 6], []⟩))], fun _ => [], noIt, false, fun _ => none, fun _ => none⟩
theorem ev_track_model_squares (J : Inv) (m0 m1 m2 m3 m4 m5 m6 m7 m8 m9 m10 m11 : Int) (b0 b1 b2 b3 b4 b5 : Int) (post : DV → Prop) : evFn Try.prog tab S22 ann_track_model_squares J Try.f93 [.t (.a [.v (.int .i64 m0), .v (.int .i64 m1), .v (.int .i64 m2), .v (.int .i64 m3), .v (.int .i64 m4), .v (.int .i64 m5), .v (.int .i64 m6), .v (.int .i64 m7), .v (.int .i64 m8), .v (.int .i64 m9), .v (.int .i64 m10), .v (.int .i64 m11)]), .t (.a [.v (.int .i64 b0), .v (.int .i64 b1), .v (.int .i64 b2), .v (.int .i64 b3), .v (.int .i64 b4), .v (.int .i64 b5)])] post = vc_track_model_squares m0 m1 m2 m3 m4 m5 m6 m7 m8 m9 m10 m11 b0 b1 b2 b3 b4 b5 post := by kernel_rfl
theorem fit_track_model_squares : okFn ann_track_model_squares Try.f93 = true := by kernel_rfl
theorem lp_track_model_squares (J : Inv) (post : DV → Prop) : AllG J (loopsFn Try.prog tab S22 ann_track_model_squares J Try.f93 post) = (True) := by kernel_rfl
theorem spec_track_model_squares (m0 m1 m2 m3 m4 m5 m6 m7 m8 m9 m10 m11 : Int) (b0 b1 b2 b3 b4 b5 : Int) : vc_track_model_squares m0 m1 m2 m3 m4 m5 m6 m7 m8 m9 m10 m11 b0 b1 b2 b3 b4 b5 (fun r => LeD r (.tu [.a [.v (.int .i64 ((sqsW (⟨⟨b0, b1, b2⟩, ⟨b3, b4, b5⟩⟩ : TBox)).lo)), .v (.int .i64 ((sqsW (⟨⟨b0, b1, b2⟩, ⟨b3, b4, b5⟩⟩ : TBox)).hi))], .c (.v (.bool (canW (⟨m0, m1, m2, m3, m4, m5, m6, m7, m8, m9, m10, m11⟩ : TMod) (⟨⟨b0, b1, b2⟩, ⟨b3, b4, b5⟩⟩ : TBox))))])) := by
 unfold vc_track_model_squares
 (repeat' with_reducible first | (refine lt_i ?_; intro _ _) | (refine cond_i ?_ ?_ <;> intro _) | (refine And.intro (by decide) ?_))
 all_goals subst_vars
 all_goals refine LeD.of ?_
 all_goals unfold sqsW canW sqsW
 all_goals simp only [*]
 all_goals first | rfl | simp_all
def con_track_model_squares : Con := fun args => match args with
 | [.t (.a [.v (.int .i64 m0), .v (.int .i64 m1), .v (.int .i64 m2), .v (.int .i64 m3), .v (.int .i64 m4), .v (.int .i64 m5), .v (.int .i64 m6), .v (.int .i64 m7), .v (.int .i64 m8), .v (.int .i64 m9), .v (.int .i64 m10), .v (.int .i64 m11)]), .t (.a [.v (.int .i64 b0), .v (.int .i64 b1), .v (.int .i64 b2), .v (.int .i64 b3), .v (.int .i64 b4), .v (.int .i64 b5)])] => some (.tu [.a [.v (.int .i64 ((sqsW (⟨⟨b0, b1, b2⟩, ⟨b3, b4, b5⟩⟩ : TBox)).lo)), .v (.int .i64 ((sqsW (⟨⟨b0, b1, b2⟩, ⟨b3, b4, b5⟩⟩ : TBox)).hi))], .c (.v (.bool (canW (⟨m0, m1, m2, m3, m4, m5, m6, m7, m8, m9, m10, m11⟩ : TMod) (⟨⟨b0, b1, b2⟩, ⟨b3, b4, b5⟩⟩ : TBox))))], none, false)
 | _ => none
theorem ok_track_model_squares : Ok Try.prog 93 con_track_model_squares := by
 refine Ok.fn (ann := ann_track_model_squares) mixed tabOK VS22 ValidIt.no (fn := Try.f93) (by kernel_rfl) (by kernel_rfl) fit_track_model_squares fun args r pre fresh h hp => ?_
 unfold con_track_model_squares at h
 split at h
 ·rename_i m0 m1 m2 m3 m4 m5 m6 m7 m8 m9 m10 m11 b0 b1 b2 b3 b4 b5
  cases h
  refine ⟨rfl, fun _ _ _ => False, _, LeA.refl _, Nat.le_of_ble_eq_true (by kernel_rfl), ?_, ?_⟩
  ·rw [ev_track_model_squares]; exact spec_track_model_squares m0 m1 m2 m3 m4 m5 m6 m7 m8 m9 m10 m11 b0 b1 b2 b3 b4 b5
  ·rw [lp_track_model_squares]; trivial
 ·cases h
def S23 : Sum := addS S22 93 con_track_model_squares
theorem VS23 : Valid Try.prog S23 := Valid.add VS22 ok_track_model_squares
def vc_track_vector_minus (s0 s1 s2 : Int) (t0 t1 t2 : Int) (post : DV → Prop) : Prop := (0 ≤ (0 : Int) ∧ (0 : Int) < ((3 : Nat) : Int)) ∧ ((0 ≤ (0 : Int) ∧ (0 : Int) < ((3 : Nat) : Int)) ∧ (lt (IntKind.i64.wrap (s0 - t0)) fun x1 => (0 ≤ (1 : Int) ∧ (1 : Int) < ((3 : Nat) : Int)) ∧ ((0 ≤ (1 : Int) ∧ (1 : Int) < ((3 : Nat) : Int)) ∧ (lt (IntKind.i64.wrap (s1 - t1)) fun x2 => (0 ≤ (2 : Int) ∧ (2 : Int) < ((3 : Nat) : Int)) ∧ ((0 ≤ (2 : Int) ∧ (2 : Int) < ((3 : Nat) : Int)) ∧ (lt (IntKind.i64.wrap (s2 - t2)) fun x3 => post (.t (.a [.v (.int .i64 x1), .v (.int .i64 x2), .v (.int .i64 x3)]))))))))
def ann_track_vector_minus : Ann := ⟨fun _ => none, fun _ => none, fun _ => [], noIt, false, fun _ => none, fun _ => none⟩
theorem ev_track_vector_minus (J : Inv) (s0 s1 s2 : Int) (t0 t1 t2 : Int) (post : DV → Prop) : evFn Try.prog tab S23 ann_track_vector_minus J Try.f77 [.t (.a [.v (.int .i64 s0), .v (.int .i64 s1), .v (.int .i64 s2)]), .t (.a [.v (.int .i64 t0), .v (.int .i64 t1), .v (.int .i64 t2)])] post = vc_track_vector_minus s0 s1 s2 t0 t1 t2 post := by kernel_rfl
theorem fit_track_vector_minus : okFn ann_track_vector_minus Try.f77 = true := by kernel_rfl
theorem lp_track_vector_minus (J : Inv) (post : DV → Prop) : AllG J (loopsFn Try.prog tab S23 ann_track_vector_minus J Try.f77 post) = (True) := by kernel_rfl
theorem spec_track_vector_minus (s0 s1 s2 : Int) (t0 t1 t2 : Int) : vc_track_vector_minus s0 s1 s2 t0 t1 t2 (fun r => LeD r (.t (.a [.v (.int .i64 (wr (s0 - t0))), .v (.int .i64 (wr (s1 - t1))), .v (.int .i64 (wr (s2 - t2)))]))) := by
 unfold vc_track_vector_minus
 (repeat' with_reducible first | (refine lt_i ?_; intro _ _) | (refine cond_i ?_ ?_ <;> intro _) | (refine And.intro (by decide) ?_))
 subst_vars
 exact LeD.refl _
def con_track_vector_minus : Con := fun args => match args with
 | [.t (.a [.v (.int .i64 s0), .v (.int .i64 s1), .v (.int .i64 s2)]), .t (.a [.v (.int .i64 t0), .v (.int .i64 t1), .v (.int .i64 t2)])] => some (.t (.a [.v (.int .i64 (wr (s0 - t0))), .v (.int .i64 (wr (s1 - t1))), .v (.int .i64 (wr (s2 - t2)))]), none, false)
 | _ => none
theorem ok_track_vector_minus : Ok Try.prog 77 con_track_vector_minus := by
 refine Ok.fn (ann := ann_track_vector_minus) mixed tabOK VS23 ValidIt.no (fn := Try.f77) (by kernel_rfl) (by kernel_rfl) fit_track_vector_minus fun args r pre fresh h hp => ?_
 unfold con_track_vector_minus at h
 split at h
 ·rename_i s0 s1 s2 t0 t1 t2
  cases h
  refine ⟨rfl, fun _ _ _ => False, _, LeA.refl _, Nat.le_of_ble_eq_true (by kernel_rfl), ?_, ?_⟩
  ·rw [ev_track_vector_minus]; exact spec_track_vector_minus s0 s1 s2 t0 t1 t2
  ·rw [lp_track_vector_minus]; trivial
 ·cases h
def S24 : Sum := addS S23 77 con_track_vector_minus
theorem VS24 : Valid Try.prog S24 := Valid.add VS23 ok_track_vector_minus
def vc_track_model_slow (m0 m1 m2 m3 m4 m5 m6 m7 m8 m9 m10 m11 : Int) (post : DV → Prop) : Prop := lt (IntKind.i64.wrap (m7 * m4)) fun x1 => lt (IntKind.i64.wrap (x1 * m4)) fun x2 => post (.t (.c (.v (.int .i64 x2))))
def ann_track_model_slow : Ann := ⟨fun _ => none, fun _ => none, fun _ => [], noIt, false, fun _ => none, fun _ => none⟩
theorem ev_track_model_slow (J : Inv) (m0 m1 m2 m3 m4 m5 m6 m7 m8 m9 m10 m11 : Int) (post : DV → Prop) : evFn Try.prog tab S24 ann_track_model_slow J Try.f121 [.t (.a [.v (.int .i64 m0), .v (.int .i64 m1), .v (.int .i64 m2), .v (.int .i64 m3), .v (.int .i64 m4), .v (.int .i64 m5), .v (.int .i64 m6), .v (.int .i64 m7), .v (.int .i64 m8), .v (.int .i64 m9), .v (.int .i64 m10), .v (.int .i64 m11)])] post = vc_track_model_slow m0 m1 m2 m3 m4 m5 m6 m7 m8 m9 m10 m11 post := by kernel_rfl
theorem fit_track_model_slow : okFn ann_track_model_slow Try.f121 = true := by kernel_rfl
theorem lp_track_model_slow (J : Inv) (post : DV → Prop) : AllG J (loopsFn Try.prog tab S24 ann_track_model_slow J Try.f121 post) = (True) := by kernel_rfl
theorem spec_track_model_slow (m0 m1 m2 m3 m4 m5 m6 m7 m8 m9 m10 m11 : Int) : vc_track_model_slow m0 m1 m2 m3 m4 m5 m6 m7 m8 m9 m10 m11 (fun r => LeD r (.t (.c (.v (.int .i64 (wr (wr (m7 * m4) * m4))))))) := by
 unfold vc_track_model_slow
 refine lt_i fun x1 h1 => lt_i fun x2 h2 => ?_
 subst h1; subst h2
 exact LeD.refl _
def con_track_model_slow : Con := fun args => match args with
 | [.t (.a [.v (.int .i64 m0), .v (.int .i64 m1), .v (.int .i64 m2), .v (.int .i64 m3), .v (.int .i64 m4), .v (.int .i64 m5), .v (.int .i64 m6), .v (.int .i64 m7), .v (.int .i64 m8), .v (.int .i64 m9), .v (.int .i64 m10), .v (.int .i64 m11)])] => some (.t (.c (.v (.int .i64 (wr (wr (m7 * m4) * m4))))), none, false)
 | _ => none
theorem ok_track_model_slow : Ok Try.prog 121 con_track_model_slow := by
 refine Ok.fn (ann := ann_track_model_slow) mixed tabOK VS24 ValidIt.no (fn := Try.f121) (by kernel_rfl) (by kernel_rfl) fit_track_model_slow fun args r pre fresh h hp => ?_
 unfold con_track_model_slow at h
 split at h
 ·rename_i m0 m1 m2 m3 m4 m5 m6 m7 m8 m9 m10 m11
  cases h
  refine ⟨rfl, fun _ _ _ => False, _, LeA.refl _, Nat.le_of_ble_eq_true (by kernel_rfl), ?_, ?_⟩
  ·rw [ev_track_model_slow]; exact spec_track_model_slow m0 m1 m2 m3 m4 m5 m6 m7 m8 m9 m10 m11
  ·rw [lp_track_model_slow]; trivial
 ·cases h
def S25 : Sum := addS S24 121 con_track_model_slow
theorem VS25 : Valid Try.prog S25 := Valid.add VS24 ok_track_model_slow
def vc_track_model_answer (m0 m1 m2 m3 m4 m5 m6 m7 m8 m9 m10 m11 : Int) (b0 b1 b2 b3 b4 b5 : Int) (p0 p1 p2 p3 : Int) (post : DV → Prop) : Prop := lt (wr (p0 - m0)) fun x1 => lt (wr (p1 - m1)) fun x2 => lt (wr (p2 - m2)) fun x3 => lt (IntKind.i64.wrap (p3 - m3)) fun x4 => (0 ≤ (0 : Int) ∧ (0 : Int) < ((3 : Nat) : Int)) ∧ ((0 ≤ (0 : Int) ∧ (0 : Int) < ((3 : Nat) : Int)) ∧ (lt (IntKind.i64.wrap ((0 : Int) - x4)) fun x5 => lt (IntKind.i64.wrap ((0 : Int) - x4)) fun x6 => lt ((((⟨b0, b3⟩ : Rg) : Rg).times (⟨x5, x6⟩ : Rg)).lo) fun x7 => lt ((((⟨b0, b3⟩ : Rg) : Rg).times (⟨x5, x6⟩ : Rg)).hi) fun x8 => ((-4000000000000000000 ≤ b0 * x5 ∧ b0 * x5 ≤ 4000000000000000000) ∧ (-4000000000000000000 ≤ b0 * x6 ∧ b0 * x6 ≤ 4000000000000000000) ∧ (-4000000000000000000 ≤ b3 * x5 ∧ b3 * x5 ≤ 4000000000000000000) ∧ (-4000000000000000000 ≤ b3 * x6 ∧ b3 * x6 ≤ 4000000000000000000)) ∧ ((0 ≤ (0 : Int) ∧ (0 : Int) < ((3 : Nat) : Int)) ∧ (lt (IntKind.i64.wrap (m4 * x1)) fun x9 => (0 ≤ (0 : Int) ∧ (0 : Int) < ((3 : Nat) : Int)) ∧ (lt (IntKind.i64.wrap (m4 * x1)) fun x10 => lt ((((⟨x7, x8⟩ : Rg) : Rg).plusW (⟨x9, x10⟩ : Rg)).lo) fun x11 => lt ((((⟨x7, x8⟩ : Rg) : Rg).plusW (⟨x9, x10⟩ : Rg)).hi) fun x12 => lt ((((⟨x11, x12⟩ : Rg) : Rg).times (⟨b0, b3⟩ : Rg)).lo) fun x13 => lt ((((⟨x11, x12⟩ : Rg) : Rg).times (⟨b0, b3⟩ : Rg)).hi) fun x14 => ((-4000000000000000000 ≤ x11 * b0 ∧ x11 * b0 ≤ 4000000000000000000) ∧ (-4000000000000000000 ≤ x11 * b3 ∧ x11 * b3 ≤ 4000000000000000000) ∧ (-4000000000000000000 ≤ x12 * b0 ∧ x12 * b0 ≤ 4000000000000000000) ∧ (-4000000000000000000 ≤ x12 * b3 ∧ x12 * b3 ≤ 4000000000000000000)) ∧ (lt ((((⟨(0 : Int), (0 : Int)⟩ : Rg) : Rg).plusW (⟨x13, x14⟩ : Rg)).lo) fun x15 => lt ((((⟨(0 : Int), (0 : Int)⟩ : Rg) : Rg).plusW (⟨x13, x14⟩ : Rg)).hi) fun x16 => lt ((sqW x11 x12).lo) fun x17 => lt ((sqW x11 x12).hi) fun x18 => lt ((((⟨(0 : Int), (0 : Int)⟩ : Rg) : Rg).plusW (⟨x17, x18⟩ : Rg)).lo) fun x19 => lt ((((⟨(0 : Int), (0 : Int)⟩ : Rg) : Rg).plusW (⟨x17, x18⟩ : Rg)).hi) fun x20 => (0 ≤ (1 : Int) ∧ (1 : Int) < ((3 : Nat) : Int)) ∧ ((0 ≤ (1 : Int) ∧ (1 : Int) < ((3 : Nat) : Int)) ∧ (lt (IntKind.i64.wrap ((0 : Int) - x4)) fun x21 => lt (IntKind.i64.wrap ((0 : Int) - x4)) fun x22 => lt ((((⟨b1, b4⟩ : Rg) : Rg).times (⟨x21, x22⟩ : Rg)).lo) fun x23 => lt ((((⟨b1, b4⟩ : Rg) : Rg).times (⟨x21, x22⟩ : Rg)).hi) fun x24 => ((-4000000000000000000 ≤ b1 * x21 ∧ b1 * x21 ≤ 4000000000000000000) ∧ (-4000000000000000000 ≤ b1 * x22 ∧ b1 * x22 ≤ 4000000000000000000) ∧ (-4000000000000000000 ≤ b4 * x21 ∧ b4 * x21 ≤ 4000000000000000000) ∧ (-4000000000000000000 ≤ b4 * x22 ∧ b4 * x22 ≤ 4000000000000000000)) ∧ ((0 ≤ (1 : Int) ∧ (1 : Int) < ((3 : Nat) : Int)) ∧ (lt (IntKind.i64.wrap (m4 * x2)) fun x25 => (0 ≤ (1 : Int) ∧ (1 : Int) < ((3 : Nat) : Int)) ∧ (lt (IntKind.i64.wrap (m4 * x2)) fun x26 => lt ((((⟨x23, x24⟩ : Rg) : Rg).plusW (⟨x25, x26⟩ : Rg)).lo) fun x27 => lt ((((⟨x23, x24⟩ : Rg) : Rg).plusW (⟨x25, x26⟩ : Rg)).hi) fun x28 => lt ((((⟨x27, x28⟩ : Rg) : Rg).times (⟨b1, b4⟩ : Rg)).lo) fun x29 => lt ((((⟨x27, x28⟩ : Rg) : Rg).times (⟨b1, b4⟩ : Rg)).hi) fun x30 => ((-4000000000000000000 ≤ x27 * b1 ∧ x27 * b1 ≤ 4000000000000000000) ∧ (-4000000000000000000 ≤ x27 * b4 ∧ x27 * b4 ≤ 4000000000000000000) ∧ (-4000000000000000000 ≤ x28 * b1 ∧ x28 * b1 ≤ 4000000000000000000) ∧ (-4000000000000000000 ≤ x28 * b4 ∧ x28 * b4 ≤ 4000000000000000000)) ∧ (lt ((((⟨x15, x16⟩ : Rg) : Rg).plusW (⟨x29, x30⟩ : Rg)).lo) fun x31 => lt ((((⟨x15, x16⟩ : Rg) : Rg).plusW (⟨x29, x30⟩ : Rg)).hi) fun x32 => lt ((sqW x27 x28).lo) fun x33 => lt ((sqW x27 x28).hi) fun x34 => lt ((((⟨x19, x20⟩ : Rg) : Rg).plusW (⟨x33, x34⟩ : Rg)).lo) fun x35 => lt ((((⟨x19, x20⟩ : Rg) : Rg).plusW (⟨x33, x34⟩ : Rg)).hi) fun x36 => (0 ≤ (2 : Int) ∧ (2 : Int) < ((3 : Nat) : Int)) ∧ ((0 ≤ (2 : Int) ∧ (2 : Int) < ((3 : Nat) : Int)) ∧ (lt (IntKind.i64.wrap ((0 : Int) - x4)) fun x37 => lt (IntKind.i64.wrap ((0 : Int) - x4)) fun x38 => lt ((((⟨b2, b5⟩ : Rg) : Rg).times (⟨x37, x38⟩ : Rg)).lo) fun x39 => lt ((((⟨b2, b5⟩ : Rg) : Rg).times (⟨x37, x38⟩ : Rg)).hi) fun x40 => ((-4000000000000000000 ≤ b2 * x37 ∧ b2 * x37 ≤ 4000000000000000000) ∧ (-4000000000000000000 ≤ b2 * x38 ∧ b2 * x38 ≤ 4000000000000000000) ∧ (-4000000000000000000 ≤ b5 * x37 ∧ b5 * x37 ≤ 4000000000000000000) ∧ (-4000000000000000000 ≤ b5 * x38 ∧ b5 * x38 ≤ 4000000000000000000)) ∧ ((0 ≤ (2 : Int) ∧ (2 : Int) < ((3 : Nat) : Int)) ∧ (lt (IntKind.i64.wrap (m4 * x3)) fun x41 => (0 ≤ (2 : Int) ∧ (2 : Int) < ((3 : Nat) : Int)) ∧ (lt (IntKind.i64.wrap (m4 * x3)) fun x42 => lt ((((⟨x39, x40⟩ : Rg) : Rg).plusW (⟨x41, x42⟩ : Rg)).lo) fun x43 => lt ((((⟨x39, x40⟩ : Rg) : Rg).plusW (⟨x41, x42⟩ : Rg)).hi) fun x44 => lt ((((⟨x43, x44⟩ : Rg) : Rg).times (⟨b2, b5⟩ : Rg)).lo) fun x45 => lt ((((⟨x43, x44⟩ : Rg) : Rg).times (⟨b2, b5⟩ : Rg)).hi) fun x46 => ((-4000000000000000000 ≤ x43 * b2 ∧ x43 * b2 ≤ 4000000000000000000) ∧ (-4000000000000000000 ≤ x43 * b5 ∧ x43 * b5 ≤ 4000000000000000000) ∧ (-4000000000000000000 ≤ x44 * b2 ∧ x44 * b2 ≤ 4000000000000000000) ∧ (-4000000000000000000 ≤ x44 * b5 ∧ x44 * b5 ≤ 4000000000000000000)) ∧ (lt ((((⟨x31, x32⟩ : Rg) : Rg).plusW (⟨x45, x46⟩ : Rg)).lo) fun x47 => lt ((((⟨x31, x32⟩ : Rg) : Rg).plusW (⟨x45, x46⟩ : Rg)).hi) fun x48 => lt ((sqW x43 x44).lo) fun x49 => lt ((sqW x43 x44).hi) fun x50 => lt ((((⟨x35, x36⟩ : Rg) : Rg).plusW (⟨x49, x50⟩ : Rg)).lo) fun x51 => lt ((((⟨x35, x36⟩ : Rg) : Rg).plusW (⟨x49, x50⟩ : Rg)).hi) fun x52 => lt ((sqsW (⟨⟨b0, b1, b2⟩, ⟨b3, b4, b5⟩⟩ : TBox)).lo) fun x53 => lt ((sqsW (⟨⟨b0, b1, b2⟩, ⟨b3, b4, b5⟩⟩ : TBox)).hi) fun x54 => lt (canW (⟨m0, m1, m2, m3, m4, m5, m6, m7, m8, m9, m10, m11⟩ : TMod) (⟨⟨b0, b1, b2⟩, ⟨b3, b4, b5⟩⟩ : TBox)) fun x55 => lt ((if m5 > x53 then m5 else x53)) fun x56 => lt (wr (wr (m7 * m4) * m4)) fun x57 => lt (IntKind.i64.wrap (x56 - x57)) fun x58 => lt ((if m6 < x54 then m6 else x54)) fun x59 => lt (wr (wr (m7 * m4) * m4)) fun x60 => lt (IntKind.i64.wrap (x59 - x60)) fun x61 => cond (x52 == (0 : Int)) (cond (x52 == (0 : Int)) (post (.t (.c (.v (.int .i64 2))))) (cond (decide (x51 > (0 : Int))) (cond (decide (x47 > (0 : Int))) ((true = true) ∧ (post (.t (.c (.v (.int .i64 0)))))) (lt (IntKind.i64.wrap (x47 * x47)) fun x62 => lt (IntKind.i64.wrap (x58 * x51)) fun x63 => cond (decide (x62 < x63)) (post (.t (.c (.v (.int .i64 0))))) (post (.t (.c (.v (.int .i64 1))))))) ((false = false) ∧ (post (.t (.c (.v (.int .i64 1)))))))) (cond (decide (x48 ≤ (0 : Int))) (lt (IntKind.i64.wrap (x48 * x48)) fun x64 => lt (IntKind.i64.wrap (x61 * x52)) fun x65 => cond (decide (x64 ≥ x65)) (post (.t (.c (.v (.int .i64 2))))) (cond (decide (x51 > (0 : Int))) (cond (decide (x47 > (0 : Int))) ((true = true) ∧ (post (.t (.c (.v (.int .i64 0)))))) (lt (IntKind.i64.wrap (x47 * x47)) fun x66 => lt (IntKind.i64.wrap (x58 * x51)) fun x67 => cond (decide (x66 < x67)) (post (.t (.c (.v (.int .i64 0))))) (post (.t (.c (.v (.int .i64 1))))))) ((false = false) ∧ (post (.t (.c (.v (.int .i64 1)))))))) ((false = false) ∧ (cond (decide (x51 > (0 : Int))) (cond (decide (x47 > (0 : Int))) ((true = true) ∧ (post (.t (.c (.v (.int .i64 0)))))) (lt (IntKind.i64.wrap (x47 * x47)) fun x68 => lt (IntKind.i64.wrap (x58 * x51)) fun x69 => cond (decide (x68 < x69)) (post (.t (.c (.v (.int .i64 0))))) (post (.t (.c (.v (.int .i64 1))))))) ((false = false) ∧ (post (.t (.c (.v (.int .i64 1)))))))))))))))))))))))))))
def ann_track_model_answer : Ann := ⟨fun r => lookA r [(1, ([[], [0], [], [2], [2, 3], [0, 1, 2, 3, 4], [], [6], [], [8], [8, 9], [6, 7, 8, 9, 10], [], [0, 1, 2, 3, 4, 5, 12], [0, 1, 2, 3, 4, 5, 6, 7, 8, 9, 10, 11, 12, 13]], [[23, 7], [23, 7], [23, 7], [23, 7], [23, 7], [7], [23, 7], [7, 23], [23, 7], [23, 7], [7, 23], [23, 7], [23], [9999, 7], []])), (6, ([[], [], [0, 1], [0, 1, 2], [], [], [4, 5], [4, 5, 6], [0, 1, 2, 3, 4, 5, 6, 7], [], [0, 1, 2, 3, 4, 5, 6, 7, 8, 9]], [[12], [12], [12], [12], [12], [12], [12], [12], [12], [], []])), (8, ([[], [], [1], [1, 2], [], [4], [4, 5], [1, 2, 3, 4, 5, 6], [], [8], [8, 9], [], [11], [11, 12], [8, 9, 10, 11, 12, 13], [1, 2, 3, 4, 5, 6, 7, 8, 9, 10, 11, 12, 13, 14], [0, 1, 2, 3, 4, 5, 6, 7, 8, 9, 10, 11, 12, 13, 14, 15], [], [0, 1, 2, 3, 4, 5, 6, 7, 8, 9, 10, 11, 12, 13, 14, 15, 16, 17]], [[65, 14], [65, 14], [65, 14], [65, 14], [65, 14], [65, 14], [65, 14], [65, 14], [65, 14], [65, 14], [65, 14], [65, 14], [65, 14], [65, 14], [65, 14], [65, 14], [14], [65], []])), (9, ([[], [], [], [1, 2], [0, 1, 2, 3], [], [], [0, 1, 2, 3, 4, 6], [0, 1, 2, 3, 4, 5, 6, 7], [0, 1, 2, 3, 4, 5, 6, 7, 8], [0, 1, 2, 3, 4, 5, 6, 7, 8, 9]], [[69, 70, 73, 74], [69, 70, 73, 74], [69, 70, 73, 74], [70, 73, 74], [73, 74], [69, 70, 73, 74], [69, 70, 73, 74], [74], [], [], []])), (12, ([[], [0], [], [2], [2, 3], [2, 3, 4], [0, 1, 2, 3, 4, 5], [], [7], [0, 1, 2, 3, 4, 5, 6, 7, 8], [], [10], [], [12], [12, 13], [12, 13, 14], [10, 11, 12, 13, 14, 15], [], [7, 8, 17], [7, 8, 10, 11, 12, 13, 14, 15, 16, 17, 18], [0, 1, 2, 3, 4, 5, 6, 7, 8, 9, 10, 11, 12, 13, 14, 15, 16, 17, 18, 19], [], [0, 1, 2, 3, 4, 5, 6, 7, 8, 9, 10, 11, 12, 13, 14, 15, 16, 17, 18, 19, 20, 21]], [[90, 100, 17], [90, 100, 17], [90, 100, 17], [90, 100, 17], [90, 100, 17], [90, 100, 17], [90, 100, 17], [90, 100, 17], [100, 17], [100, 17], [90, 100, 17], [90, 100, 17], [90, 100, 17], [90, 100, 17], [90, 100, 17], [90, 100, 17], [90, 100, 17], [90, 100, 17], [17], [17], [17], [90, 100], []]))], fun b => lookA b [(0, (some 4, some ⟨[3, 4, 7, 8, 9, 10, 30], [3, 4, 7, 9, 10], []⟩))], fun _ => [], noIt, false, fun _ => none, fun _ => none⟩
theorem ev_track_model_answer (J : Inv) (m0 m1 m2 m3 m4 m5 m6 m7 m8 m9 m10 m11 : Int) (b0 b1 b2 b3 b4 b5 : Int) (p0 p1 p2 p3 : Int) (post : DV → Prop) : evFn Try.prog tab S25 ann_track_model_answer J Try.f94 [.t (.a [.v (.int .i64 m0), .v (.int .i64 m1), .v (.int .i64 m2), .v (.int .i64 m3), .v (.int .i64 m4), .v (.int .i64 m5), .v (.int .i64 m6), .v (.int .i64 m7), .v (.int .i64 m8), .v (.int .i64 m9), .v (.int .i64 m10), .v (.int .i64 m11)]), .t (.a [.v (.int .i64 b0), .v (.int .i64 b1), .v (.int .i64 b2), .v (.int .i64 b3), .v (.int .i64 b4), .v (.int .i64 b5)]), .t (.a [.v (.int .i64 p0), .v (.int .i64 p1), .v (.int .i64 p2), .v (.int .i64 p3)])] post = vc_track_model_answer m0 m1 m2 m3 m4 m5 m6 m7 m8 m9 m10 m11 b0 b1 b2 b3 b4 b5 p0 p1 p2 p3 post := by kernel_rfl
theorem fit_track_model_answer : okFn ann_track_model_answer Try.f94 = true := by kernel_rfl
theorem lp_track_model_answer (J : Inv) (post : DV → Prop) : AllG J (loopsFn Try.prog tab S25 ann_track_model_answer J Try.f94 post) = (True) := by kernel_rfl
set_option maxHeartbeats 8000000 in
set_option maxRecDepth 100000 in
theorem spec_track_model_answer (m0 m1 m2 m3 m4 m5 m6 m7 m8 m9 m10 m11 : Int) (b0 b1 b2 b3 b4 b5 : Int) (p0 p1 p2 p3 : Int) (hp : ((⟨m0, m1, m2, m3, m4, m5, m6, m7, m8, m9, m10, m11⟩ : TMod)).Ok ∧ ((⟨⟨b0, b1, b2⟩, ⟨b3, b4, b5⟩⟩ : TBox)).lo.inS 20 = true ∧ ((⟨⟨b0, b1, b2⟩, ⟨b3, b4, b5⟩⟩ : TBox)).hi.inS 20 = true ∧ ((⟨m0, m1, m2, m3, m4, m5, m6, m7, m8, m9, m10, m11⟩ : TMod)).canBe (⟨⟨b0, b1, b2⟩, ⟨b3, b4, b5⟩⟩ : TBox) ∧ (⟨p0, p1, p2⟩ : V3).inS 1000 = true ∧ -1000101 ≤ p3 ∧ p3 ≤ 1000100) : vc_track_model_answer m0 m1 m2 m3 m4 m5 m6 m7 m8 m9 m10 m11 b0 b1 b2 b3 b4 b5 p0 p1 p2 p3 (fun r => LeD r (.t (.c (.v (.int .i64 (((⟨m0, m1, m2, m3, m4, m5, m6, m7, m8, m9, m10, m11⟩ : TMod)).ans (⟨⟨b0, b1, b2⟩, ⟨b3, b4, b5⟩⟩ : TBox) ⟨p0, p1, p2⟩ p3)))))) := by
 obtain ⟨ho, hl, hh, hc, hp, ht1, ht2⟩ := hp
 obtain ⟨a1, a2, a3⟩ := inS_iff.1 hl
 obtain ⟨c1, c2, c3⟩ := inS_iff.1 hh
 obtain ⟨d1, d2, d3⟩ := inS_iff.1 hp
 simp only at a1 a2 a3 c1 c2 c3 d1 d2 d3
 have hA : -1010101 ≤ p3 - m3 ∧ p3 - m3 ≤ 1010101 := by have := ho.tm; simp only at this; omega
 obtain ⟨_, _, _, _, _, _, _, bP, bL, bl0, bl1⟩ := stg3 ho hl hh hp ⟨ht1, ht2⟩
 have P0 : (⟨0, 0⟩ : Rg).bd 0 := by unfold Rg.bd; simp
 have L0 := P0
 obtain ⟨f1, f2, f3, f4⟩ := fast_bd ho hl hh hc
 unfold vc_track_model_answer
 refine lt_i fun x1 h1 => lt_i fun x2 h2 => lt_i fun x3 h3 => lt_i fun x4 h4 => ?_
 have g1 := ho.px; have g2 := ho.py; have g3 := ho.pz
 simp only at g1 g2 g3
 replace h1 : IntKind.i64.wrap (p0 - m0) = x1 := h1
 replace h2 : IntKind.i64.wrap (p1 - m1) = x2 := h2
 replace h3 : IntKind.i64.wrap (p2 - m2) = x3 := h3
 rw [IntWalk.i64_in _ (by omega)] at h1 h2 h3 h4
 rw [← h1, ← h2, ← h3, ← h4]
 clear h1 h2 h3 h4 g1 g2 g3
 refine coordT ho.tk (by have := ho.px; simp only at this; omega) hA ⟨a1, c1⟩ (bw (by decide) P0) (bw (by decide) L0) (by decide) fun y1 y2 y3 y4 q1 q2 q3 q4 U1 V1 => ?_
 have P1 : Rg.bd ⟨y1, y2⟩ 404840400 := by subst q1 q2; exact Rg.plus_bd P0 U1 (by decide)
 have L1 : Rg.bd ⟨y3, y4⟩ 409739373680400 := by subst q3 q4; exact Rg.plus_bd L0 V1 (by decide)
 refine coordT ho.tk (by have := ho.py; simp only at this; omega) hA ⟨a2, c2⟩ (bw (by decide) P1) (bw (by decide) L1) (by decide) fun z1 z2 z3 z4 w1 w2 w3 w4 U2 V2 => ?_
 have P2 : Rg.bd ⟨z1, z2⟩ 809680800 := by subst w1 w2; exact Rg.plus_bd P1 U2 (by decide)
 have L2 : Rg.bd ⟨z3, z4⟩ 819478747360800 := by subst w3 w4; exact Rg.plus_bd L1 V2 (by decide)
 refine coordT ho.tk (by have := ho.pz; simp only at this; omega) hA ⟨a3, c3⟩ (bw (by decide) P2) (bw (by decide) L2) (by decide) fun x45 x46 x47 x48 e1 e2 e3 e4 _ _ => ?_
 subst w1 w2 w3 w4
 subst q1 q2 q3 q4
 replace e1 : x45 = ((⟨m0, m1, m2, m3, m4, m5, m6, m7, m8, m9, m10, m11⟩ : TMod).prodR (⟨⟨b0, b1, b2⟩, ⟨b3, b4, b5⟩⟩ : TBox) (⟨p0, p1, p2⟩ : V3) p3).lo := e1
 replace e2 : x46 = ((⟨m0, m1, m2, m3, m4, m5, m6, m7, m8, m9, m10, m11⟩ : TMod).prodR (⟨⟨b0, b1, b2⟩, ⟨b3, b4, b5⟩⟩ : TBox) (⟨p0, p1, p2⟩ : V3) p3).hi := e2
 replace e3 : x47 = ((⟨m0, m1, m2, m3, m4, m5, m6, m7, m8, m9, m10, m11⟩ : TMod).leftR (⟨⟨b0, b1, b2⟩, ⟨b3, b4, b5⟩⟩ : TBox) (⟨p0, p1, p2⟩ : V3) p3).lo := e3
 replace e4 : x48 = ((⟨m0, m1, m2, m3, m4, m5, m6, m7, m8, m9, m10, m11⟩ : TMod).leftR (⟨⟨b0, b1, b2⟩, ⟨b3, b4, b5⟩⟩ : TBox) (⟨p0, p1, p2⟩ : V3) p3).hi := e4
 refine lt_i fun x53 h53 => lt_i fun x54' h54 => lt_i fun _ _ => lt_i fun x56 h56 => lt_i fun x57 h57 => lt_i fun x52 h58 => lt_i fun x59 h59 => lt_i fun x60 h60 => lt_i fun x54 h61 => ?_
 have k1 := ho.tk; have k2 := ho.li
 have hsl := ho.slo; have hsp := ho.slp
 simp only at k1 k2
 have k3 := mul_rg (x := m7) (y := m4) (A := 100) (B := 20) (C := 2000) (by omega) (by omega) (by decide)
 have k4 := mul_rg (x := m7 * m4) (y := m4) (A := 2000) (B := 20) (C := 40000) k3 (by omega) (by decide)
 have es : wr (wr (m7 * m4) * m4) = (⟨m0, m1, m2, m3, m4, m5, m6, m7, m8, m9, m10, m11⟩ : TMod).slow := by
  have s1 : wr (m7 * m4) = m7 * m4 := IntWalk.i64_in _ (by omega)
  rw [s1]
  exact IntWalk.i64_in _ (by omega)
 rw [es] at h57 h60
 rw [sqsW_eq hl hh] at h53 h54
 rw [← h53, mx_if] at h56
 rw [← h54, mn_if] at h59
 have e52 : x52 = ((⟨m0, m1, m2, m3, m4, m5, m6, m7, m8, m9, m10, m11⟩ : TMod).fast (⟨⟨b0, b1, b2⟩, ⟨b3, b4, b5⟩⟩ : TBox)).lo := by rw [← f3, ← h58, ← h56, ← h57]
 have e54 : x54 = ((⟨m0, m1, m2, m3, m4, m5, m6, m7, m8, m9, m10, m11⟩ : TMod).fast (⟨⟨b0, b1, b2⟩, ⟨b3, b4, b5⟩⟩ : TBox)).hi := by rw [← f4, ← h61, ← h59, ← h60]
 have eA : (⟨m0, m1, m2, m3, m4, m5, m6, m7, m8, m9, m10, m11⟩ : TMod).ans (⟨⟨b0, b1, b2⟩, ⟨b3, b4, b5⟩⟩ : TBox) (⟨p0, p1, p2⟩ : V3) p3 = ansR ⟨x45, x46⟩ ⟨x47, x48⟩ ⟨x52, x54⟩ := by
  unfold TMod.ans; rw [e1, e2, e3, e4, e52, e54]
 rw [← e52] at f1
 rw [← e54] at f2
 obtain ⟨⟨y1, y2⟩, ⟨y3, y4⟩⟩ := bP
 obtain ⟨⟨z1, z2⟩, ⟨z3, z4⟩⟩ := bL
 rw [← e1] at y1 y2
 rw [← e2] at y3 y4
 rw [← e3] at z1 z2
 rw [← e4] at z3 z4
 rw [eA]
 clear eA e1 e2 e3 e4 e52 e54 es h53 h54 h56 h57 h58 h59 h60 h61
 have g1 := mul_rg (x := x46) (y := x46) (A := 1214521200) (B := 1214521200) (C := 2000000000000000000) (by omega) (by omega) (by decide)
 have g2 := mul_rg (x := x54) (y := x48) (A := 1200) (B := 1229218121041200) (C := 2000000000000000000) (by omega) (by omega) (by decide)
 have g3 := mul_rg (x := x45) (y := x45) (A := 1214521200) (B := 1214521200) (C := 2000000000000000000) (by omega) (by omega) (by decide)
 have g4 := mul_rg (x := x52) (y := x47) (A := 1200) (B := 1229218121041200) (C := 2000000000000000000) (by omega) (by omega) (by decide)
 have w1 : IntKind.i64.wrap (x46 * x46) = x46 * x46 := IntWalk.i64_in _ (by omega)
 have w2 : IntKind.i64.wrap (x54 * x48) = x54 * x48 := IntWalk.i64_in _ (by omega)
 have w3 : IntKind.i64.wrap (x45 * x45) = x45 * x45 := IntWalk.i64_in _ (by omega)
 have w4 : IntKind.i64.wrap (x52 * x47) = x52 * x47 := IntWalk.i64_in _ (by omega)
 rw [w1, w2, w3, w4]
 unfold ansR
 simp only
 generalize x46 * x46 = X1 at *
 generalize x54 * x48 = X2 at *
 generalize x45 * x45 = X3 at *
 generalize x52 * x47 = X4 at *
 (repeat' with_reducible first | (refine lt_i ?_; intro _ _) | (refine cond_i ?_ ?_ <;> intro _) | (refine And.intro ?_ ?_))
 all_goals first
  | decide
  | (refine leI ?_; simp only [beq_iff_eq, beq_eq_false_iff_ne, ne_eq, decide_eq_true_eq, decide_eq_false_iff_not] at *; (repeat' split) <;> omega)
def con_track_model_answer : Con := fun args => match args with
 | [.t (.a [.v (.int .i64 m0), .v (.int .i64 m1), .v (.int .i64 m2), .v (.int .i64 m3), .v (.int .i64 m4), .v (.int .i64 m5), .v (.int .i64 m6), .v (.int .i64 m7), .v (.int .i64 m8), .v (.int .i64 m9), .v (.int .i64 m10), .v (.int .i64 m11)]), .t (.a [.v (.int .i64 b0), .v (.int .i64 b1), .v (.int .i64 b2), .v (.int .i64 b3), .v (.int .i64 b4), .v (.int .i64 b5)]), .t (.a [.v (.int .i64 p0), .v (.int .i64 p1), .v (.int .i64 p2), .v (.int .i64 p3)])] => some (.t (.c (.v (.int .i64 (((⟨m0, m1, m2, m3, m4, m5, m6, m7, m8, m9, m10, m11⟩ : TMod)).ans (⟨⟨b0, b1, b2⟩, ⟨b3, b4, b5⟩⟩ : TBox) ⟨p0, p1, p2⟩ p3)))), some (((⟨m0, m1, m2, m3, m4, m5, m6, m7, m8, m9, m10, m11⟩ : TMod)).Ok ∧ ((⟨⟨b0, b1, b2⟩, ⟨b3, b4, b5⟩⟩ : TBox)).lo.inS 20 = true ∧ ((⟨⟨b0, b1, b2⟩, ⟨b3, b4, b5⟩⟩ : TBox)).hi.inS 20 = true ∧ ((⟨m0, m1, m2, m3, m4, m5, m6, m7, m8, m9, m10, m11⟩ : TMod)).canBe (⟨⟨b0, b1, b2⟩, ⟨b3, b4, b5⟩⟩ : TBox) ∧ (⟨p0, p1, p2⟩ : V3).inS 1000 = true ∧ -1000101 ≤ p3 ∧ p3 ≤ 1000100), false)
 | _ => none
theorem ok_track_model_answer : Ok Try.prog 94 con_track_model_answer := by
 refine Ok.fn (ann := ann_track_model_answer) mixed tabOK VS25 ValidIt.no (fn := Try.f94) (by kernel_rfl) (by kernel_rfl) fit_track_model_answer fun args r pre fresh h hp => ?_
 unfold con_track_model_answer at h
 split at h
 ·rename_i m0 m1 m2 m3 m4 m5 m6 m7 m8 m9 m10 m11 b0 b1 b2 b3 b4 b5 p0 p1 p2 p3
  cases h
  refine ⟨rfl, fun _ _ _ => False, _, LeA.refl _, Nat.le_of_ble_eq_true (by kernel_rfl), ?_, ?_⟩
  ·rw [ev_track_model_answer]; exact spec_track_model_answer m0 m1 m2 m3 m4 m5 m6 m7 m8 m9 m10 m11 b0 b1 b2 b3 b4 b5 p0 p1 p2 p3 hp
  ·rw [lp_track_model_answer]; trivial
 ·cases h
def S26 : Sum := addS S25 94 con_track_model_answer
theorem VS26 : Valid Try.prog S26 := Valid.add VS25 ok_track_model_answer
theorem track_answer (m : TMod) (b : TBox) (p : V3) (t : Int) (w : World) (ho : m.Ok) (hl : b.lo.inS 20 = true) (hh : b.hi.inS 20 = true) (hc : m.canBe b) (hp : p.inS 1000 = true) (ht : -1000101 ≤ t ∧ t ≤ 1000100) :
  Calls Try.prog 94 #[m.v, b.v, .agg #[.int .i64 p.x, .int .i64 p.y, .int .i64 p.z, .int .i64 t]] w fun e w' => e = .returned (.int .i64 (m.ans b p t)) ∧ Below w.heap.size w w' := by
 obtain ⟨m0, m1, m2, m3, m4, m5, m6, m7, m8, m9, m10, m11⟩ := m
 obtain ⟨⟨b0, b1, b2⟩, ⟨b3, b4, b5⟩⟩ := b
 obtain ⟨p0, p1, p2⟩ := p
 have h := (ok_track_model_answer [.t (.a [.v (.int .i64 m0), .v (.int .i64 m1), .v (.int .i64 m2), .v (.int .i64 m3), .v (.int .i64 m4), .v (.int .i64 m5), .v (.int .i64 m6), .v (.int .i64 m7), .v (.int .i64 m8), .v (.int .i64 m9), .v (.int .i64 m10), .v (.int .i64 m11)]), .t (.a [.v (.int .i64 b0), .v (.int .i64 b1), .v (.int .i64 b2), .v (.int .i64 b3), .v (.int .i64 b4), .v (.int .i64 b5)]), .t (.a [.v (.int .i64 p0), .v (.int .i64 p1), .v (.int .i64 p2), .v (.int .i64 t)])] _ _ _ rfl ⟨ho, hl, hh, hc, hp, ht⟩).2 w (fun _ => True) [TMod.v ⟨m0, m1, m2, m3, m4, m5, m6, m7, m8, m9, m10, m11⟩, TBox.v ⟨⟨b0, b1, b2⟩, ⟨b3, b4, b5⟩⟩, .agg #[.int .i64 p0, .int .i64 p1, .int .i64 p2, .int .i64 t]] ⟨dvV_rel rfl, dvV_rel rfl, dvV_rel rfl, trivial⟩
 refine Calls.mono h ?_
 rintro e w' ⟨v, rfl, e2, e3⟩
 have e4 : v = _ := e2.1
 exact ⟨by rw [e4], e3⟩
end Go.Proofs.Ytlmdmpjfehpjeaa
set_option linter.unusedVariables false
set_option linter.unusedSimpArgs false
namespace Go.Proofs.Ytlmdmpjfehpjeaa
open Go.RowKit
theorem ans_val (m : TMod) (b : TBox) (p : V3) (t : Int) : m.ans b p t = 0 ∨ m.ans b p t = 1 ∨ m.ans b p t = 2 := by
 unfold TMod.ans ansR
 split
 ·omega
 ·split <;> omega
theorem ownR_bd {e l a b : Int} (ha : 0 ≤ a ∧ a ≤ 10000) (hb : 0 ≤ b ∧ b ≤ 10000) : (0 ≤ (ownR e l a b).lo ∧ (ownR e l a b).lo ≤ 10000) ∧ (0 ≤ (ownR e l a b).hi ∧ (ownR e l a b).hi ≤ 10000) := by
 unfold ownR
 simp only
 constructor
 ·(repeat' split) <;> omega
 ·(repeat' split) <;> omega
theorem scores_take (m : TMod) (b : TBox) {l : List THit} {k : Nat} (h : k < l.length) : m.scores b (l.take (k + 1)) = (m.scores b (l.take k)).plus (m.hitR b (hitAt l k)) := by
 rw [hitAt_take h]; unfold TMod.scores; rw [List.foldl_append]; rfl
theorem hit_prod {m : TMod} {h : THit} (ho : m.Ok) (hh : h.Ok) : (0 ≤ h.w * m.mi ∧ h.w * m.mi ≤ 10000) ∧ (0 ≤ h.w * m.no ∧ h.w * m.no ≤ 10000) := by
 have h1 := mul_rg (x := h.w) (y := m.mi) (A := 100) (B := 100) (C := 10000) (by have := hh.w; omega) (by have := ho.mi; omega) (by decide)
 have h2 := mul_rg (x := h.w) (y := m.no) (A := 100) (B := 100) (C := 10000) (by have := hh.w; omega) (by have := ho.no; omega) (by decide)
 have h3 := Int.mul_nonneg hh.w.1 ho.mi.1
 have h4 := Int.mul_nonneg hh.w.1 ho.no.1
 omega
theorem scores_bd {m : TMod} {b : TBox} {l : List THit} (ho : m.Ok) (hok : ∀ i, i < l.length → (hitAt l i).Ok) : ∀ k, k ≤ l.length → (0 ≤ (m.scores b (l.take k)).lo ∧ (m.scores b (l.take k)).lo ≤ 10000 * k) ∧ (0 ≤ (m.scores b (l.take k)).hi ∧ (m.scores b (l.take k)).hi ≤ 10000 * k) := by
 intro k
 induction k with
 | zero => intro _; simp [TMod.scores]
 | succ k ih =>
  intro hk
  have h1 := ih (by omega)
  obtain ⟨g1, g2⟩ := hit_prod ho (hok k (by omega))
  have h2 := ownR_bd (e := m.ans b (hitAt l k).p ((hitAt l k).t + m.ea)) (l := m.ans b (hitAt l k).p ((hitAt l k).t - m.la - 1)) g1 g2
  rw [scores_take m b (by omega)]
  unfold TMod.hitR Rg.plus
  simp only
  push_cast
  omega
set_option maxRecDepth 100000 in
set_option maxHeartbeats 16000000 in
theorem track_scores (m : TMod) (b : TBox) (l : List THit) (v : Value) (w : World) (h : HitsAt w v l) (hl : l.length ≤ 12) (hok : ∀ i, i < l.length → (hitAt l i).Ok) (ho : m.Ok) (hlo : b.lo.inS 20 = true) (hhi : b.hi.inS 20 = true) (hc : m.canBe b) :
  Calls Try.prog 96 #[m.v, b.v, v] w fun e w' => e = .returned (m.scores b l).v ∧ Below w.heap.size w w' := by
 obtain ⟨ao, cap, rfl, h1, h2, h3⟩ := h.opn
 unfold maxLen at h2
 have HEN : Hid (∀ k, k < l.length → ∀ W, Calls Try.prog 128 #[m.v, (hitAt l k).v] W fun e w' => e = .returned (.tuple #[.agg #[.int .i64 (hitAt l k).p.x, .int .i64 (hitAt l k).p.y, .int .i64 (hitAt l k).p.z, .int .i64 ((hitAt l k).t + m.ea)], .agg #[.int .i64 (hitAt l k).p.x, .int .i64 (hitAt l k).p.y, .int .i64 (hitAt l k).p.z, .int .i64 ((hitAt l k).t - m.la - 1)]]) ∧ Below W.heap.size W w') := hid (fun k hk W => track_ends m _ W ho (hok k hk))
 have HA1 : Hid (∀ k, k < l.length → ∀ W, Calls Try.prog 94 #[m.v, b.v, .agg #[.int .i64 (hitAt l k).p.x, .int .i64 (hitAt l k).p.y, .int .i64 (hitAt l k).p.z, .int .i64 ((hitAt l k).t + m.ea)]] W fun e w' => e = .returned (.int .i64 (m.ans b (hitAt l k).p ((hitAt l k).t + m.ea))) ∧ Below W.heap.size W w') := hid (fun k hk W => track_answer m b _ _ W ho hlo hhi hc (hok k hk).p (by have h1 := (hok k hk).t; have h2 := ho.ea; omega))
 have HA2 : Hid (∀ k, k < l.length → ∀ W, Calls Try.prog 94 #[m.v, b.v, .agg #[.int .i64 (hitAt l k).p.x, .int .i64 (hitAt l k).p.y, .int .i64 (hitAt l k).p.z, .int .i64 ((hitAt l k).t - m.la - 1)]] W fun e w' => e = .returned (.int .i64 (m.ans b (hitAt l k).p ((hitAt l k).t - m.la - 1))) ∧ Below W.heap.size W w') := hid (fun k hk W => track_answer m b _ _ W ho hlo hhi hc (hok k hk).p (by have h1 := (hok k hk).t; have h2 := ho.la; omega))
 have HST : Hid (∀ k, k < l.length → m.scores b (l.take (k + 1)) = (m.scores b (l.take k)).plus (m.hitR b (hitAt l k))) := hid (fun k hk => scores_take m b hk)
 have HBD : Hid (∀ k, k ≤ l.length → (0 ≤ (m.scores b (l.take k)).lo ∧ (m.scores b (l.take k)).lo ≤ 10000 * k) ∧ (0 ≤ (m.scores b (l.take k)).hi ∧ (m.scores b (l.take k)).hi ≤ 10000 * k)) := hid (scores_bd ho hok)
 have HPR : Hid (∀ k, k < l.length → (0 ≤ (hitAt l k).w * m.mi ∧ (hitAt l k).w * m.mi ≤ 10000) ∧ (0 ≤ (hitAt l k).w * m.no ∧ (hitAt l k).w * m.no ≤ 10000)) := hid (fun k hk => hit_prod ho (hok k hk))
 have HS0 : Hid (m.scores b (l.take 0) = ⟨0, 0⟩) := hid (by simp [TMod.scores])
 have HSN : Hid (m.scores b (l.take l.length) = m.scores b l) := hid (by rw [List.take_length])
 have HHR : Hid (∀ k, m.hitR b (hitAt l k) = ownR (m.ans b (hitAt l k).p ((hitAt l k).t + m.ea)) (m.ans b (hitAt l k).p ((hitAt l k).t - m.la - 1)) ((hitAt l k).w * m.mi) ((hitAt l k).w * m.no)) := hid (fun k => rfl)
 have HAV : Hid (∀ p t, m.ans b p t = 0 ∨ m.ans b p t = 1 ∨ m.ans b p t = 2) := hid (ans_val m b)
 generalize hSC : m.scores b l = SC at HSN ⊢
 clear hSC
 generalize hFK : (fun k => m.scores b (l.take k)) = FK
 have HFK : Hid (∀ k, m.scores b (l.take k) = FK k) := hid (fun k => by rw [← hFK])
 simp only [HFK.out] at HST HBD HS0 HSN
 clear hFK HFK
 generalize hHK : (fun k => m.hitR b (hitAt l k)) = HK
 have HHK : Hid (∀ k, m.hitR b (hitAt l k) = HK k) := hid (fun k => by rw [← hHK])
 simp only [HHK.out] at HST HHR
 clear hHK HHK
 generalize hAN : m.ans b = AN at HA1 HA2 HHR HAV
 clear hAN h hok ho hlo hhi hc
 obtain ⟨px, py, pz, tm, tk, lo, hi, li, ea, la, no, mi⟩ := m
 obtain ⟨⟨lx, ly, lz⟩, ⟨hx, hy, hz⟩⟩ := b
 unfold TMod.v TBox.v at *
 simp only at *
 obtain ⟨W0, hW0⟩ : ∃ W0, W0 = (((w.alloc (.cells #[.int .i64 px, .int .i64 py, .int .i64 pz, .int .i64 tm, .int .i64 tk, .int .i64 lo, .int .i64 hi, .int .i64 li, .int .i64 ea, .int .i64 la, .int .i64 no, .int .i64 mi] 134)).alloc (.cells #[.int .i64 lx, .int .i64 ly, .int .i64 lz, .int .i64 hx, .int .i64 hy, .int .i64 hz] 75)).alloc (.cells #[.int .i64 0, .int .i64 0] 157)).alloc (.cells #[.int .i64 0, .int .i64 0] 157) := ⟨_, rfl⟩
 have hbW0 : Below w.heap.size w W0 := by rw [hW0]; exact BelowA
 obtain ⟨hz0, q0, q1, q2, q3⟩ := al4 w _ _ _ _ _ _ _ _ W0 hW0
 have Q0 := hid q0
 have Q1 := hid q1
 have Q2 := hid q2
 have Q3 := hid q3
 have hzW0 := hbW0.size
 clear q0 q1 q2 q3
 go_enter Try.func96, Try.ntmps96
 go_wp2_with fail
 rw [← hW0]
 clear hW0
 go_loopw [19] (fun i wr => ∃ (k : Nat) (ol oh : Int), k ≤ l.length ∧ i = .int .i64 k ∧ Hid (wr.heap[w.heap.size + 1 + 1 + 1]? = some (.cells #[.int .i64 ol, .int .i64 oh] 157 (0, 0))) ∧ Hid (FK k = ⟨ol, oh⟩) ∧ Below (w.heap.size + 1 + 1 + 1) W0 wr) (fun i _ => l.length - (intOf i).toNat)
 case atStart => exact ⟨0, 0, 0, Nat.zero_le _, rfl, Q3, HS0, Below.refl _ _⟩
 case round =>
  obtain ⟨k, ol, oh, hk, rfl, HR, HF, hbel⟩ := hrel
  have hzr := hbel.size
  have R0 := hid ((hbel.block w.heap.size (by omega)).trans Q0.out)
  have R1 := hid ((hbel.block (w.heap.size + 1) (by omega)).trans Q1.out)
  have R2 := hid ((hbel.block (w.heap.size + 1 + 1) (by omega)).trans Q2.out)
  have hbx : Below w.heap.size w wr := hbW0.trans (hbel.mono (by omega))
  have HBX := hid hbx
  by_cases hlt : k < l.length
  ·obtain ⟨bb, off, rfl, hb, hcc⟩ := h3 k hlt
   obtain ⟨c0, c1, c2, c3, c4⟩ := hcc k hlt
   have hcb : ∀ o, wr.cell? ⟨bb, o, none⟩ = w.cell? ⟨bb, o, none⟩ := fun o => hbx.cell (p := ⟨bb, o, none⟩) hb
   rw [← hcb] at c0 c1 c2 c3 c4
   have hbw : bb < wr.heap.size := by omega
   have HE := hid (HEN.out k hlt)
   have HC1 := hid (HA1.out k hlt)
   have HC2 := hid (HA2.out k hlt)
   have HP := HPR.out k hlt
   have HN : Hid (FK (k + 1) = (⟨ol, oh⟩ : Rg).plus (HK k)) := hid (by rw [HST.out k hlt, HF.out])
   have HB := HBD.out k hk
   rw [HF.out] at HB
   simp only at HB
   have HO := hid (HHR.out k)
   have hE1 := HAV.out (hitAt l k).p ((hitAt l k).t + ea)
   have hE2 := HAV.out (hitAt l k).p ((hitAt l k).t - la - 1)
   generalize hitAt l k = x at *
   generalize AN x.p (x.t + ea) = E1 at *
   generalize AN x.p (x.t - la - 1) = E2 at *
   generalize x.t + ea = TE at *
   generalize x.t - la - 1 = TL at *
   obtain ⟨MI, hMI⟩ : ∃ MI, x.w * mi = MI := ⟨_, rfl⟩
   obtain ⟨NO, hNO⟩ : ∃ NO, x.w * no = NO := ⟨_, rfl⟩
   have kM : IntKind.i64.wrap (x.w * mi) = MI := by rw [hMI]; exact IntWalk.i64_in _ (by rw [hMI] at HP; omega)
   have kN : IntKind.i64.wrap (x.w * no) = NO := by rw [hNO]; exact IntWalk.i64_in _ (by rw [hNO] at HP; omega)
   rw [hMI, hNO] at HP HO
   have hOB := ownR_bd (e := E1) (l := E2) HP.1 HP.2
   rw [← HO.out] at hOB
   generalize HK k = OW at HO HN hOB
   obtain ⟨NX, hNX⟩ : ∃ NX, FK (k + 1) = NX := ⟨_, rfl⟩
   rw [hNX] at HN
   have HNX := hid hNX
   clear hNX
   have HPL : Hid (∀ x y, x = OW.lo → y = OW.hi → ∀ W, Calls Try.prog 129 #[.agg #[.int .i64 ol, .int .i64 oh], .agg #[.int .i64 x, .int .i64 y]] W fun e w' => e = .returned NX.v ∧ Below W.heap.size W w') := hid (fun x y h1 h2 W => by rw [h1, h2, HN.out]; exact track_plus ⟨ol, oh⟩ OW W (by simp only; omega) (by simp only; omega) (by omega) (by omega))
   have HOL : Hid (OW.lo = if E1 = 0 ∧ E2 = 2 then min MI NO else if E1 = 0 then MI else if E2 = 2 then NO else 0) := hid (by rw [HO.out]; rfl)
   have HOH : Hid (OW.hi = if E2 ≠ 0 then max (if E1 ≠ 2 then MI else 0) NO else if E1 ≠ 2 then MI else 0) := hid (by rw [HO.out]; rfl)
   obtain ⟨⟨x0, x1, x2⟩, t, u⟩ := x
   obtain ⟨nl, nh⟩ := NX
   simp only [THit.v, Rg.v] at *
   clear hcc h3 hcb HEN HA1 HA2 HST HBD HPR HHR HAV HO HN hMI hNO hOB HB
   obtain ⟨m0, m1, m2, m3, m4, m5, m6, m7, m8, m9, m10, m11, ml⟩ := tw_cells (R0.out)
   obtain ⟨b0, b1, b2, b3, b4, b5, hlb⟩ := six_row R1.out
   go_wp2_with (go_at_call 128; ((with_reducible refine (HE.out _).mono ?_); rintro _ w2 ⟨rfl, hb2⟩))
   have hz2 : wr.heap.size < w2.heap.size := Nat.lt_of_lt_of_le (by simp) hb2.size
   have hbr2 : Below wr.heap.size wr w2 := by exact BelowA
   have RH := hid ((hb2.block wr.heap.size (by simp)).trans (heap_alloc_new wr _))
   obtain ⟨X, hX⟩ : ∃ X, X = (w2.alloc (.cells #[.int .i64 x0, .int .i64 x1, .int .i64 x2, .int .i64 TE] 28)).alloc (.cells #[.int .i64 x0, .int .i64 x1, .int .i64 x2, .int .i64 TL] 28) := ⟨_, rfl⟩
   have hb2X : Below w2.heap.size w2 X := by rw [hX]; exact BelowA
   obtain ⟨rA, rB, hlA, hlB⟩ := al2 w2 _ _ _ _ X hX
   rw [← hX]
   clear hX m0 m1 m2 m3 m4 m5 m6 m7 m8 m9 m10 m11 ml b0 b1 b2 b3 b4 b5 hlb c0 c1 c2 c3 c4
   have hbrX : Below wr.heap.size wr X := hbr2.trans (hb2X.mono hbr2.size)
   have XA := hid rA
   have XB := hid rB
   have XH := hid ((hb2X.block wr.heap.size hz2).trans RH.out)
   have X0 := hid ((hbrX.block w.heap.size (by omega)).trans R0.out)
   have X1 := hid ((hbrX.block (w.heap.size + 1) (by omega)).trans R1.out)
   obtain ⟨m0, m1, m2, m3, m4, m5, m6, m7, m8, m9, m10, m11, ml⟩ := tw_cells (X0.out)
   obtain ⟨y0, y1, y2, y3, y4, hly⟩ := five_row XH.out
   clear rA rB
   refine wp_mixC (fun wc => Below (X.heap.size) X wc) 13 [.q [0, 1, 2, 3, 4, 5, 6, 7, 8, 9, 10, 11, 12]] [.q [13]] (by kernel_rfl) (by kernel_rfl) ((Below.refl _ _).drew) ?_
   intro Q' hQ'
   (rw [wpMixC]; simp only [pick, List.drop_succ_cons, List.drop_zero, List.head?_cons, Option.toList_some, List.cons_append, List.nil_append])
   (repeat (first | go_big_quiet_skip | (go_big_quiet_want; refine quiet_simple rfl ?_; go_big_quiet_op; go_big_quiet_on) | (go_big_quiet_want; refine quiet_cellB (ty := 3) rfl rfl (by kernel_rfl) (by assumption) (by first | omega | (simp; omega)) ?_; simp only [Act.put, List.setIfInBounds_toArray, List.set_cons_succ, List.set_cons_zero]; go_big_quiet_on)))
   (try refine wpQuiet_nil ?_)
   (rw [wpMixC])
   (rw [wpMix]; simp only [pick, List.drop_succ_cons, List.drop_zero, List.head?_cons, Option.toList_some, List.cons_append, List.nil_append])
   (repeat (first | (go_big_quiet_step (fail)) | (quiet_step (fail))))
   (try refine wpQuiet_nil ?_)
   (rw [wpMix])
   (refine hQ' _ _ ?_)
   go_wp2_with fail
   obtain ⟨X', hX'⟩ : ∃ X', X' = X.drew := ⟨_, rfl⟩
   have hbXX : Below X.heap.size X X' := by rw [hX']; exact BelowA
   have hzXX : X'.heap.size = X.heap.size := by rw [hX']; rfl
   rw [← hX']
   clear hX' m0 m1 m2 m3 m4 m5 m6 m7 m8 m9 m10 m11 ml y0 y1 y2 y3 y4 hly
   obtain ⟨m0, m1, m2, m3, m4, m5, m6, m7, m8, m9, m10, m11, ml⟩ := tw_cells ((hbXX.block w.heap.size (Array.getElem?_eq_some_iff.1 X0.out).1).trans X0.out)
   obtain ⟨b0, b1, b2, b3, b4, b5, hlb⟩ := six_row ((hbXX.block (w.heap.size + 1) (Array.getElem?_eq_some_iff.1 X1.out).1).trans X1.out)
   obtain ⟨n0, n1, n2, n3, hln⟩ := four_row ((hbXX.block w2.heap.size hlA).trans XA.out)
   obtain ⟨o0, o1, o2, o3, hlo⟩ := four_row ((hbXX.block (w2.heap.size + 1) hlB).trans XB.out)
   have hbrX' : Below wr.heap.size wr X' := hbrX.trans (hbXX.mono hbrX.size)
   have HBX' := hid hbrX'
   have hzX' := hbrX'.size
   clear hb2 hbr2 hb2X hbrX hbXX hbrX' hbx
   refine wp_mixC (fun wc => Below (X'.heap.size) X' wc) 9 [.q [0, 1, 2, 4, 5, 6], .f [3, 7], .q [8]] [.q [9]] (by kernel_rfl) (by kernel_rfl) ((Below.refl _ _).drew) ?_
   intro Q' hQ'
   (rw [wpMixC]; simp only [pick, List.drop_succ_cons, List.drop_zero, List.head?_cons, Option.toList_some, List.cons_append, List.nil_append])
   (repeat (first | go_big_quiet_skip | (go_big_quiet_want; refine quiet_simple rfl ?_; go_big_quiet_op; go_big_quiet_on) | (go_big_quiet_want; refine quiet_agg4B (ty := 28) rfl rfl (by kernel_rfl) (by assumption) (by assumption) (by assumption) (by assumption) (by first | omega | (simp; omega)) ?_; simp only [Act.put, List.setIfInBounds_toArray, List.set_cons_succ, List.set_cons_zero]; go_big_quiet_on) | (go_big_quiet_want; refine quiet_agg6B (ty := 75) rfl rfl (by kernel_rfl) (by assumption) (by assumption) (by assumption) (by assumption) (by assumption) (by assumption) (by first | omega | (simp; omega)) ?_; simp only [Act.put, List.setIfInBounds_toArray, List.set_cons_succ, List.set_cons_zero]; go_big_quiet_on) | (go_big_quiet_want; refine quiet_agg12B (ty := 134) rfl rfl (by kernel_rfl) (by assumption) (by assumption) (by assumption) (by assumption) (by assumption) (by assumption) (by assumption) (by assumption) (by assumption) (by assumption) (by assumption) (by assumption) (by first | omega | (simp; omega)) ?_; simp only [Act.put, List.setIfInBounds_toArray, List.set_cons_succ, List.set_cons_zero]; go_big_quiet_on)))
   (try refine wpQuiet_nil ?_)
   (rw [wpMixC]; simp only [pick, List.drop_succ_cons, List.drop_zero, List.head?_cons, Option.toList_some, List.cons_append, List.nil_append])
   (rw [wpSteps]; go_wp2_with ((first | (go_at_call 94; ((with_reducible refine (HC1.out _).mono ?_); rintro _ w3 ⟨rfl, hb3⟩)) | (go_at_call 94; ((with_reducible refine (HC2.out _).mono ?_); rintro _ w4 ⟨rfl, hb4⟩)))); rw [contF]; refine ⟨?_, ?_⟩; (next => exact BelowA))
   (rw [wpSteps]; go_wp2_with ((first | (go_at_call 94; ((with_reducible refine (HC1.out _).mono ?_); rintro _ w3 ⟨rfl, hb3⟩)) | (go_at_call 94; ((with_reducible refine (HC2.out _).mono ?_); rintro _ w4 ⟨rfl, hb4⟩)))); rw [contF]; refine ⟨?_, ?_⟩; (next => exact BelowA))
   (rw [wpSteps])
   (rw [wpMixC]; simp only [pick, List.drop_succ_cons, List.drop_zero, List.head?_cons, Option.toList_some, List.cons_append, List.nil_append])
   (repeat (first | go_big_quiet_skip | (go_big_quiet_want; refine quiet_simple rfl ?_; go_big_quiet_op; go_big_quiet_on) | (go_big_quiet_want; refine quiet_agg4B (ty := 28) rfl rfl (by kernel_rfl) (by assumption) (by assumption) (by assumption) (by assumption) (by first | omega | (simp; omega)) ?_; simp only [Act.put, List.setIfInBounds_toArray, List.set_cons_succ, List.set_cons_zero]; go_big_quiet_on) | (go_big_quiet_want; refine quiet_agg6B (ty := 75) rfl rfl (by kernel_rfl) (by assumption) (by assumption) (by assumption) (by assumption) (by assumption) (by assumption) (by first | omega | (simp; omega)) ?_; simp only [Act.put, List.setIfInBounds_toArray, List.set_cons_succ, List.set_cons_zero]; go_big_quiet_on) | (go_big_quiet_want; refine quiet_agg12B (ty := 134) rfl rfl (by kernel_rfl) (by assumption) (by assumption) (by assumption) (by assumption) (by assumption) (by assumption) (by assumption) (by assumption) (by assumption) (by assumption) (by assumption) (by assumption) (by first | omega | (simp; omega)) ?_; simp only [Act.put, List.setIfInBounds_toArray, List.set_cons_succ, List.set_cons_zero]; go_big_quiet_on)))
   (try refine wpQuiet_nil ?_)
   (rw [wpMixC])
   (rw [wpMix]; simp only [pick, List.drop_succ_cons, List.drop_zero, List.head?_cons, Option.toList_some, List.cons_append, List.nil_append])
   (repeat (first | (go_big_quiet_step (fail)) | (quiet_step (fail))))
   (try refine wpQuiet_nil ?_)
   (rw [wpMix])
   (refine hQ' _ _ ?_)
   have hbX4 : Below X'.heap.size X' w4 := by exact BelowA
   have hbr4 : Below wr.heap.size wr w4 := HBX'.out.trans (hbX4.mono HBX'.out.size)
   have hz4 := hbr4.size
   obtain ⟨s0, s1, fs0, fs1, hls⟩ := two_cells ((hbr4.block (w.heap.size + 1 + 1 + 1) (by omega)).trans HR.out)
   clear fs0 fs1 hb3 hb4 hbX4 m0 m1 m2 m3 m4 m5 m6 m7 m8 m9 m10 m11 ml b0 b1 b2 b3 b4 b5 hlb n0 n1 n2 n3 hln o0 o1 o2 o3 hlo
   rcases hE1 with rfl | rfl | rfl
   all_goals rcases hE2 with rfl | rfl | rfl
   all_goals
    go_wp2_with (go_at_call 129; refine (HPL.out _ _ (by have h := HOL.out; simp at h; omega) (by have h := HOH.out; simp at h; omega) _).mono ?_; rintro _ w5 ⟨rfl, hb5⟩; have hb05 : Below wr.heap.size wr w5 := (by exact BelowA); have HB05 := hid hb05; have HR5 := hid ((hb05.block (w.heap.size + 1 + 1 + 1) (by omega)).trans HR.out); obtain ⟨g0, g1, fg0, fg1, hlg⟩ := two_cells HR5.out)
    all_goals
     go_roundw
     case rel => exact ⟨k + 1, nl, nh, by omega, by go_num, hid (two_set HR5.out), HNX, (hbel.trans (HB05.out.mono (by omega))).trans (((Below.refl _ _).setCell (by simp) _).setCell (by simp) _)⟩
     case measure => simp [intOf]; omega
  ·have hkl : k = l.length := by omega
   subst hkl
   have HV : Hid (SC = ⟨ol, oh⟩) := hid (by rw [← HSN.out]; exact HF.out)
   obtain ⟨g0, g1, fg0, fg1, hlg⟩ := two_cells R2.out
   have hro := HR.out
   obtain ⟨s0, s1, fs0, fs1, hls⟩ := two_cells hro
   clear hro
   go_wp2_with fail
   ((try simp only [Exit.inBlock, Exit.then]); refine bodyPost_ret (v := .agg #[.int .i64 ol, .int .i64 oh]) ?_ rfl ?_; (next => simp [results, Try.results96, go_sem, hlg, g0, g1]))
   exact ⟨by rw [HV.out]; rfl, by exact BelowA⟩
end Go.Proofs.Ytlmdmpjfehpjeaa