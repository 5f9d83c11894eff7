/- Texts of this claim, together. -/
import Derived.Test.YtlmdmpjfehpjeaaC9
import Derived.Test.YtlmdmpjfehpjeaaC6
import Derived.Test.YtlmdmpjfehpjeaaC5
import Derived.Test.YtlmdmpjfehpjeaaC7
import Derived.Test.YtlmdmpjfehpjeaaC8

set_option linter.unusedVariables false
set_option linter.unusedSimpArgs false
namespace Go.Proofs.Ytlmdmpjfehpjeaa
open Go.RowKit
def TMod.inE (m : TMod) (b : TBox) (l : List THit) : Int := firstNZ [firstNZ [firstNZ [m.err, b.err], hitsE l], unl (m.canB b) 12]
theorem inE_ok {m : TMod} {b : TBox} {l : List THit} (h : m.inE b l = 0) : m.Ok ∧ b.err = 0 ∧ m.canBe b ∧ hitsE l = 0 := by
 unfold TMod.inE at h
 obtain ⟨h1, h2⟩ := two_zero h
 obtain ⟨h3, h4⟩ := two_zero h1
 obtain ⟨h5, h6⟩ := two_zero h3
 rw [unl_zero (by decide)] at h2
 exact ⟨err_ok h5, h6, canB_iff.1 h2, h4⟩
set_option maxRecDepth 100000 in
set_option maxHeartbeats 8000000 in
theorem track_ScoresIn (m : TMod) (b : TBox) (l : List THit) (v : Value) (w : World) (h : HitsAt w v l) (hl : b.lo.inS 20 = true) (hh : b.hi.inS 20 = true) :
  Calls Try.prog 38 #[m.v, b.v, v] w fun e w' => (m.inE b l = 0 → e = .returned (.tuple #[(m.scores b l).v, .int .i64 0])) ∧ (m.inE b l ≠ 0 → e = .returned (.tuple #[.agg #[.int .i64 0, .int .i64 0], .int .i64 (m.inE b l)])) ∧ Below w.heap.size w w' := by
 have HO : Hid (∀ W, Below w.heap.size w W → Calls Try.prog 95 #[m.v, b.v, v] W fun e w' => e = .returned (.tuple #[m.v, .int .i64 (firstNZ [firstNZ [m.err, b.err], hitsE l])]) ∧ Below W.heap.size W w') := hid (fun W hb => track_openHits m b l v W (h.below hb))
 have HS : Hid (∀ W, Calls Try.prog 93 #[m.v, b.v] W fun e w' => e = .returned (.tuple #[b.squares.v, .bool (m.canB b)]) ∧ Below W.heap.size W w') := hid (fun W => track_squares m b W hl hh)
 have HFI : Hid (∀ v w, IntsAt w v [firstNZ [firstNZ [m.err, b.err], hitsE l], unl (m.canB b) 12] → Calls Try.prog 69 #[v] w fun e w' => e = .returned (.int .i64 (m.inE b l)) ∧ w = w') := hid (fun v w h => track_first _ v w h)
 have HR : Hid (m.inE b l = 0 → ∀ W, Below w.heap.size w W → Calls Try.prog 96 #[m.v, b.v, v] W fun e w' => e = .returned (m.scores b l).v ∧ Below W.heap.size W w') := hid (fun h0 W hb => by
  obtain ⟨o1, o2, o3, o4⟩ := inE_ok h0
  obtain ⟨g1, g2⟩ := hitsE_ok o4
  exact track_scores m b l v W (h.below hb) g1 g2 o1 hl hh o3)
 obtain ⟨ao, cap, rfl, _, _, _⟩ := h.opn
 clear h hl hh
 generalize m.inE b l = E1 at HFI HR ⊢
 generalize firstNZ [firstNZ [m.err, b.err], hitsE l] = E0 at HO HFI
 generalize m.canB b = CB at HS HFI
 generalize b.squares = SQ at HS
 generalize m.scores b l = SC at HR ⊢
 obtain ⟨px, py, pz, tm, tk, lo, hi, li, ea, la, no, mi⟩ := m
 obtain ⟨⟨lx, ly, lz⟩, ⟨hx, hy, hz⟩⟩ := b
 obtain ⟨sl, sh⟩ := SQ
 obtain ⟨rl, rh⟩ := SC
 unfold TMod.v TBox.v Rg.v at *
 simp only at *
 obtain ⟨W0, hW0⟩ : ∃ W0, W0 = ((w.alloc (.cells #[.int .i64 px, .int .i64 py, .int .i64 pz, .int .i64 tm, .int .i64 tk, .int .i64 lo, .int .i64 hi, .int .i64 li, .int .i64 ea, .int .i64 la, .int .i64 no, .int .i64 mi] 26)).alloc (.cells #[.int .i64 lx, .int .i64 ly, .int .i64 lz, .int .i64 hx, .int .i64 hy, .int .i64 hz] 75)).alloc (.cells #[.int .i64 0, .int .i64 0] 24) := ⟨_, rfl⟩
 have hbW0 : Below w.heap.size w W0 := by rw [hW0]; exact BelowA
 obtain ⟨q0, q1, q2⟩ := al3 w _ _ _ _ _ _ W0 hW0
 have l1 := (Array.getElem?_eq_some_iff.1 q1).1
 have l2 := (Array.getElem?_eq_some_iff.1 q2).1
 have Q1 := hid q1
 have Q2 := hid q2
 have hzW0 := hbW0.size
 clear q0 q1 q2
 have hcase : E1 = 0 ∨ E1 ≠ 0 := by omega
 rcases hcase with h1 | h1
 ·subst h1
  have HR2 := hid (HR.out rfl)
  go_enter Try.func38, Try.ntmps38
  go_wp2_with (first | (go_at_call 95; rw [← hW0]; refine (HO.out _ hbW0).mono ?_; rintro _ w1 ⟨rfl, hb1⟩; have hz1 := hb1.size; obtain ⟨b0, b1, b2, b3, b4, b5, hlb⟩ := six_row ((hb1.block (w.heap.size + 1) l1).trans Q1.out)) | (go_at_call 93; obtain ⟨WB, hWB⟩ : ∃ WB, WB = w1.alloc (.cells #[.int .i64 px, .int .i64 py, .int .i64 pz, .int .i64 tm, .int .i64 tk, .int .i64 lo, .int .i64 hi, .int .i64 li, .int .i64 ea, .int .i64 la, .int .i64 no, .int .i64 mi] 134) := ⟨_, rfl⟩; rw [← hWB]; have hbWB : Below w1.heap.size w1 WB := (by rw [hWB]; exact BelowA); have r0 : WB.heap[w1.heap.size]? = some (.cells #[.int .i64 px, .int .i64 py, .int .i64 pz, .int .i64 tm, .int .i64 tk, .int .i64 lo, .int .i64 hi, .int .i64 li, .int .i64 ea, .int .i64 la, .int .i64 no, .int .i64 mi] 134 (0, 0)) := (by rw [hWB]; exact heap_alloc_new w1 _); clear hWB; refine (HS.out _).mono ?_; rintro _ w2 ⟨rfl, hb2⟩; have hb02 : Below W0.heap.size W0 w2 := (hb1.trans (hbWB.mono hz1)).trans (hb2.mono (Nat.le_trans hz1 hbWB.size)); have HB02 := hid hb02; have R0 := hid ((hb2.block w1.heap.size (Array.getElem?_eq_some_iff.1 r0).1).trans r0); clear b0 b1 b2 b3 b4 b5 hlb; obtain ⟨b0, b1, b2, b3, b4, b5, hlb⟩ := six_row ((hb02.block (w.heap.size + 1) l1).trans Q1.out); obtain ⟨m0, m1, m2, m3, m4, m5, m6, m7, m8, m9, m10, m11, ml⟩ := tw_cells (R0.out); have ml' : w1.heap.size < w2.heap.size + 1 := Nat.lt_succ_of_lt ml; have hlb' : w.heap.size + 1 < w2.heap.size + 1 := Nat.lt_succ_of_lt hlb; obtain ⟨g0, g1, fg0, fg1, hlg⟩ := two_cells ((hb02.block (w.heap.size + 1 + 1) l2).trans Q2.out); have hlg' : w.heap.size + 1 + 1 < w2.heap.size + 1 := Nat.lt_succ_of_lt hlg; have hbf : Below w.heap.size w w2 := hbW0.trans (hb02.mono hzW0)) | (go_at_call 72; refine (track_unless _ _ _).mono ?_; rintro _ _ ⟨rfl, rfl⟩) | (go_at_call 69; refine (HFI.out _ _ (intsAt_new _ _ _ _ _ rfl (by simp) (by first | rfl | simp))).mono ?_; rintro _ _ ⟨rfl, rfl⟩) | (go_at_call 96; have hbw : Below w2.heap.size w2 ((w2.alloc (.cells #[.int .i64 sl, .int .i64 sh] 157)).alloc (.cells #[.int .i64 E0, .int .i64 (unl CB 12)] 30)) := (by exact BelowA); have hbw2 := hbf.trans (hbw.mono hbf.size); refine (HR2.out _ hbw2).mono ?_; rintro _ w3 ⟨rfl, hb3⟩; have hb23 : Below w2.heap.size w2 w3 := hbw.trans (hb3.mono hbw.size); have hb03 := HB02.out.trans (hb23.mono HB02.out.size); have hbE : Below w.heap.size w w3 := hbW0.trans (hb03.mono hzW0); clear g0 g1 fg0 fg1 hlg hlg'; obtain ⟨g0, g1, fg0, fg1, hlg⟩ := two_cells ((hb03.block (w.heap.size + 1 + 1) l2).trans Q2.out)))
  ((try simp only [Exit.inBlock, Exit.then]); refine bodyPost_ret (v := .tuple #[.agg #[.int .i64 rl, .int .i64 rh], .int .i64 0]) ?_ rfl ?_; (next => simp [results, Try.results38, go_sem, hlg, g0, g1]))
  exact ⟨fun _ => rfl, fun h => absurd rfl h, by exact BelowA⟩
 ·have hne : (E1 != 0) = true := by simpa using h1
  have HN := hid h1
  clear h1
  go_enter Try.func38, Try.ntmps38
  go_wp2_with (first | (go_at_call 95; rw [← hW0]; refine (HO.out _ hbW0).mono ?_; rintro _ w1 ⟨rfl, hb1⟩; have hz1 := hb1.size; obtain ⟨b0, b1, b2, b3, b4, b5, hlb⟩ := six_row ((hb1.block (w.heap.size + 1) l1).trans Q1.out)) | (go_at_call 93; obtain ⟨WB, hWB⟩ : ∃ WB, WB = w1.alloc (.cells #[.int .i64 px, .int .i64 py, .int .i64 pz, .int .i64 tm, .int .i64 tk, .int .i64 lo, .int .i64 hi, .int .i64 li, .int .i64 ea, .int .i64 la, .int .i64 no, .int .i64 mi] 134) := ⟨_, rfl⟩; rw [← hWB]; have hbWB : Below w1.heap.size w1 WB := (by rw [hWB]; exact BelowA); have r0 : WB.heap[w1.heap.size]? = some (.cells #[.int .i64 px, .int .i64 py, .int .i64 pz, .int .i64 tm, .int .i64 tk, .int .i64 lo, .int .i64 hi, .int .i64 li, .int .i64 ea, .int .i64 la, .int .i64 no, .int .i64 mi] 134 (0, 0)) := (by rw [hWB]; exact heap_alloc_new w1 _); clear hWB; refine (HS.out _).mono ?_; rintro _ w2 ⟨rfl, hb2⟩; have hb02 : Below W0.heap.size W0 w2 := (hb1.trans (hbWB.mono hz1)).trans (hb2.mono (Nat.le_trans hz1 hbWB.size)); have HB02 := hid hb02; have R0 := hid ((hb2.block w1.heap.size (Array.getElem?_eq_some_iff.1 r0).1).trans r0); clear b0 b1 b2 b3 b4 b5 hlb; obtain ⟨b0, b1, b2, b3, b4, b5, hlb⟩ := six_row ((hb02.block (w.heap.size + 1) l1).trans Q1.out); obtain ⟨m0, m1, m2, m3, m4, m5, m6, m7, m8, m9, m10, m11, ml⟩ := tw_cells (R0.out); have ml' : w1.heap.size < w2.heap.size + 1 := Nat.lt_succ_of_lt ml; have hlb' : w.heap.size + 1 < w2.heap.size + 1 := Nat.lt_succ_of_lt hlb; obtain ⟨g0, g1, fg0, fg1, hlg⟩ := two_cells ((hb02.block (w.heap.size + 1 + 1) l2).trans Q2.out); have hlg' : w.heap.size + 1 + 1 < w2.heap.size + 1 := Nat.lt_succ_of_lt hlg; have hbf : Below w.heap.size w w2 := hbW0.trans (hb02.mono hzW0)) | (go_at_call 72; refine (track_unless _ _ _).mono ?_; rintro _ _ ⟨rfl, rfl⟩) | (go_at_call 69; refine (HFI.out _ _ (intsAt_new _ _ _ _ _ rfl (by simp) (by first | rfl | simp))).mono ?_; rintro _ _ ⟨rfl, rfl⟩))
  ((try simp only [Exit.inBlock, Exit.then]); refine bodyPost_ret (v := .tuple #[.agg #[.int .i64 0, .int .i64 0], .int .i64 E1]) ?_ rfl ?_; (next => simp [results, Try.results38, go_sem, hlg, hlg', g0, g1]))
  exact ⟨fun h => absurd h HN.out, fun _ => rfl, by exact BelowA⟩
end Go.Proofs.Ytlmdmpjfehpjeaa
set_option linter.unusedVariables false
set_option linter.unusedSimpArgs false
namespace Go.Proofs.Ytlmdmpjfehpjeaa
def dig (n : Nat) : List Int := if h : n = 0 then [] else ((n % 1000000000 : Nat) : Int) :: dig (n / 1000000000)
termination_by n
decreasing_by omega
def sg (z : Int) : Int := if z < 0 then -1 else if z = 0 then 0 else 1
end Go.Proofs.Ytlmdmpjfehpjeaa
set_option linter.unusedVariables false
set_option linter.unusedSimpArgs false
namespace Go.Proofs.Ytlmdmpjfehpjeaa
open Go.RowKit
def DigIn (w : World) (v : Value) (l : List Int) (N : Nat → Prop) : Prop := SlIn w v l.length 1 (fun i _ => .int .i64 (nth l i)) N
theorem DigIn.ints {w : World} {v : Value} {l : List Int} {N : Nat → Prop} (h : DigIn w v l N) : IntsAt w v l := SlIn.sl h
theorem DigIn.keep {w w' : World} {v : Value} {l : List Int} {N N' : Nat → Prop} (h : DigIn w v l N) (hs : w.heap.size ≤ w'.heap.size) (hk : ∀ b, b < w.heap.size → N b → w'.heap[b]? = w.heap[b]? ∧ N' b) : DigIn w' v l N' := SlIn.keep h hs hk
theorem DigIn.mono {w w' : World} {v : Value} {l : List Int} {N N' : Nat → Prop} (h : DigIn w v l N) (hb : Below w.heap.size w w') (hk : ∀ b, b < w.heap.size → N b → N' b) : DigIn w' v l N' :=
 DigIn.keep h hb.size fun b hlt hN => ⟨hb.block b hlt, hk b hlt hN⟩
theorem IntsAt.dig {w : World} {v : Value} {l : List Int} (h : IntsAt w v l) : DigIn w v l (fun b => b < w.heap.size) := by
 obtain ⟨ao, cap, rfl, h1, h2, h3, h4⟩ := h
 exact ⟨ao, cap, rfl, h1, h2, fun h0 => by obtain ⟨b, off, e, hlt, hc⟩ := h3 h0; exact ⟨b, off, e, hlt, hlt, hc⟩, h4⟩
def WideAt (w : World) (v : Value) (z : Int) (N : Nat → Prop) : Prop := ∃ ao cap, v = .agg #[.int .i64 (sg z), .slice ao (dig z.natAbs).length cap] ∧ DigIn w (.slice ao (dig z.natAbs).length cap) (dig z.natAbs) N
theorem WideAt.keep {w w' : World} {v : Value} {z : Int} {N N' : Nat → Prop} (h : WideAt w v z N) (hs : w.heap.size ≤ w'.heap.size) (hk : ∀ b, b < w.heap.size → N b → w'.heap[b]? = w.heap[b]? ∧ N' b) : WideAt w' v z N' := by
 obtain ⟨ao, cap, rfl, h1⟩ := h
 exact ⟨ao, cap, rfl, h1.keep hs hk⟩
theorem WideAt.mono {w w' : World} {v : Value} {z : Int} {N N' : Nat → Prop} (h : WideAt w v z N) (hb : Below w.heap.size w w') (hk : ∀ b, b < w.heap.size → N b → N' b) : WideAt w' v z N' :=
 WideAt.keep h hb.size fun b hlt hN => ⟨hb.block b hlt, hk b hlt hN⟩
end Go.Proofs.Ytlmdmpjfehpjeaa
set_option linter.unusedVariables false
set_option linter.unusedSimpArgs false
namespace Go.Proofs.Ytlmdmpjfehpjeaa
open Go.RowKit
end Go.Proofs.Ytlmdmpjfehpjeaa
set_option linter.unusedVariables false
set_option linter.unusedSimpArgs false
namespace Go.Proofs.Ytlmdmpjfehpjeaa
open Go.RowKit
theorem sg_neg (z : Int) : sg (-z) = -sg z := by
 unfold sg
 rcases Int.lt_trichotomy z 0 with h | h | h
 ·rw [if_neg (by omega), if_neg (by omega), if_pos h]; rfl
 ·subst h; rfl
 ·rw [if_pos (by omega), if_neg (by omega), if_neg (by omega)]
theorem WideAt.neg {w : World} {ao : Option Addr} {cap : Nat} {z x : Int} {n : Nat} {N : Nat → Prop} (h : WideAt w (.agg #[.int .i64 x, .slice ao n cap]) z N) : WideAt w (.agg #[.int .i64 (-x), .slice ao n cap]) (-z) N := by
 obtain ⟨ao', cap', e, h1⟩ := h
 cases e
 exact ⟨ao, cap, by rw [sg_neg, Int.natAbs_neg], by rw [Int.natAbs_neg]; exact h1⟩
end Go.Proofs.Ytlmdmpjfehpjeaa
set_option linter.unusedVariables false
set_option linter.unusedSimpArgs false
namespace Go.Proofs.Ytlmdmpjfehpjeaa
open Go.RowKit
theorem DigIn.shape {w : World} {v : Value} {l : List Int} {N : Nat → Prop} (h : DigIn w v l N) : ∃ ao cap, v = .slice ao l.length cap := by
 obtain ⟨ao, cap, rfl, _⟩ := h
 exact ⟨ao, cap, rfl⟩
end Go.Proofs.Ytlmdmpjfehpjeaa
set_option linter.unusedVariables false
set_option linter.unusedSimpArgs false
namespace Go.Proofs.Ytlmdmpjfehpjeaa
open Go.RowKit
end Go.Proofs.Ytlmdmpjfehpjeaa
set_option linter.unusedVariables false
set_option linter.unusedSimpArgs false
namespace Go.Proofs.Ytlmdmpjfehpjeaa
open Go.RowKit
theorem WideAt.shape {w : World} {v : Value} {z : Int} {N : Nat → Prop} (h : WideAt w v z N) : ∃ ao n cap, v = .agg #[.int .i64 (sg z), .slice ao n cap] := by
 obtain ⟨ao, cap, rfl, _⟩ := h
 exact ⟨ao, _, cap, rfl⟩
end Go.Proofs.Ytlmdmpjfehpjeaa
set_option linter.unusedVariables false
set_option linter.unusedSimpArgs false
namespace Go.Proofs.Ytlmdmpjfehpjeaa
open Go.RowKit
end Go.Proofs.Ytlmdmpjfehpjeaa
set_option linter.unusedVariables false
set_option linter.unusedSimpArgs false
namespace Go.Proofs.Ytlmdmpjfehpjeaa
end Go.Proofs.Ytlmdmpjfehpjeaa
set_option linter.unusedVariables false
set_option linter.unusedSimpArgs false
namespace Go.Proofs.Ytlmdmpjfehpjeaa
open Go.RowKit
end Go.Proofs.Ytlmdmpjfehpjeaa
set_option linter.unusedVariables false
set_option linter.unusedSimpArgs false
namespace Go.Proofs.Ytlmdmpjfehpjeaa
open Go.RowKit
def RatAt (w : World) (v : Value) (n d : Int) (N : Nat → Prop) : Prop := ∃ a b c e, v = .agg #[a, b, c, e] ∧ WideAt w (.agg #[a, b]) n N ∧ WideAt w (.agg #[c, e]) d N
theorem RatAt.mono {w w' : World} {v : Value} {n d : Int} {N N' : Nat → Prop} (h : RatAt w v n d N) (hb : Below w.heap.size w w') (hk : ∀ b, b < w.heap.size → N b → N' b) : RatAt w' v n d N' := by
 obtain ⟨a, b, c, e, rfl, h1, h2⟩ := h
 exact ⟨a, b, c, e, rfl, h1.mono hb hk, h2.mono hb hk⟩
theorem RatAt.shape {w : World} {v : Value} {n d : Int} {N : Nat → Prop} (h : RatAt w v n d N) : ∃ ao k cap bo m cap2, v = .agg #[.int .i64 (sg n), .slice ao k cap, .int .i64 (sg d), .slice bo m cap2] ∧ WideAt w (.agg #[.int .i64 (sg n), .slice ao k cap]) n N ∧ WideAt w (.agg #[.int .i64 (sg d), .slice bo m cap2]) d N := by
 obtain ⟨a, b, c, e, rfl, ⟨ao, cap, h1, h2⟩, ⟨bo, cap2, h3, h4⟩⟩ := h
 cases h1; cases h3
 exact ⟨ao, _, cap, bo, _, cap2, rfl, ⟨ao, cap, rfl, h2⟩, ⟨bo, cap2, rfl, h4⟩⟩
def rN (n d : Int) : Int := n / (Int.gcd n d : Int)
def rD (n d : Int) : Int := d / (Int.gcd n d : Int)
theorem r_spec {n d : Int} (hd : 0 < d) : 0 < (Int.gcd n d : Int) ∧ (Int.gcd n d : Int) * rN n d = n ∧ (Int.gcd n d : Int) * rD n d = d ∧ 0 < rD n d ∧ (rN n d).natAbs ≤ n.natAbs ∧ (rD n d).natAbs ≤ d.natAbs := by
 have hg : 0 < Int.gcd n d := Nat.pos_of_ne_zero (fun h => by rw [Int.gcd_eq_zero_iff] at h; omega)
 have h1 : (Int.gcd n d : Int) * rN n d = n := Int.mul_ediv_cancel' (Int.gcd_dvd_left ..)
 have h2 : (Int.gcd n d : Int) * rD n d = d := Int.mul_ediv_cancel' (Int.gcd_dvd_right ..)
 have h3 : ∀ x y : Int, (Int.gcd n d : Int) * x = y → x.natAbs ≤ y.natAbs := by
  intro x y e
  rw [← e, Int.natAbs_mul]
  exact Nat.le_mul_of_pos_left _ (by omega)
 refine ⟨by omega, h1, h2, ?_, h3 _ _ h1, h3 _ _ h2⟩
 rcases Int.lt_trichotomy 0 (rD n d) with h | h | h
 ·exact h
 ·rw [← h] at h2; omega
 ·have := Int.mul_neg_of_pos_of_neg (show 0 < (Int.gcd n d : Int) by omega) h; omega
end Go.Proofs.Ytlmdmpjfehpjeaa
set_option linter.unusedVariables false
set_option linter.unusedSimpArgs false
namespace Go.Proofs.Ytlmdmpjfehpjeaa
end Go.Proofs.Ytlmdmpjfehpjeaa
set_option linter.unusedVariables false
set_option linter.unusedSimpArgs false
namespace Go.Proofs.Ytlmdmpjfehpjeaa
theorem nodup_len {α : Type} [DecidableEq α] : ∀ (l m : List α), l.Nodup → (∀ x ∈ l, x ∈ m) → l.length ≤ m.length := by
 intro l
 induction l with
 | nil => intro m _ _; exact Nat.zero_le _
 | cons x l ih =>
  intro m hn hs
  obtain ⟨h1, h2⟩ := List.nodup_cons.1 hn
  have hx : x ∈ m := hs x (by simp)
  have h3 := ih (m.erase x) h2 (fun y hy => by
   have hy2 := hs y (by simp [hy])
   have hne : y ≠ x := fun e => h1 (e ▸ hy)
   exact (List.mem_erase_of_ne hne).2 hy2)
  rw [List.length_erase_of_mem hx] at h3
  have : 0 < m.length := List.length_pos_of_mem hx
  rw [List.length_cons]; omega
instance : DecidableEq V3 := fun a b => decidable_of_iff (a.x = b.x ∧ a.y = b.y ∧ a.z = b.z) (by
 obtain ⟨a1, a2, a3⟩ := a; obtain ⟨b1, b2, b3⟩ := b; simp [V3.mk.injEq])
theorem all_nodup (b : TBox) : b.all.Nodup := (all_sorted b).imp (fun h e => by subst e; exact lexB_irr _ h)
theorem apart_has {a b : TBox} (h : a.apart b) (s : V3) : ¬ (a.has s ∧ b.has s) := by
 unfold TBox.apart TBox.has TBox.rx TBox.ry TBox.rz Rg.has at *; simp only at *; omega
theorem sum_le {b : TBox} (L : List TBox) (o : b.ok) (h : ∀ c ∈ L, c.ok ∧ c.sub b) (hp : L.Pairwise TBox.apart) : sumC L ≤ b.count := by
 have hlen : ∀ M : List TBox, (∀ c ∈ M, c.ok) → ((M.flatMap TBox.all).length : Int) = sumC M := by
  intro M
  induction M with
  | nil => intro _; simp [sumC]
  | cons c M ih => intro hM; rw [List.flatMap_cons, List.length_append, sumC_cons, ← len_all (hM c (by simp)), ← ih (fun d hd => hM d (by simp [hd]))]; push_cast; rfl
 have hnd : ∀ M : List TBox, M.Pairwise TBox.apart → (M.flatMap TBox.all).Nodup := by
  intro M
  induction M with
  | nil => intro _; simp
  | cons c M ih =>
   intro hM
   obtain ⟨h1, h2⟩ := List.pairwise_cons.1 hM
   rw [List.flatMap_cons]
   refine List.nodup_append.2 ⟨all_nodup c, ih h2, fun x hx y hy e => ?_⟩
   subst e
   obtain ⟨d, hd, hxd⟩ := List.mem_flatMap.1 hy
   exact apart_has (h1 d hd) x ⟨mem_all.1 hx, mem_all.1 hxd⟩
 rw [← hlen L (fun c hc => (h c hc).1), ← len_all o]
 have := nodup_len (L.flatMap TBox.all) b.all (hnd L hp) (fun x hx => by
  obtain ⟨c, hc, hxc⟩ := List.mem_flatMap.1 hx
  exact mem_all.2 (sub_has (h c hc).2 (mem_all.1 hxc)))
 omega
theorem sum_full {b : TBox} (L : List TBox) (o : b.ok) (h : ∀ c ∈ L, c.ok ∧ c.sub b) (hp : L.Pairwise TBox.apart) (hc : sumC L = b.count) (s : V3) (hs : b.has s) : ∃ c ∈ L, c.has s := by
 refine Classical.byContradiction fun hn => ?_
 have hb : ∀ c ∈ L, c.apart ⟨s, s⟩ := fun c hcL => by
  have h1 : ¬ c.has s := fun hh => hn ⟨c, hcL, hh⟩
  unfold TBox.apart; simp only
  unfold TBox.has TBox.rx TBox.ry TBox.rz Rg.has at h1; simp only at h1; omega
 have ho : (⟨s, s⟩ : TBox).ok := ⟨Int.le_refl _, Int.le_refl _, Int.le_refl _⟩
 have := sum_le (b := b) (⟨s, s⟩ :: L) o (fun c hcL => by
  rcases List.mem_cons.1 hcL with rfl | hcL
  ·exact ⟨ho, ⟨⟨hs.1.1, hs.1.2⟩, ⟨hs.2.1.1, hs.2.1.2⟩, ⟨hs.2.2.1, hs.2.2.2⟩⟩⟩
  ·exact h c hcL) (List.pairwise_cons.2 ⟨fun c hcL => apart_symm (hb c hcL), hp⟩)
 rw [sumC_cons, hc] at this
 have := count_pos ho
 omega
theorem covers_ge {m : TMod} {l : List THit} {K : Int} {b : TBox} {L : List TBox} (h : m.covers l K b L) (o : b.ok) {s : V3} (hb : b.has s) (hp : m.permit s) (hs : 0 ≤ m.slow) (hsl : m.slow < m.lo) (he : 0 ≤ m.ea ∧ 0 ≤ m.la) (hw : 0 ≤ m.mi ∧ 0 ≤ m.no) (hl : ∀ h ∈ l, 0 ≤ h.w) : K ≤ m.score s l := by
 obtain ⟨c, hc, hcs⟩ := sum_full L o (fun c hc => ⟨(h.each c hc).1, (h.each c hc).2.1⟩) h.apart h.count s hb
 exact proved_ge (h.each c hc).2.2 hcs hp hs hsl he hw hl
theorem lagrange (a b : V3) : 0 ≤ a.dot a * b.dot b - a.dot b * a.dot b := by
 have e : a.dot a * b.dot b - a.dot b * a.dot b = (a.x * b.y - a.y * b.x) * (a.x * b.y - a.y * b.x) + (a.x * b.z - a.z * b.x) * (a.x * b.z - a.z * b.x) + (a.y * b.z - a.z * b.y) * (a.y * b.z - a.z * b.y) := by
  unfold V3.dot; grind
 have h1 := sq_nn (a.x * b.y - a.y * b.x)
 have h2 := sq_nn (a.x * b.z - a.z * b.x)
 have h3 := sq_nn (a.y * b.z - a.z * b.y)
 omega
end Go.Proofs.Ytlmdmpjfehpjeaa
set_option linter.unusedVariables false
set_option linter.unusedSimpArgs false
namespace Go.Proofs.Ytlmdmpjfehpjeaa
open Go.RowKit
theorem track_divisor (a b : Int) (w : World) (h : 0 ≤ a) (h' : a ≤ 9223372036854775807) (hb : 0 < b) (hb' : b ≤ 9223372036854775807) :
  Calls Try.prog 79 #[.int .i64 a, .int .i64 b] w fun e w' => e = .returned (.int .i64 (Int.gcd a b : Nat)) ∧ Below w.heap.size w w' := by
 obtain ⟨g, hg⟩ : ∃ g, g = Int.gcd a b := ⟨_, rfl⟩
 have HG := hid hg
 clear hg
 go_enter Try.func79, Try.ntmps79
 go_wp2_with fail
 go_loopw [0, 1] (fun x y wr => ∃ p q : Int, x = .int .i64 p ∧ y = .int .i64 q ∧ Hid (g = Int.gcd p q) ∧ -9223372036854775808 ≤ p ∧ p ≤ 9223372036854775807 ∧ -9223372036854775807 ≤ q ∧ q ≤ 9223372036854775807 ∧ (q = 0 → -9223372036854775807 ≤ p) ∧ ∃ m, wr = w.drewN m) (fun _ y _ => (intOf y).natAbs)
 case atStart => exact ⟨a, b, rfl, rfl, HG, by omega, h', by omega, hb', by omega, 0, rfl⟩
 case round =>
  obtain ⟨p, q, rfl, rfl, hG, p1, p2, q1, q2, hq, m, rfl⟩ := hrel
  by_cases hz : q = 0
  ·subst hz
   go_wp2_with fail
   all_goals
    go_ret
    refine ⟨ret_int ?_, Below.drewN m (Below.refl _ _)⟩
    rw [HG.out.symm, hG.out, Int.gcd_zero_right]
    omega
  ·have hz' : (q != 0) = true := by simpa using hz
   have HT := hid (tmod_abs p q hz)
   have HT2 := hid (gcd_tmod p q)
   go_wp2_with fail
   go_quiet (fail)
   go_wp2
   go_roundw
   case rel => exact ⟨q, p.tmod q, rfl, rfl, hid (by rw [HT2.out]; exact hG.out), by omega, by omega, by have := HT.out; omega, by have := HT.out; omega, by omega, m + nq, by simp⟩
   case measure => simp only [intOf]; exact HT.out
def TMod.off (m : TMod) (p : V3) : V3 := ⟨p.x - m.px, p.y - m.py, p.z - m.pz⟩
def TMod.num (m : TMod) (s p : V3) : Int := (m.off p).dot (m.off p) * s.dot s - (m.off p).dot s * (m.off p).dot s
theorem row_n {Q : Prop} {w w1 : World} {a : Array Value} {t : TypeId} (hb : Below (w.alloc (.cells a t)).heap.size (w.alloc (.cells a t)) w1) (k : w1.heap[w.heap.size]? = some (.cells a t (0, 0)) → Q) : Q := k ((hb.block _ (by simp)).trans (heap_alloc_new w _))
theorem off_in {m : TMod} {p : V3} (ho : m.Ok) (hp : p.inS 1000 = true) : (m.off p).inS 2000 = true := by
 rw [inS_iff] at *
 have h1 := ho.px; have h2 := ho.py; have h3 := ho.pz
 unfold TMod.off; simp only; omega
theorem near_nums {m : TMod} {s p : V3} (ho : m.Ok) (hs : s.inS 20 = true) (hpm : m.permit s) (hp : p.inS 1000 = true) :
  s.sm s ∧ (m.off p).sm s ∧ (m.off p).sm (m.off p) ∧ (1 ≤ s.dot s ∧ s.dot s ≤ 1200) ∧ (0 ≤ (m.off p).dot (m.off p) ∧ (m.off p).dot (m.off p) ≤ 12000000) ∧ (-120000 ≤ (m.off p).dot s ∧ (m.off p).dot s ≤ 120000) ∧
  (0 ≤ (m.off p).dot (m.off p) * s.dot s ∧ (m.off p).dot (m.off p) * s.dot s ≤ 14400000000) ∧ (0 ≤ (m.off p).dot s * (m.off p).dot s ∧ (m.off p).dot s * (m.off p).dot s ≤ 14400000000) ∧ (0 ≤ m.num s p ∧ m.num s p ≤ 14400000000) := by
 have hw := off_in ho hp
 have h1 := dot_sz hs hs (by omega) (by omega)
 have h2 := dot_sz hw hs (by omega) (by omega)
 have h3 := dot_sz hw hw (by omega) (by omega)
 have hS := hpm.1
 have hS2 := hpm.2
 have hl := ho.lo
 have hh := ho.hi
 have hn := V3.dot_self (m.off p)
 have hb : -120000 ≤ (m.off p).dot s ∧ (m.off p).dot s ≤ 120000 := by unfold V3.dot; omega
 have hc : (m.off p).dot (m.off p) ≤ 12000000 := by unfold V3.dot; omega
 have hbb := mul_rg hb hb (C := 14400000000) (by decide)
 have hac := mul_rg (x := (m.off p).dot (m.off p)) (y := s.dot s) (A := 12000000) (B := 1200) (C := 14400000000) (by omega) (by omega) (by decide)
 have hbn := sq_nn ((m.off p).dot s)
 have han := Int.mul_nonneg hn (show 0 ≤ s.dot s by omega)
 have hlg := lagrange (m.off p) s
 refine ⟨?_, ?_, ?_, by omega, ⟨hn, hc⟩, hb, ⟨han, by omega⟩, ⟨hbn, by omega⟩, ⟨hlg, by unfold TMod.num; omega⟩⟩
 all_goals (unfold V3.sm; omega)
theorem r_pos {n d : Int} (hn : 0 ≤ n) (hd : 0 < d) : 0 ≤ rN n d ∧ rN n d ≤ n ∧ 1 ≤ rD n d ∧ rD n d ≤ d ∧ 1 ≤ (Int.gcd n d : Int) ∧ (Int.gcd n d : Int) ≤ d ∧ n.tdiv (Int.gcd n d) = rN n d ∧ d.tdiv (Int.gcd n d) = rD n d := by
 obtain ⟨h1, h2, h3, h4, h5, h6⟩ := r_spec (n := n) hd
 have hg : (Int.gcd n d : Int) ≤ d := Int.le_of_dvd hd (Int.gcd_dvd_right ..)
 have hN : 0 ≤ rN n d := Int.ediv_nonneg hn (by omega)
 exact ⟨hN, by omega, by omega, by omega, by omega, hg, Int.tdiv_eq_ediv_of_nonneg hn, Int.tdiv_eq_ediv_of_nonneg (by omega)⟩
set_option maxRecDepth 100000 in
set_option maxHeartbeats 8000000 in
theorem track_NearestTo (m : TMod) (s p : V3) (w : World) :
    Calls Try.prog 17 #[m.v, s.v, p.v] w fun e w' => (firstNZ [m.both s, plE p] = 0 → rN (m.num s p) (s.dot s) ≤ 1000000000 → e = .returned (.tuple #[.agg #[.int .i64 (rN (m.num s p) (s.dot s)), .int .i64 (rD (m.num s p) (s.dot s))], .int .i64 0])) ∧ (firstNZ [m.both s, plE p] = 0 → ¬ rN (m.num s p) (s.dot s) ≤ 1000000000 → e = .returned (.tuple #[.agg #[.int .i64 0, .int .i64 0], .int .i64 8])) ∧ (firstNZ [m.both s, plE p] ≠ 0 → e = .returned (.tuple #[.agg #[.int .i64 0, .int .i64 0], .int .i64 (firstNZ [m.both s, plE p])])) ∧ Below w.heap.size w w' := by
  have HO : Hid (∀ W, Calls Try.prog 73 #[m.v, s.v] W fun e w' => e = .returned (.tuple #[m.v, s.v, .int .i64 (m.both s)]) ∧ Below W.heap.size W w') := hid (fun W => track_openStep m s W)
  have HM : Hid (∀ W, Calls Try.prog 70 #[p.v] W fun e w' => e = .returned (.int .i64 (plE p)) ∧ Below W.heap.size W w') := hid (fun W => track_placeErr p W)
  have HFI : Hid (∀ v w, IntsAt w v [m.both s, plE p] → Calls Try.prog 69 #[v] w fun e w' => e = .returned (.int .i64 (firstNZ [m.both s, plE p])) ∧ w = w') := hid (fun v w h => track_first _ v w h)
  by_cases h1 : firstNZ [m.both s, plE p] = 0
  · obtain ⟨h2, h3⟩ := two_zero h1
    obtain ⟨o1, o2, o3, o4⟩ := both_ok h2
    have o5 := plE_ok h3
    obtain ⟨n1, n2, n3, nS, nd, na, nds, naa, nn⟩ := near_nums o1 o2 o3 o5
    obtain ⟨u1, u2, u3, u4, u5, u6, u7, u8⟩ := r_pos nn.1 (show 0 < s.dot s by omega)
    have hpl : m.pl.inS 100000000 = true := inS_iff.2 (by have h1 := o1.px; have h2 := o1.py; have h3 := o1.pz; unfold TMod.pl; simp only; omega)
    have hpp : p.inS 100000000 = true := inS_iff.2 (by have := inS_iff.1 o5; omega)
    have HMI : Hid (∀ W, Calls Try.prog 77 #[p.v, m.pl.v] W fun e w' => e = .returned (m.off p).v ∧ Below W.heap.size W w') := hid (fun W => track_minus p m.pl W hpp hpl)
    have HD1 : Hid (∀ W, Calls Try.prog 78 #[s.v, s.v] W fun e w' => e = .returned (.int .i64 (s.dot s)) ∧ Below W.heap.size W w') := hid (fun W => track_dot s s W n1)
    have HD2 : Hid (∀ W, Calls Try.prog 78 #[(m.off p).v, s.v] W fun e w' => e = .returned (.int .i64 ((m.off p).dot s)) ∧ Below W.heap.size W w') := hid (fun W => track_dot _ s W n2)
    have HD3 : Hid (∀ W, Calls Try.prog 78 #[(m.off p).v, (m.off p).v] W fun e w' => e = .returned (.int .i64 ((m.off p).dot (m.off p))) ∧ Below W.heap.size W w') := hid (fun W => track_dot _ _ W n3)
    have HDV : Hid (∀ W, Calls Try.prog 79 #[.int .i64 (m.num s p), .int .i64 (s.dot s)] W fun e w' => e = .returned (.int .i64 (Int.gcd (m.num s p) (s.dot s) : Nat)) ∧ Below W.heap.size W w') := hid (fun W => track_divisor _ _ W nn.1 (by omega) (by omega) (by omega))
    obtain ⟨X, Y, k1, k2, k3⟩ : ∃ X Y, IntKind.i64.wrap ((m.off p).dot (m.off p) * s.dot s) = X ∧ IntKind.i64.wrap ((m.off p).dot s * (m.off p).dot s) = Y ∧ IntKind.i64.wrap (X - Y) = m.num s p := ⟨_, _, IntWalk.i64_in _ (by omega), IntWalk.i64_in _ (by omega), IntWalk.i64_in _ (by unfold TMod.num at nn; omega)⟩
    rw [h1] at HFI
    have H1 := hid h1
    generalize hE1 : firstNZ [m.both s, plE p] = E1 at H1 ⊢
    generalize m.both s = EB at HO HFI
    generalize plE p = EM at HM HFI
    generalize (Int.gcd (m.num s p) (s.dot s)) = G at HDV u5 u6 u7 u8
    generalize m.off p = V at HMI HD2 HD3 k1 k2
    generalize rN (m.num s p) (s.dot s) = RN at u1 u2 u7 ⊢
    generalize rD (m.num s p) (s.dot s) = RD at u3 u4 u8 ⊢
    generalize m.num s p = NU at HDV k3 nn u2 u7
    generalize s.dot s = S at HD1 HDV k1 u4 u6 u8 nS
    generalize V.dot V = VV at HD3 k1
    generalize V.dot s = VS at HD2 k2
    obtain ⟨px, py, pz, tm, tk, lo, hi, li, ea, la, no, mi⟩ := m
    obtain ⟨sx, sy, sz⟩ := s
    obtain ⟨qx, qy, qz⟩ := p
    obtain ⟨vx, vy, vz⟩ := V
    unfold TMod.v V3.v at *
    simp only [TMod.pl] at *
    clear hE1 h1 h2 h3 o1 o2 o3 o4 o5 n1 n2 n3 nd na nds naa hpl hpp
    have hG0 : (G : Int) ≠ 0 := by omega
    obtain ⟨W0, hW0⟩ : ∃ W0, W0 = (((w.alloc (.cells #[.int .i64 px, .int .i64 py, .int .i64 pz, .int .i64 tm, .int .i64 tk, .int .i64 lo, .int .i64 hi, .int .i64 li, .int .i64 ea, .int .i64 la, .int .i64 no, .int .i64 mi] 26)).alloc (.cells #[.int .i64 sx, .int .i64 sy, .int .i64 sz] 22)).alloc (.cells #[.int .i64 qx, .int .i64 qy, .int .i64 qz] 22)).alloc (.cells #[.int .i64 0, .int .i64 0] 37) := ⟨_, rfl⟩
    have hbW0 : Below w.heap.size w W0 := by rw [hW0]; exact BelowA
    obtain ⟨hz0, q0, q1, q2, q3⟩ := al4 w _ _ _ _ _ _ _ _ W0 hW0
    have Q2 := hid q2
    have Q3 := hid q3
    clear q0 q1 q2 q3
    go_enter Try.func17, Try.ntmps17
    go_wp2_with (first | (go_at_call 73; rw [← hW0]; refine (HO.out _).mono ?_; rintro _ w1 ⟨rfl, hb1⟩; have hz1 := hb1.size; obtain ⟨c0, c1, c2, fc0, fc1, fc2, hl2⟩ := three_cells ((hb1.block (w.heap.size + 1 + 1) (by omega)).trans Q2.out); have hl2' : w.heap.size + 1 + 1 < w1.heap.size + 1 := Nat.lt_succ_of_lt hl2) | (go_at_call 70; obtain ⟨WB, hWB⟩ : ∃ WB, WB = (w1.alloc (.cells #[.int .i64 px, .int .i64 py, .int .i64 pz, .int .i64 tm, .int .i64 tk, .int .i64 lo, .int .i64 hi, .int .i64 li, .int .i64 ea, .int .i64 la, .int .i64 no, .int .i64 mi] 134)).alloc (.cells #[.int .i64 sx, .int .i64 sy, .int .i64 sz] 135) := ⟨_, rfl⟩; rw [← hWB]; have hbWB : Below w1.heap.size w1 WB := (by rw [hWB]; exact BelowA); obtain ⟨r0, r1, hr0, hr1⟩ := al2 w1 _ _ _ _ WB hWB; clear hWB; refine (HM.out _).mono ?_; rintro _ w2 ⟨rfl, hb2⟩; have hb12 : Below W0.heap.size W0 w2 := (hb1.trans (hbWB.mono hz1)).trans (hb2.mono (Nat.le_trans hz1 hbWB.size)); have HB12 := hid hb12; have R0 := hid ((hb2.block w1.heap.size hr0).trans r0); have R1 := hid ((hb2.block (w1.heap.size + 1) hr1).trans r1); have hml : w1.heap.size + 1 < w2.heap.size := Nat.lt_of_lt_of_le hr1 hb2.size; clear r0 r1 c0 c1 c2 fc0 fc1 fc2 hl2 hl2'; have hbf : Below w.heap.size w w2 := hbW0.trans (hb12.mono (by have := hbW0.size; omega)); obtain ⟨g0, g1, fg0, fg1, hgl⟩ := two_cells ((hb12.block (w.heap.size + 1 + 1 + 1) (by omega)).trans Q3.out)) | (go_at_call 69; refine (HFI.out _ _ (intsAt_new _ _ _ _ _ rfl (by simp) (by first | rfl | simp))).mono ?_; rintro _ _ ⟨rfl, rfl⟩))
    obtain ⟨W3, hW3⟩ : ∃ W3, W3 = w2.alloc (.cells #[.int .i64 EB, .int .i64 EM] 30) := ⟨_, rfl⟩
    have hb23 : Below w2.heap.size w2 W3 := by rw [hW3]; exact BelowA
    rw [← hW3]
    clear hW3 g0 g1 fg0 fg1 hgl
    have hz23 := hb23.size
    have HB03 : Hid (Below W0.heap.size W0 W3) := hid (hb12.trans (hb23.mono hb12.size))
    have x0 := (hb23.block w1.heap.size (by omega)).trans R0.out
    have x1 := (hb23.block (w1.heap.size + 1) hml).trans R1.out
    have x2 := (HB03.out.block (w.heap.size + 1 + 1) (by omega)).trans Q2.out
    obtain ⟨m0, m1, m2, m3, m4, m5, m6, m7, m8, m9, m10, m11, ml⟩ := tw_cells (x0)
    obtain ⟨s0, s1, s2, fs0, fs1, fs2, hls⟩ := three_cells x1
    obtain ⟨p0, p1, p2, fp0, fp1, fp2, hlp⟩ := three_cells x2
    have X1 := hid x1
    clear x0 x1 x2 fs0 fs1 fs2 fp0 fp1 fp2 m3 m4 m5 m6 m7 m8 m9 m10 m11 hb1 hb2 hbWB hb12 hb23
    refine wp_mixG (fun wc => Below (W3.heap.size) W3 wc) 10 [0, 1, 2, 3, 5, 6] [4, 7] 8 [.f [9]] [.q [10]] #[true, true, true, true, true, true, true, true, true, false, false] (by kernel_rfl) (by kernel_rfl) ((Below.refl _ _).drew) ?_
    intro Q' hQ'
    simp only [pick, List.drop_succ_cons, List.drop_zero, List.head?_cons, Option.toList_some, List.cons_append, List.nil_append]
    (repeat (first | go_big_quiet_skip | (go_big_quiet_want; refine quiet_simple rfl ?_; go_big_quiet_op; go_big_quiet_on) | (go_big_quiet_want; refine quiet_agg3B (ty := 22) rfl rfl (by kernel_rfl) (by assumption) (by assumption) (by assumption) (by first | omega | (simp; omega)) ?_; simp only [Act.put, List.setIfInBounds_toArray, List.set_cons_succ, List.set_cons_zero]; go_big_quiet_on) | (go_big_quiet_want; refine quiet_agg3B (ty := 135) rfl rfl (by kernel_rfl) (by assumption) (by assumption) (by assumption) (by first | omega | (simp; omega)) ?_; simp only [Act.put, List.setIfInBounds_toArray, List.set_cons_succ, List.set_cons_zero]; go_big_quiet_on)))
    (try refine wpQuiet_nil ?_)
    (rw [wpFlt])
    (refine ⟨?_, ?_⟩)
    (go_wp2_with ((go_at_call 77; refine (HMI.out _).mono ?_; rintro _ w4 ⟨rfl, hb4⟩; have hz4 : W3.heap.size ≤ w4.heap.size := (by have := hb4.size; first | exact this | (simp at this; omega)); (try (refine row_k hb4 (fun hrow => ?_); obtain ⟨f0, f1, f2, ff0, ff1, ff2, hlf⟩ := three_cells hrow)))); rw [contF]; refine ⟨?_, ?_⟩; (next => exact BelowA))
    rotate_left
    (simp only [List.cons_append, List.nil_append])
    (rw [wpSteps]; (go_wp2_with (fail); rw [contF]; refine ⟨?_, ?_⟩; (next => exact BelowA)))
    (rw [wpSteps]; (go_wp2_with ((go_at_call 77; refine (HMI.out _).mono ?_; rintro _ w4 ⟨rfl, hb4⟩; have hz4 : W3.heap.size ≤ w4.heap.size := (by have := hb4.size; first | exact this | (simp at this; omega)); (try (refine row_k hb4 (fun hrow => ?_); obtain ⟨f0, f1, f2, ff0, ff1, ff2, hlf⟩ := three_cells hrow)))); rw [contF]; refine ⟨?_, ?_⟩; (next => exact BelowA)))
    (rw [wpSteps]; (go_wp2_with ((go_at_call 78; refine (HD1.out _).mono ?_; rintro _ w5 ⟨rfl, hb5⟩; (first | (refine row_n hb5 (fun hrow => ?_); obtain ⟨f0, f1, f2, ff0, ff1, ff2, hlf⟩ := three_cells hrow) | (have hrow' := (hb5.block _ hlf).trans hrow; clear hrow f0 f1 f2 ff0 ff1 ff2; have hrow := hrow'; obtain ⟨f0, f1, f2, ff0, ff1, ff2, hlf'⟩ := three_cells hrow) | skip))); rw [contF]; refine ⟨?_, ?_⟩; (next => exact BelowA)))
    (rw [wpSteps])
    rotate_right
    (rw [wpFlt])
    (refine ⟨?_, ?_⟩)
    (go_wp2_with ((go_at_call 78; refine (HD1.out _).mono ?_; rintro _ w5 ⟨rfl, hb5⟩; (first | (refine row_n hb5 (fun hrow => ?_); obtain ⟨f0, f1, f2, ff0, ff1, ff2, hlf⟩ := three_cells hrow) | (have hrow' := (hb5.block _ hlf).trans hrow; clear hrow f0 f1 f2 ff0 ff1 ff2; have hrow := hrow'; obtain ⟨f0, f1, f2, ff0, ff1, ff2, hlf'⟩ := three_cells hrow) | skip))); rw [contF]; refine ⟨?_, ?_⟩; (next => exact BelowA))
    rotate_left
    (simp only [List.cons_append, List.nil_append])
    (rw [wpSteps]; (go_wp2_with (fail); rw [contF]; refine ⟨?_, ?_⟩; (next => exact BelowA)))
    (rw [wpSteps]; (go_wp2_with ((go_at_call 78; refine (HD1.out _).mono ?_; rintro _ w5 ⟨rfl, hb5⟩; (first | (refine row_n hb5 (fun hrow => ?_); obtain ⟨f0, f1, f2, ff0, ff1, ff2, hlf⟩ := three_cells hrow) | (have hrow' := (hb5.block _ hlf).trans hrow; clear hrow f0 f1 f2 ff0 ff1 ff2; have hrow := hrow'; obtain ⟨f0, f1, f2, ff0, ff1, ff2, hlf'⟩ := three_cells hrow) | skip))); rw [contF]; refine ⟨?_, ?_⟩; (next => exact BelowA)))
    (rw [wpSteps])
    rotate_right
    (rw [wpFlt, wpSteps]; (go_wp2_with (fail); rw [contF]; refine ⟨?_, ?_⟩; (next => exact BelowA)))
    (rw [wpSteps])
    all_goals (rw [wpMixC]; simp only [pick, List.drop_succ_cons, List.drop_zero, List.head?_cons, Option.toList_some, List.cons_append, List.nil_append])
    all_goals (rw [wpSteps]; (go_wp2_with (fail); rw [contF]; refine ⟨?_, ?_⟩; (next => exact BelowA)))
    all_goals (rw [wpSteps])
    all_goals (rw [wpMixC])
    all_goals (rw [wpMix]; simp only [pick, List.drop_succ_cons, List.drop_zero, List.head?_cons, Option.toList_some, List.cons_append, List.nil_append])
    all_goals (repeat (first | (go_big_quiet_step (fail)) | (quiet_step (fail))))
    all_goals (try refine wpQuiet_nil ?_)
    all_goals (rw [wpMix])
    all_goals (refine hQ' _ _ ?_)
    all_goals first
    | (have hb45 : Below W3.heap.size W3 w5 := by exact BelowA
       obtain ⟨W, hW⟩ : ∃ W, W = w5.alloc (.cells #[.int .i64 vx, .int .i64 vy, .int .i64 vz] 135) := ⟨_, rfl⟩
       have hrow : W.heap[w5.heap.size]? = some (.cells #[.int .i64 vx, .int .i64 vy, .int .i64 vz] 135 (0, 0)) := by rw [hW]; exact heap_alloc_new w5 _
       have hbb : Below W3.heap.size W3 W := by rw [hW]; exact BelowA
       rw [← hW]
       obtain ⟨g, hg⟩ : ∃ g, g = w5.heap.size := ⟨_, rfl⟩
       rw [← hg] at hrow ⊢
       clear hW)
    | (have hb45 : Below W3.heap.size W3 w5 := by exact BelowA
       obtain ⟨W, hW⟩ : ∃ W, W = ((w5.setCell ⟨w4.heap.size, 0, none⟩ (.int .i64 vx)).setCell ⟨w4.heap.size, 1, none⟩ (.int .i64 vy)).setCell ⟨w4.heap.size, 2, none⟩ (.int .i64 vz) := ⟨_, rfl⟩
       have hrow : W.heap[w4.heap.size]? = some (.cells #[.int .i64 vx, .int .i64 vy, .int .i64 vz] 135 (0, 0)) := by rw [hW]; exact heap_setCell_same _ _ 2 _ _ (.int .i64 vz) (heap_setCell_same _ _ 1 _ _ (.int .i64 vy) (heap_setCell_same _ _ 0 _ _ (.int .i64 vx) hrow))
       have hbb : Below W3.heap.size W3 W := by rw [hW]; exact BelowA
       rw [← hW]
       obtain ⟨g, hg⟩ : ∃ g, g = w4.heap.size := ⟨_, rfl⟩
       rw [← hg] at hrow ⊢
       clear hW)
    | (have hb45 : Below W3.heap.size W3 w5 := by exact BelowA
       obtain ⟨W, hW⟩ : ∃ W, W = ((w5.setCell ⟨W3.heap.size, 0, none⟩ (.int .i64 vx)).setCell ⟨W3.heap.size, 1, none⟩ (.int .i64 vy)).setCell ⟨W3.heap.size, 2, none⟩ (.int .i64 vz) := ⟨_, rfl⟩
       have hrow : W.heap[W3.heap.size]? = some (.cells #[.int .i64 vx, .int .i64 vy, .int .i64 vz] 135 (0, 0)) := by rw [hW]; exact heap_setCell_same _ _ 2 _ _ (.int .i64 vz) (heap_setCell_same _ _ 1 _ _ (.int .i64 vy) (heap_setCell_same _ _ 0 _ _ (.int .i64 vx) hrow))
       have hbb : Below W3.heap.size W3 W := by rw [hW]; exact BelowA
       rw [← hW]
       obtain ⟨g, hg⟩ : ∃ g, g = W3.heap.size := ⟨_, rfl⟩
       rw [← hg] at hrow ⊢
       clear hW)
    all_goals
      clear hg
      have x1 := (hbb.block (w1.heap.size + 1) hls).trans X1.out
      clear m0 m1 m2 p0 p1 p2 s0 s1 s2 hls hlp
      obtain ⟨s0, s1, s2, fs0, fs1, fs2, hls⟩ := three_cells x1
      obtain ⟨v0, v1, v2, fv0, fv1, fv2, hlg⟩ := three_cells hrow
      clear x1 fs0 fs1 fs2 fv0 fv1 fv2
      go_wp2_with fail
      have HBB := hid hbb
      have HX : Hid (Below W0.heap.size W0 W) := hid (HB03.out.trans (hbb.mono HB03.out.size))
      refine wp_mixC (fun wc => Below (W.heap.size) W wc) 13 [.q [0, 1, 3, 5, 6, 8, 9], .f [2], .q [4], .f [7, 10], .q [11, 12]] [.q [13]] (by kernel_rfl) (by kernel_rfl) ((Below.refl _ _).drew) ?_
      intro Q' hQ'
      (rw [wpMixC]; simp only [pick, List.drop_succ_cons, List.drop_zero, List.head?_cons, Option.toList_some, List.cons_append, List.nil_append])
      (repeat (first | go_big_quiet_skip | (go_big_quiet_want; refine quiet_simple rfl ?_; go_big_quiet_op; go_big_quiet_on) | (go_big_quiet_want; refine quiet_agg3B (ty := 135) rfl rfl (by kernel_rfl) (by assumption) (by assumption) (by assumption) (by first | omega | (simp; omega)) ?_; simp only [Act.put, List.setIfInBounds_toArray, List.set_cons_succ, List.set_cons_zero]; go_big_quiet_on)))
      (try refine wpQuiet_nil ?_)
      (rw [wpMixC]; simp only [pick, List.drop_succ_cons, List.drop_zero, List.head?_cons, Option.toList_some, List.cons_append, List.nil_append])
      (rw [wpSteps]; go_wp2_with ((first | (go_at_call 78; ((with_reducible refine (HD3.out _).mono ?_); rintro _ w6 ⟨rfl, hb6⟩)) | (go_at_call 78; ((with_reducible refine (HD2.out _).mono ?_); rintro _ w7 ⟨rfl, hb7⟩)))); rw [contF]; refine ⟨?_, ?_⟩; (next => exact BelowA))
      (rw [wpSteps])
      (rw [wpMixC]; simp only [pick, List.drop_succ_cons, List.drop_zero, List.head?_cons, Option.toList_some, List.cons_append, List.nil_append])
      (repeat (first | go_big_quiet_skip | (go_big_quiet_want; refine quiet_simple rfl ?_; go_big_quiet_op; go_big_quiet_on) | (go_big_quiet_want; refine quiet_agg3B (ty := 135) rfl rfl (by kernel_rfl) (by assumption) (by assumption) (by assumption) (by first | omega | (simp; omega)) ?_; simp only [Act.put, List.setIfInBounds_toArray, List.set_cons_succ, List.set_cons_zero]; go_big_quiet_on)))
      (try refine wpQuiet_nil ?_)
      (rw [wpMixC]; simp only [pick, List.drop_succ_cons, List.drop_zero, List.head?_cons, Option.toList_some, List.cons_append, List.nil_append])
      (rw [wpSteps]; go_wp2_with ((first | (go_at_call 78; ((with_reducible refine (HD3.out _).mono ?_); rintro _ w6 ⟨rfl, hb6⟩)) | (go_at_call 78; ((with_reducible refine (HD2.out _).mono ?_); rintro _ w7 ⟨rfl, hb7⟩)))); rw [contF]; refine ⟨?_, ?_⟩; (next => exact BelowA))
      (rw [wpSteps]; go_wp2_with ((first | (go_at_call 78; ((with_reducible refine (HD3.out _).mono ?_); rintro _ w6 ⟨rfl, hb6⟩)) | (go_at_call 78; ((with_reducible refine (HD2.out _).mono ?_); rintro _ w7 ⟨rfl, hb7⟩)))); rw [contF]; refine ⟨?_, ?_⟩; (next => exact BelowA))
      (rw [wpSteps])
      (rw [wpMixC]; simp only [pick, List.drop_succ_cons, List.drop_zero, List.head?_cons, Option.toList_some, List.cons_append, List.nil_append])
      (repeat (first | go_big_quiet_skip | (go_big_quiet_want; refine quiet_simple rfl ?_; go_big_quiet_op; go_big_quiet_on) | (go_big_quiet_want; refine quiet_agg3B (ty := 135) rfl rfl (by kernel_rfl) (by assumption) (by assumption) (by assumption) (by first | omega | (simp; omega)) ?_; simp only [Act.put, List.setIfInBounds_toArray, List.set_cons_succ, List.set_cons_zero]; go_big_quiet_on)))
      (try refine wpQuiet_nil ?_)
      (rw [wpMixC])
      (rw [wpMix]; simp only [pick, List.drop_succ_cons, List.drop_zero, List.head?_cons, Option.toList_some, List.cons_append, List.nil_append])
      (repeat (first | (go_big_quiet_step (fail)) | (quiet_step (fail))))
      (try refine wpQuiet_nil ?_)
      (rw [wpMix])
      (refine hQ' _ _ ?_)
      by_cases hN : RN ≤ 1000000000
      · have HN := hid hN
        have hN2 : ¬ 1000000000 < RN := by omega
        go_wp2_with (go_at_call 79; refine (HDV.out _).mono ?_; rintro _ w8 ⟨rfl, hb8⟩)
        have hb8' : Below W.heap.size W w8 := by exact BelowA
        have hbe : Below W0.heap.size W0 w8 := HX.out.trans (hb8'.mono HX.out.size)
        have hbE : Below w.heap.size w w8 := hbW0.trans (hbe.mono (by omega))
        have y3 := (hbe.block (w.heap.size + 1 + 1 + 1) (by omega)).trans Q3.out
        obtain ⟨g0, g1, fg0, fg1, hgl⟩ := two_cells y3
        clear y3 hb8' hbe hb6 hb7 hb8
        refine wp_mixC (fun wc => Below ((w.heap.size)) w8 wc) 7 [.q [0, 1, 2, 3, 4, 5, 6]] [.f [7], .q [8]] (by kernel_rfl) (by kernel_rfl) ((Below.refl _ _).drew) ?_
        intro Q' hQ'
        (rw [wpMixC]; simp only [pick, List.drop_succ_cons, List.drop_zero, List.head?_cons, Option.toList_some, List.cons_append, List.nil_append])
        (repeat (first | go_big_quiet_skip | (go_big_quiet_want; refine quiet_simple rfl ?_; go_big_quiet_op; go_big_quiet_on)))
        (try refine wpQuiet_nil ?_)
        (rw [wpMixC])
        (rw [wpMix]; simp only [pick, List.drop_succ_cons, List.drop_zero, List.head?_cons, Option.toList_some, List.cons_append, List.nil_append])
        (go_wp2_with ((first | fail)); rw [contF])
        (rw [wpMix]; simp only [pick, List.drop_succ_cons, List.drop_zero, List.head?_cons, Option.toList_some, List.cons_append, List.nil_append])
        (repeat (first | (go_big_quiet_step (fail)) | (quiet_step (fail))))
        (try refine wpQuiet_nil ?_)
        (rw [wpMix])
        (refine hQ' _ _ ?_)
        go_wp2_with fail
        ((try simp only [Exit.inBlock, Exit.then]); refine bodyPost_ret (v := .tuple #[.agg #[.int .i64 RN, .int .i64 RD], .int .i64 0]) ?_ rfl ?_; (next => simp [results, Try.results17, go_sem, hgl, g0, g1]))
        refine ⟨?_, ?_, ?_, by exact BelowA⟩
        all_goals (intros; first | rfl | (exfalso; have hx := H1.out; have hy := HN.out; omega))
      · have HN := hid hN
        have hN2 : 1000000000 < RN := by omega
        go_wp2_with (go_at_call 79; refine (HDV.out _).mono ?_; rintro _ w8 ⟨rfl, hb8⟩; have hb8' : Below W.heap.size W w8 := (by exact BelowA); have hbe : Below W0.heap.size W0 w8 := HX.out.trans (hb8'.mono HX.out.size); have hbE : Below w.heap.size w w8 := hbW0.trans (hbe.mono (by omega)); have y3 := (hbe.block (w.heap.size + 1 + 1 + 1) (by omega)).trans Q3.out; obtain ⟨g0, g1, fg0, fg1, hgl⟩ := two_cells y3; clear y3 hb8' hbe hb6 hb7 hb8)
        ((try simp only [Exit.inBlock, Exit.then]); refine bodyPost_ret (v := .tuple #[.agg #[.int .i64 0, .int .i64 0], .int .i64 8]) ?_ rfl ?_; (next => simp [results, Try.results17, go_sem, hgl, g0, g1]))
        refine ⟨?_, ?_, ?_, by exact BelowA⟩
        all_goals (intros; first | rfl | (exfalso; have hx := H1.out; have hy := HN.out; omega))
  · have hne : (firstNZ [m.both s, plE p] != 0) = true := by simpa using h1
    have HN := hid h1
    clear h1
    generalize firstNZ [m.both s, plE p] = E1 at HFI HN hne ⊢
    generalize m.both s = EB at HO HFI
    generalize plE p = EM at HM HFI
    generalize rN (m.num s p) (s.dot s) = RN
    generalize rD (m.num s p) (s.dot s) = RD
    obtain ⟨px, py, pz, tm, tk, lo, hi, li, ea, la, no, mi⟩ := m
    obtain ⟨sx, sy, sz⟩ := s
    obtain ⟨qx, qy, qz⟩ := p
    unfold TMod.v V3.v at *
    simp only at *
    obtain ⟨W0, hW0⟩ : ∃ W0, W0 = (((w.alloc (.cells #[.int .i64 px, .int .i64 py, .int .i64 pz, .int .i64 tm, .int .i64 tk, .int .i64 lo, .int .i64 hi, .int .i64 li, .int .i64 ea, .int .i64 la, .int .i64 no, .int .i64 mi] 26)).alloc (.cells #[.int .i64 sx, .int .i64 sy, .int .i64 sz] 22)).alloc (.cells #[.int .i64 qx, .int .i64 qy, .int .i64 qz] 22)).alloc (.cells #[.int .i64 0, .int .i64 0] 37) := ⟨_, rfl⟩
    have hbW0 : Below w.heap.size w W0 := by rw [hW0]; exact BelowA
    obtain ⟨hz0, q0, q1, q2, q3⟩ := al4 w _ _ _ _ _ _ _ _ W0 hW0
    have Q2 := hid q2
    have Q3 := hid q3
    clear q0 q1 q2 q3
    go_enter Try.func17, Try.ntmps17
    go_wp2_with (first | (go_at_call 73; rw [← hW0]; refine (HO.out _).mono ?_; rintro _ w1 ⟨rfl, hb1⟩; have hz1 := hb1.size; obtain ⟨c0, c1, c2, fc0, fc1, fc2, hl2⟩ := three_cells ((hb1.block (w.heap.size + 1 + 1) (by omega)).trans Q2.out); have hl2' : w.heap.size + 1 + 1 < w1.heap.size + 1 := Nat.lt_succ_of_lt hl2) | (go_at_call 70; obtain ⟨WB, hWB⟩ : ∃ WB, WB = (w1.alloc (.cells #[.int .i64 px, .int .i64 py, .int .i64 pz, .int .i64 tm, .int .i64 tk, .int .i64 lo, .int .i64 hi, .int .i64 li, .int .i64 ea, .int .i64 la, .int .i64 no, .int .i64 mi] 134)).alloc (.cells #[.int .i64 sx, .int .i64 sy, .int .i64 sz] 135) := ⟨_, rfl⟩; rw [← hWB]; have hbWB : Below w1.heap.size w1 WB := (by rw [hWB]; exact BelowA); obtain ⟨r0, r1, hr0, hr1⟩ := al2 w1 _ _ _ _ WB hWB; clear hWB; refine (HM.out _).mono ?_; rintro _ w2 ⟨rfl, hb2⟩; have hb12 : Below W0.heap.size W0 w2 := (hb1.trans (hbWB.mono hz1)).trans (hb2.mono (Nat.le_trans hz1 hbWB.size)); have HB12 := hid hb12; have R0 := hid ((hb2.block w1.heap.size hr0).trans r0); have R1 := hid ((hb2.block (w1.heap.size + 1) hr1).trans r1); have hml : w1.heap.size + 1 < w2.heap.size := Nat.lt_of_lt_of_le hr1 hb2.size; clear r0 r1 c0 c1 c2 fc0 fc1 fc2 hl2 hl2'; have hbf : Below w.heap.size w w2 := hbW0.trans (hb12.mono (by have := hbW0.size; omega)); obtain ⟨g0, g1, fg0, fg1, hgl⟩ := two_cells ((hb12.block (w.heap.size + 1 + 1 + 1) (by omega)).trans Q3.out)) | (go_at_call 69; refine (HFI.out _ _ (intsAt_new _ _ _ _ _ rfl (by simp) (by first | rfl | simp))).mono ?_; rintro _ _ ⟨rfl, rfl⟩))
    ((try simp only [Exit.inBlock, Exit.then]); refine bodyPost_ret (v := .tuple #[.agg #[.int .i64 0, .int .i64 0], .int .i64 E1]) ?_ rfl ?_; (next => simp [results, Try.results17, go_sem, hgl, g0, g1]))
    exact ⟨fun h => absurd h HN.out, fun h => absurd h HN.out, fun _ => rfl, by exact BelowA⟩
end Go.Proofs.Ytlmdmpjfehpjeaa
set_option linter.unusedVariables false
set_option linter.unusedSimpArgs false
namespace Go.Proofs.Ytlmdmpjfehpjeaa
open Go.RowKit
def exM : TMod := ⟨0, 0, 0, 0, 1, 25, 50, 9, 0, 0, 1, 2⟩
def exS : V3 := ⟨5, 0, 0⟩
def exB : TBox := ⟨⟨5, 0, 0⟩, ⟨5, 0, 0⟩⟩
def exH : List THit := [⟨⟨0, 12, 0⟩, 4, 1⟩, ⟨⟨5, 0, 0⟩, 0, 3⟩]
theorem ex_both : exM.both exS = 0 := by decide
theorem ex_ok : exM.Ok ∧ exS.inS 20 = true ∧ exM.permit exS ∧ exM.slow < exS.dot exS := both_ok ex_both
theorem ex_first : exM.first exS ⟨0, 12, 0⟩ = 4 := by
 have h := reached_iff exM exS ⟨0, 12, 0⟩ ex_ok.1.slp ex_ok.2.2.2 (n := 4) (by decide) (by decide)
 exact first_of exM exS ⟨0, 12, 0⟩ h (by decide) (by decide)
theorem ex_near : rN (exM.num exS ⟨7, 12, 0⟩) (exS.dot exS) = 144 ∧ rD (exM.num exS ⟨7, 12, 0⟩) (exS.dot exS) = 1 := by
 have e1 : exM.num exS ⟨7, 12, 0⟩ = 3600 := by decide
 have e2 : exS.dot exS = 25 := by decide
 rw [e1, e2]; exact ⟨by decide, by decide⟩
theorem ex_score : exM.score exS exH = 6 := by decide
theorem ex_hits : hitsE exH = 0 := by decide
theorem ex_in : exM.inE exB exH = 0 := by decide
theorem ex_scores : (exM.scores exB exH).lo = 6 ∧ (exM.scores exB exH).hi = 6 := ⟨by decide, by decide⟩
set_option maxRecDepth 100000 in
set_option maxHeartbeats 4000000 in
theorem law_Model (w : World) : Calls Try.prog 66 #[] w fun e w' => e = .returned exM.v ∧ Below w.heap.size w w' := by
 have HV : Hid (exM.v = .agg #[.int .i64 0, .int .i64 0, .int .i64 0, .int .i64 0, .int .i64 1, .int .i64 25, .int .i64 50, .int .i64 9, .int .i64 0, .int .i64 0, .int .i64 1, .int .i64 2]) := hid rfl
 generalize exM.v = V at HV ⊢
 go_enter Try.func66, Try.ntmps66
 go_wp2_with fail
 ((try simp only [Exit.inBlock, Exit.then]); refine bodyPost_ret (v := .agg #[.int .i64 0, .int .i64 0, .int .i64 0, .int .i64 0, .int .i64 1, .int .i64 25, .int .i64 50, .int .i64 9, .int .i64 0, .int .i64 0, .int .i64 1, .int .i64 2]) ?_ rfl ?_; (next => simp [results, Try.results66, go_sem]))
 exact ⟨by rw [HV.out], by exact BelowA⟩
theorem hits_new (w : World) (t : TypeId) : HitsAt (w.alloc (.cells #[.int .i64 0, .int .i64 12, .int .i64 0, .int .i64 4, .int .i64 1, .int .i64 5, .int .i64 0, .int .i64 0, .int .i64 0, .int .i64 3] t)) (.slice (some ⟨w.heap.size, 0, none⟩) 2 2) exH := by
 have q := heap_alloc_new w (.cells #[.int .i64 0, .int .i64 12, .int .i64 0, .int .i64 4, .int .i64 1, .int .i64 5, .int .i64 0, .int .i64 0, .int .i64 0, .int .i64 3] t)
 refine ⟨_, _, rfl, Nat.le_refl _, by simp [maxLen], fun _ => ⟨w.heap.size, 0, rfl, by simp, fun i j hi hj => ?_⟩, fun h => by cases h⟩
 rw [cell_of_row _ _ _ _ _ (0, 0) q]
 have hi2 : i < 2 := hi
 rcases (by omega : i = 0 ∨ i = 1) with rfl | rfl
 all_goals rcases (by omega : j = 0 ∨ j = 1 ∨ j = 2 ∨ j = 3 ∨ j = 4) with rfl | rfl | rfl | rfl | rfl
 all_goals rfl
set_option maxRecDepth 100000 in
set_option maxHeartbeats 4000000 in
theorem law_Hits (w : World) : Calls Try.prog 67 #[] w fun e w' => ∃ ao cap, e = .returned (.slice ao 2 cap) ∧ HitsAt w' (.slice ao 2 cap) exH ∧ Below w.heap.size w w' := by
 have HV := hid (hits_new w 92)
 generalize exH = L at HV ⊢
 go_enter Try.func67, Try.ntmps67
 go_wp2_with fail
 ((try simp only [Exit.inBlock, Exit.then]); refine bodyPost_ret (v := .slice (some ⟨w.heap.size, 0, none⟩) 2 2) ?_ rfl ?_; (next => simp [results, Try.results67, go_sem]))
 exact ⟨_, _, rfl, HV.out, by exact BelowA⟩
set_option maxRecDepth 100000 in
set_option maxHeartbeats 8000000 in
theorem law_awake5 (w : World) : Calls Try.prog 13 #[] w fun e w' => e = .returned (.bool true) ∧ Below w.heap.size w w' := by
 have e0 : firstNZ [exM.both exS, plE ⟨0, 12, 0⟩] = 0 := by decide
 have e1 : firstNZ [exM.both exS, plE ⟨7, 12, 0⟩] = 0 := by decide
 have e2 : firstNZ [exM.both exS, hitsE exH] = 0 := by rw [ex_both, ex_hits]; rfl
 have HM := hid law_Model
 have HH := hid law_Hits
 have HF : Hid (∀ W, Calls Try.prog 16 #[exM.v, .agg #[.int .i64 5, .int .i64 0, .int .i64 0], .agg #[.int .i64 0, .int .i64 12, .int .i64 0]] W fun e w' => e = .returned (.tuple #[.int .i64 4, .int .i64 0]) ∧ Below W.heap.size W w') := hid (fun W => by
  refine (track_FirstAt exM exS ⟨0, 12, 0⟩ W).mono ?_
  rintro e w' ⟨h1, _, _, h4⟩
  rw [ex_first] at h1
  exact ⟨h1 e0 (by decide), h4⟩)
 have HN : Hid (∀ W, Calls Try.prog 17 #[exM.v, .agg #[.int .i64 5, .int .i64 0, .int .i64 0], .agg #[.int .i64 7, .int .i64 12, .int .i64 0]] W fun e w' => e = .returned (.tuple #[.agg #[.int .i64 144, .int .i64 1], .int .i64 0]) ∧ Below W.heap.size W w') := hid (fun W => by
  refine (track_NearestTo exM exS ⟨7, 12, 0⟩ W).mono ?_
  rintro e w' ⟨h1, _, _, h4⟩
  rw [ex_near.1, ex_near.2] at h1
  exact ⟨h1 e1 (by decide), h4⟩)
 have HS : Hid (∀ v W, HitsAt W v exH → Calls Try.prog 32 #[exM.v, .agg #[.int .i64 5, .int .i64 0, .int .i64 0], v] W fun e w' => e = .returned (.tuple #[.int .i64 6, .int .i64 0]) ∧ Below W.heap.size W w') := hid (fun v W h => by
  refine (track_ScoreOf exM exS exH v W h).mono ?_
  rintro e w' ⟨h1, _, h4⟩
  rw [ex_score] at h1
  exact ⟨h1 e2, h4⟩)
 have HI : Hid (∀ v W, HitsAt W v exH → Calls Try.prog 38 #[exM.v, .agg #[.int .i64 5, .int .i64 0, .int .i64 0, .int .i64 5, .int .i64 0, .int .i64 0], v] W fun e w' => e = .returned (.tuple #[.agg #[.int .i64 6, .int .i64 6], .int .i64 0]) ∧ Below W.heap.size W w') := hid (fun v W h => by
  refine (track_ScoresIn exM exB exH v W h (by decide) (by decide)).mono ?_
  rintro e w' ⟨h1, _, h4⟩
  have h5 := h1 ex_in
  unfold Rg.v at h5
  rw [ex_scores.1, ex_scores.2] at h5
  exact ⟨h5, h4⟩)
 have hVM : Hid (exM.v = .agg #[.int .i64 0, .int .i64 0, .int .i64 0, .int .i64 0, .int .i64 1, .int .i64 25, .int .i64 50, .int .i64 9, .int .i64 0, .int .i64 0, .int .i64 1, .int .i64 2]) := hid rfl
 rw [hVM.out] at HF HN HS HI
 have HM' : Hid (∀ W, Calls Try.prog 66 #[] W fun e w' => e = .returned (.agg #[.int .i64 0, .int .i64 0, .int .i64 0, .int .i64 0, .int .i64 1, .int .i64 25, .int .i64 50, .int .i64 9, .int .i64 0, .int .i64 0, .int .i64 1, .int .i64 2]) ∧ Below W.heap.size W w') := hid (by rw [← hVM.out]; exact law_Model)
 generalize exH = L at HH HS HI
 clear e0 e1 e2 HM hVM
 go_enter Try.func13, Try.ntmps13
 go_wp2_with fail
 refine (HM'.out _).mono ?_
 rintro _ w1 ⟨rfl, hb1⟩
 go_wp2_with fail
 refine (HF.out _).mono ?_
 rintro _ w2 ⟨rfl, hb2⟩
 go_wp2_with fail
 refine (HM'.out _).mono ?_
 rintro _ w3 ⟨rfl, hb3⟩
 go_wp2_with fail
 refine (HN.out _).mono ?_
 rintro _ w4 ⟨rfl, hb4⟩
 obtain ⟨X, hX⟩ : ∃ X, X = w4.alloc (.cells #[.int .i64 144, .int .i64 1] 37) := ⟨_, rfl⟩
 have hb04 : Below w.heap.size w w4 := by exact BelowA
 have hbX : Below w4.heap.size w4 X := by rw [hX]; exact BelowA
 have RX := hid (show X.heap[w4.heap.size]? = some (.cells #[.int .i64 144, .int .i64 1] 37 (0, 0)) by rw [hX]; exact heap_alloc_new w4 _)
 have hlX := (Array.getElem?_eq_some_iff.1 RX.out).1
 have HB0X := hid (hb04.trans (hbX.mono hb04.size))
 clear hb1 hb2 hb3 hb4 hb04
 go_wp2_with fail
 rw [← hX]
 clear hX
 refine (HM'.out _).mono ?_
 rintro _ w5 ⟨rfl, hb5⟩
 go_wp2_with fail
 refine (HH.out _).mono ?_
 rintro _ w6 ⟨ao, cap, rfl, hv, hb6⟩
 have HV := hid hv
 clear hv
 go_wp2_with fail
 refine (HS.out _ _ HV.out).mono ?_
 rintro _ w7 ⟨rfl, hb7⟩
 go_wp2_with fail
 refine (HM'.out _).mono ?_
 rintro _ w8 ⟨rfl, hb8⟩
 go_wp2_with fail
 refine (HH.out _).mono ?_
 rintro _ w9 ⟨ao2, cap2, rfl, hv, hb9⟩
 have HV2 := hid hv
 clear hv
 go_wp2_with fail
 refine (HI.out _ _ HV2.out).mono ?_
 rintro _ w10 ⟨rfl, hb10⟩
 have hbXe : Below X.heap.size X w10 := by exact BelowA
 have hbe : Below w.heap.size w w10 := HB0X.out.trans (hbXe.mono HB0X.out.size)
 obtain ⟨c0, c1, fc0, fc1, hlc⟩ := two_cells ((hbXe.block w4.heap.size hlX).trans RX.out)
 clear hb5 hb6 hb7 hb8 hb9 hb10 hbXe hbX
 go_wp2_with fail
 go_ret
 exact ⟨rfl, by exact BelowA⟩
end Go.Proofs.Ytlmdmpjfehpjeaa
set_option linter.unusedVariables false
set_option linter.unusedSimpArgs false
namespace Go.Proofs.Ytlmdmpjfehpjeaa
open Go.RowKit Ev
theorem fn3 {a b c : Int} (h : firstNZ [a, b, c] = 0) : a = 0 ∧ b = 0 ∧ c = 0 := by
 simp only [firstNZ] at h
 by_cases h1 : a = 0 <;> by_cases h2 : b = 0 <;> by_cases h3 : c = 0 <;> simp_all
theorem fn2 {a b : Int} (h : firstNZ [a, b] = 0) : a = 0 ∧ b = 0 := by
 simp only [firstNZ] at h
 by_cases h1 : a = 0 <;> by_cases h2 : b = 0 <;> simp_all
theorem unl_0 {b : Bool} {n : Int} (h : n ≠ 0) : unl b n = 0 ↔ b = true := by cases b <;> simp [unl, h]
theorem box_in {b : TBox} (h : b.err = 0) : b.lo.inS 20 = true ∧ b.hi.inS 20 = true := by
 unfold TBox.err at h
 obtain ⟨h1, _⟩ := fn3 h
 rw [unl_0 (by decide)] at h1
 simpa using h1
def con_law05_awake : Con := fun args => match args with
 | [] => some (.t (.c (.v (.bool true))), none, false)
 | _ => none
theorem ok_law05_awake : Ok Try.prog 13 con_law05_awake := by
 refine Ok.oldG (Enters.of (fn := Try.f13) (by kernel_rfl) (by kernel_rfl) (by kernel_rfl)) fun args r pre fresh h hp => ?_
 unfold con_law05_awake at h
 split at h
 ·cases h
  refine ⟨rfl, _, rfl, fun W N vs hv => ?_⟩
  have ev := hv.nil_inv
  subst ev
  exact law_awake5 W
 ·cases h
def S27 : Sum := addS S26 13 con_law05_awake
theorem VS27 : Valid Try.prog S27 := Valid.add VS26 ok_law05_awake
def con_track_model_scores : Con := fun args => match args with
 | [.t (.a [.v (.int .i64 m0), .v (.int .i64 m1), .v (.int .i64 m2), .v (.int .i64 m3), .v (.int .i64 m4), .v (.int .i64 m5), .v (.int .i64 m6), .v (.int .i64 m7), .v (.int .i64 m8), .v (.int .i64 m9), .v (.int .i64 m10), .v (.int .i64 m11)]), .t (.a [.v (.int .i64 b0), .v (.int .i64 b1), .v (.int .i64 b2), .v (.int .i64 b3), .v (.int .i64 b4), .v (.int .i64 b5)]), .t (.c (.sl 5 n_l c_l))] => some (.t (.a [.v (.int .i64 ((((⟨m0, m1, m2, m3, m4, m5, m6, m7, m8, m9, m10, m11⟩ : TMod)).scores (⟨⟨b0, b1, b2⟩, ⟨b3, b4, b5⟩⟩ : TBox) (listC n_l mkHit c_l)).lo)), .v (.int .i64 ((((⟨m0, m1, m2, m3, m4, m5, m6, m7, m8, m9, m10, m11⟩ : TMod)).scores (⟨⟨b0, b1, b2⟩, ⟨b3, b4, b5⟩⟩ : TBox) (listC n_l mkHit c_l)).hi))]), some (numsP 5 n_l c_l ∧ ((⟨m0, m1, m2, m3, m4, m5, m6, m7, m8, m9, m10, m11⟩ : TMod)).Ok ∧ ((⟨⟨b0, b1, b2⟩, ⟨b3, b4, b5⟩⟩ : TBox)).lo.inS 20 = true ∧ ((⟨⟨b0, b1, b2⟩, ⟨b3, b4, b5⟩⟩ : TBox)).hi.inS 20 = true ∧ ((⟨m0, m1, m2, m3, m4, m5, m6, m7, m8, m9, m10, m11⟩ : TMod)).canBe (⟨⟨b0, b1, b2⟩, ⟨b3, b4, b5⟩⟩ : TBox) ∧ ((listC n_l mkHit c_l)).length ≤ 12 ∧ ∀ i, i < ((listC n_l mkHit c_l)).length → (hitAt (listC n_l mkHit c_l) i).Ok), false)
 | _ => none
theorem ok_track_model_scores : Ok Try.prog 96 con_track_model_scores := by
 refine Ok.oldG (Enters.of (fn := Try.f96) (by kernel_rfl) (by kernel_rfl) (by kernel_rfl)) fun args r pre fresh h hp => ?_
 unfold con_track_model_scores at h
 split at h
 ·rename_i m0 m1 m2 m3 m4 m5 m6 m7 m8 m9 m10 m11 b0 b1 b2 b3 b4 b5 n_l c_l
  cases h
  refine ⟨rfl, _, rfl, fun W N vs hv => ?_⟩
  obtain ⟨hp0, hp⟩ := hp
  obtain ⟨u0, ws0, k0, g0, hv0⟩ := hv.cons_inv
  subst k0
  have e0 := plain_arg rfl g0
  subst e0
  obtain ⟨u1, ws1, k1, g1, hv1⟩ := hv0.cons_inv
  subst k1
  have e1 := plain_arg rfl g1
  subst e1
  obtain ⟨v_l, ws2, k2, g2, hv2⟩ := hv1.cons_inv
  subst k2
  have h_l := at_THit hp0 g2
  have ev := hv2.nil_inv
  subst ev
  generalize listC n_l mkHit c_l = l at *
  exact track_scores (⟨m0, m1, m2, m3, m4, m5, m6, m7, m8, m9, m10, m11⟩ : TMod) (⟨⟨b0, b1, b2⟩, ⟨b3, b4, b5⟩⟩ : TBox) l v_l W h_l hp.2.2.2.2.1 hp.2.2.2.2.2 hp.1 hp.2.1 hp.2.2.1 hp.2.2.2.1
 ·cases h
def S28 : Sum := addS S27 96 con_track_model_scores
theorem VS28 : Valid Try.prog S28 := Valid.add VS27 ok_track_model_scores
def S29 : Sum := S28
theorem VS29 : Valid Try.prog S29 := VS28
end Go.Proofs.Ytlmdmpjfehpjeaa
set_option linter.unusedVariables false
set_option linter.unusedSimpArgs false
namespace Go.Proofs.Ytlmdmpjfehpjeaa
open Go.RowKit Ev
theorem numsP_hits (l : List THit) : numsP 5 l.length (hitsC l) := by
 intro i j hi hj
 rcases (by omega : j = 0 ∨ j = 1 ∨ j = 2 ∨ j = 3 ∨ j = 4) with rfl | rfl | rfl | rfl | rfl <;> rfl
theorem hits_listC (l : List THit) : listC l.length mkHit (hitsC l) = l := listC_id THit.zero fun i hi => rfl
theorem le_sl {sz n : Nat} {c c' : Nat → Nat → CV} (h : ∀ i j, i < n → j < sz → c i j = c' i j) : LeD (.t (.c (.sl sz n c))) (.t (.c (.sl sz n c'))) := fun w N v g => RelF.sl g h
def S30 : Sum := S29
theorem VS30 : Valid Try.prog S30 := VS29
def vc_ref05_Copy (l : List THit) (post : DV → Prop) : Prop := (roomP 40 (([] : List (List CV)).length + ((List.range l.length).map fun i => fwd ((hitsC l) i) 0 5).length)) ∧ (post (.t (.c (.sl 5 ((([] : List (List CV)) ++ ((List.range l.length).map fun i => fwd ((hitsC l) i) 0 5)).length) (genC (([] : List (List CV)) ++ ((List.range l.length).map fun i => fwd ((hitsC l) i) 0 5)))))))
def ann_ref05_Copy : Ann := ⟨fun _ => none, fun _ => none, fun _ => [], noIt, false, fun _ => none, fun _ => none⟩
theorem ev_ref05_Copy (J : Inv) (l : List THit) (post : DV → Prop) : evFn Try.prog tab S30 ann_ref05_Copy J Try.f30 [.t (.c (.sl 5 l.length (hitsC l)))] post = vc_ref05_Copy l post := by kernel_rfl
theorem fit_ref05_Copy : okFn ann_ref05_Copy Try.f30 = true := by kernel_rfl
theorem lp_ref05_Copy (J : Inv) (post : DV → Prop) : AllG J (loopsFn Try.prog tab S30 ann_ref05_Copy J Try.f30 post) = (True) := by kernel_rfl
theorem spec_ref05_Copy (l : List THit) (hp : (l).length ≤ 1000000) : vc_ref05_Copy l (fun r => LeD r (.t (.c (.sl 5 l.length (hitsC l))))) := by
 unfold vc_ref05_Copy
 have e : (([] : List (List CV)) ++ ((List.range l.length).map fun i => fwd ((hitsC l) i) 0 5)).length = l.length := by simp
 refine ⟨?_, ?_⟩
 ·unfold roomP maxLen; simp; omega
 ·rw [e]
  refine le_sl fun i j hi hj => ?_
  unfold genC
  simp only [List.nil_append, List.getD_eq_getElem?_getD, List.getElem?_map, List.getElem?_range hi, Option.map_some, Option.getD_some]
  rcases (by omega : j = 0 ∨ j = 1 ∨ j = 2 ∨ j = 3 ∨ j = 4) with rfl | rfl | rfl | rfl | rfl <;> rfl
def con_ref05_Copy : Con := fun args => match args with
 | [.t (.c (.sl 5 n_l c_l))] => some (.t (.c (.sl 5 ((listC n_l mkHit c_l).length) (hitsC (listC n_l mkHit c_l)))), some (numsP 5 n_l c_l ∧ ((listC n_l mkHit c_l)).length ≤ 1000000), false)
 | _ => none
theorem ok_ref05_Copy : Ok Try.prog 30 con_ref05_Copy := by
 refine Ok.fn (ann := ann_ref05_Copy) mixed tabOK VS30 ValidIt.no (fn := Try.f30) (by kernel_rfl) (by kernel_rfl) fit_ref05_Copy fun args r pre fresh h hp => ?_
 unfold con_ref05_Copy at h
 split at h
 ·rename_i n_l c_l
  cases h
  obtain ⟨hp0, hp⟩ := hp
  refine ⟨rfl, fun _ _ _ => False, [.t (.c (.sl 5 ((listC n_l mkHit c_l).length) (hitsC (listC n_l mkHit c_l))))], ?_, Nat.le_of_ble_eq_true (by kernel_rfl), ?_, ?_⟩
  ·exact (LeA_cons (leT_c ((leL_THit hp0))) LeA_nil)
  ·rw [ev_ref05_Copy]; exact spec_ref05_Copy (listC n_l mkHit c_l) hp
  ·rw [lp_ref05_Copy]; trivial
 ·cases h
def S31 : Sum := addS S30 30 con_ref05_Copy
theorem VS31 : Valid Try.prog S31 := Valid.add VS30 ok_ref05_Copy
def mk_ref05_Scores_0 (m0 m1 m2 m3 m4 m5 m6 m7 m8 m9 m10 m11 : Int) (b0 b1 b2 b3 b4 b5 : Int) (l : List THit) (v0_0 : Int) (v0_1 : Int) (v0_2 : Int) : DS := ⟨[none, none, some (.t (.c (.sl 5 l.length (hitsC l)))), some (.t (.c (.p 3 0))), some (.t (.c (.p 4 0))), none, some (.t (.c (.p 6 0))), some (.t (.c (.p 7 0))), some (.t (.c (.v (.int .i64 v0_2)))), none, none, none, none, none, none, none, none, none, none, none, none, none, none, none, none, none, none, none, none, none, none, none, none, none, none, none, none, none, none, none, none, none, none, none, none, none, none, none, none, none, none, none, none, none, none, none, none, none, none, none, none, none, none, none, none, none, none, none, none, none, none, none, none, none, none, none, none, none, none, none, none, none, none, none, none, none, none, none, none, none, none, none, none, none, none, none, none, none, none, none, none, none, none, none, none, none, none, none, none, none, none, none, none], [none, none, none, some (.box 26 [.v (.int .i64 m0), .v (.int .i64 m1), .v (.int .i64 m2), .v (.int .i64 m3), .v (.int .i64 m4), .v (.int .i64 m5), .v (.int .i64 m6), .v (.int .i64 m7), .v (.int .i64 m8), .v (.int .i64 m9), .v (.int .i64 m10), .v (.int .i64 m11)]), some (.box 75 [.v (.int .i64 b0), .v (.int .i64 b1), .v (.int .i64 b2), .v (.int .i64 b3), .v (.int .i64 b4), .v (.int .i64 b5)]), none, some (.box 24 [.v (.int .i64 0), .v (.int .i64 0)]), some (.box 24 [.v (.int .i64 v0_0), .v (.int .i64 v0_1)]), none, none, none, none, none, none, none, none, none, none, none, none, none, none, none, none, none, none, none, none, none, none, none, none, none, none, none, none, none, none, none, none, none, none, none, none, none, none, none, none, none, none, none, none, none, none, none, none, none, none, none, none, none, none, none, none, none, none, none, none, none, none, none, none, none, none, none, none, none, none, none, none, none, none, none, none, none, none, none, none, none, none, none, none, none, none, none, none, none, none, none, none, none, none, none, none, none, none, none, none, none, none, none, none, none]⟩
def vc_ref05_Scores (J : Inv) (m0 m1 m2 m3 m4 m5 m6 m7 m8 m9 m10 m11 : Int) (b0 b1 b2 b3 b4 b5 : Int) (l : List THit) (post : DV → Prop) : Prop := ∃ n, J 0 (n :: []) (mk_ref05_Scores_0 m0 m1 m2 m3 m4 m5 m6 m7 m8 m9 m10 m11 b0 b1 b2 b3 b4 b5 l 0 0 0)
def ann_ref05_Scores : Ann := ⟨fun r => lookA r [(5, ([[], [], [], [], [2, 3], [2, 3, 4], [2, 3, 4, 5], [], [], [7, 8], [7, 8, 9], [7, 8, 9, 10], [], [12], [7, 8, 9, 10, 11, 12, 13], [0, 1, 2, 3, 4, 5, 6, 7, 8, 9, 10, 11, 12, 13, 14], [], [], [], [], [18, 19], [18, 19, 20], [18, 19, 20, 21], [], [], [23, 24], [23, 24, 25], [23, 24, 25, 26], [], [28], [23, 24, 25, 26, 27, 28, 29], [23, 24, 25, 26, 27, 28, 29, 30], [0, 1, 2, 3, 4, 5, 6, 7, 8, 9, 10, 11, 12, 13, 14, 15, 16, 17, 18, 19, 20, 21, 22, 23, 24, 25, 26, 27, 28, 29, 30, 31], [0, 1, 2, 3, 4, 5, 6, 7, 8, 9, 10, 11, 12, 13, 14, 15, 16, 17, 18, 19, 20, 21, 22, 23, 24, 25, 26, 27, 28, 29, 30, 31, 32], [0, 1, 2, 3, 4, 5, 6, 7, 8, 9, 10, 11, 12, 13, 14, 15, 16, 17, 18, 19, 20, 21, 22, 23, 24, 25, 26, 27, 28, 29, 30, 31, 32, 33]], [[35, 52], [35, 52], [35, 52], [35, 52], [35, 52], [35, 52], [35, 52], [35, 52], [35, 52], [35, 52], [35, 52], [35, 52], [35, 52], [35, 52], [35, 52], [52], [35, 52], [35, 52], [35, 52], [35, 52], [35, 52], [35, 52], [35, 52], [35, 52], [35, 52], [35, 52], [35, 52], [35, 52], [35, 52], [35, 52], [35, 52], [35, 52], [], [], []])), (6, ([[], [], [0, 1], [0, 1, 2], [0, 1, 2, 3], [], [5], [0, 1, 2, 3, 4, 5, 6], [], [], [8, 9], [8, 9, 10], [8, 9, 10, 11], [], [13], [8, 9, 10, 11, 12, 13, 14], [0, 1, 2, 3, 4, 5, 6, 7], [0, 1, 2, 3, 4, 5, 6, 7, 8, 9, 10, 11, 12, 13, 14, 15, 16]], [[], [], [], [], [], [], [], [], [], [], [], [], [], [], [], [], [], []]))], fun b => lookA b [(0, (none, some ⟨[2, 3, 4, 6, 7, 8], [3, 4, 6, 7], []⟩))], fun _ => [], noIt, false, fun _ => none, fun _ => none⟩
theorem ev_ref05_Scores (J : Inv) (m0 m1 m2 m3 m4 m5 m6 m7 m8 m9 m10 m11 : Int) (b0 b1 b2 b3 b4 b5 : Int) (l : List THit) (post : DV → Prop) : evFn Try.prog tab S31 ann_ref05_Scores J Try.f43 [.t (.a [.v (.int .i64 m0), .v (.int .i64 m1), .v (.int .i64 m2), .v (.int .i64 m3), .v (.int .i64 m4), .v (.int .i64 m5), .v (.int .i64 m6), .v (.int .i64 m7), .v (.int .i64 m8), .v (.int .i64 m9), .v (.int .i64 m10), .v (.int .i64 m11)]), .t (.a [.v (.int .i64 b0), .v (.int .i64 b1), .v (.int .i64 b2), .v (.int .i64 b3), .v (.int .i64 b4), .v (.int .i64 b5)]), .t (.c (.sl 5 l.length (hitsC l)))] post = vc_ref05_Scores J m0 m1 m2 m3 m4 m5 m6 m7 m8 m9 m10 m11 b0 b1 b2 b3 b4 b5 l post := by kernel_rfl
theorem fit_ref05_Scores : okFn ann_ref05_Scores Try.f43 = true := by kernel_rfl
def rd_ref05_Scores_0 (J : Inv) (m0 m1 m2 m3 m4 m5 m6 m7 m8 m9 m10 m11 : Int) (b0 b1 b2 b3 b4 b5 : Int) (l : List THit) (v0_0 : Int) (v0_1 : Int) (v0_2 : Int) (nn0 : Nat) (post : DV → Prop) : Prop := (fun (Z1 : TMod) (Z2 : TBox) => cond (decide (v0_2 < ((l.length : Nat) : Int))) ((0 ≤ v0_2 ∧ v0_2 < ((l.length : Nat) : Int)) ∧ ((0 ≤ v0_2 ∧ v0_2 < ((l.length : Nat) : Int)) ∧ (lt (IntKind.i64.wrap (((hitAt l v0_2.toNat).t) + m8)) fun x1 => ((Z1).Ok ∧ (Z2).lo.inS 20 = true ∧ (Z2).hi.inS 20 = true ∧ (Z1).canBe Z2 ∧ ((⟨((hitAt l v0_2.toNat).p.x), ((hitAt l v0_2.toNat).p.y), ((hitAt l v0_2.toNat).p.z)⟩ : V3)).inS 1000 = true ∧ -1000101 ≤ x1 ∧ x1 ≤ 1000100) ∧ ((0 ≤ v0_2 ∧ v0_2 < ((l.length : Nat) : Int)) ∧ ((0 ≤ v0_2 ∧ v0_2 < ((l.length : Nat) : Int)) ∧ (lt (IntKind.i64.wrap (((hitAt l v0_2.toNat).t) - m9)) fun x2 => lt (IntKind.i64.wrap (x2 - (1 : Int))) fun x3 => ((Z1).Ok ∧ (Z2).lo.inS 20 = true ∧ (Z2).hi.inS 20 = true ∧ (Z1).canBe Z2 ∧ ((⟨((hitAt l v0_2.toNat).p.x), ((hitAt l v0_2.toNat).p.y), ((hitAt l v0_2.toNat).p.z)⟩ : V3)).inS 1000 = true ∧ -1000101 ≤ x3 ∧ x3 ≤ 1000100) ∧ ((0 ≤ v0_2 ∧ v0_2 < ((l.length : Nat) : Int)) ∧ (lt (IntKind.i64.wrap (((hitAt l v0_2.toNat).w) * m11)) fun x4 => (0 ≤ v0_2 ∧ v0_2 < ((l.length : Nat) : Int)) ∧ (lt (IntKind.i64.wrap (((hitAt l v0_2.toNat).w) * m10)) fun x5 => cond (((Z1).ans Z2 (⟨((hitAt l v0_2.toNat).p.x), ((hitAt l v0_2.toNat).p.y), ((hitAt l v0_2.toNat).p.z)⟩ : V3) x1) == (0 : Int)) (cond (((Z1).ans Z2 (⟨((hitAt l v0_2.toNat).p.x), ((hitAt l v0_2.toNat).p.y), ((hitAt l v0_2.toNat).p.z)⟩ : V3) x3) == (2 : Int)) (lt ((if x5 < x4 then x5 else x4)) fun x6 => lt (IntKind.i64.wrap (v0_0 + x6)) fun x7 => cond (((Z1).ans Z2 (⟨((hitAt l v0_2.toNat).p.x), ((hitAt l v0_2.toNat).p.y), ((hitAt l v0_2.toNat).p.z)⟩ : V3) x1) != (2 : Int)) (cond (((Z1).ans Z2 (⟨((hitAt l v0_2.toNat).p.x), ((hitAt l v0_2.toNat).p.y), ((hitAt l v0_2.toNat).p.z)⟩ : V3) x3) != (0 : Int)) (lt ((if x5 > x4 then x5 else x4)) fun x8 => lt (IntKind.i64.wrap (v0_1 + x8)) fun x9 => lt (IntKind.i64.wrap (v0_2 + (1 : Int))) fun x10 => J 0 (nn0 :: []) (mk_ref05_Scores_0 m0 m1 m2 m3 m4 m5 m6 m7 m8 m9 m10 m11 b0 b1 b2 b3 b4 b5 l x7 x9 x10)) (lt (IntKind.i64.wrap (v0_1 + x4)) fun x11 => lt (IntKind.i64.wrap (v0_2 + (1 : Int))) fun x12 => J 0 (nn0 :: []) (mk_ref05_Scores_0 m0 m1 m2 m3 m4 m5 m6 m7 m8 m9 m10 m11 b0 b1 b2 b3 b4 b5 l x7 x11 x12))) (cond (((Z1).ans Z2 (⟨((hitAt l v0_2.toNat).p.x), ((hitAt l v0_2.toNat).p.y), ((hitAt l v0_2.toNat).p.z)⟩ : V3) x3) != (0 : Int)) (lt ((if x5 > (0 : Int) then x5 else (0 : Int))) fun x13 => lt (IntKind.i64.wrap (v0_1 + x13)) fun x14 => lt (IntKind.i64.wrap (v0_2 + (1 : Int))) fun x15 => J 0 (nn0 :: []) (mk_ref05_Scores_0 m0 m1 m2 m3 m4 m5 m6 m7 m8 m9 m10 m11 b0 b1 b2 b3 b4 b5 l x7 x14 x15)) (lt (IntKind.i64.wrap (v0_1 + (0 : Int))) fun x16 => lt (IntKind.i64.wrap (v0_2 + (1 : Int))) fun x17 => J 0 (nn0 :: []) (mk_ref05_Scores_0 m0 m1 m2 m3 m4 m5 m6 m7 m8 m9 m10 m11 b0 b1 b2 b3 b4 b5 l x7 x16 x17)))) (cond (((Z1).ans Z2 (⟨((hitAt l v0_2.toNat).p.x), ((hitAt l v0_2.toNat).p.y), ((hitAt l v0_2.toNat).p.z)⟩ : V3) x1) == (0 : Int)) (lt (IntKind.i64.wrap (v0_0 + x4)) fun x18 => cond (((Z1).ans Z2 (⟨((hitAt l v0_2.toNat).p.x), ((hitAt l v0_2.toNat).p.y), ((hitAt l v0_2.toNat).p.z)⟩ : V3) x1) != (2 : Int)) (cond (((Z1).ans Z2 (⟨((hitAt l v0_2.toNat).p.x), ((hitAt l v0_2.toNat).p.y), ((hitAt l v0_2.toNat).p.z)⟩ : V3) x3) != (0 : Int)) (lt ((if x5 > x4 then x5 else x4)) fun x19 => lt (IntKind.i64.wrap (v0_1 + x19)) fun x20 => lt (IntKind.i64.wrap (v0_2 + (1 : Int))) fun x21 => J 0 (nn0 :: []) (mk_ref05_Scores_0 m0 m1 m2 m3 m4 m5 m6 m7 m8 m9 m10 m11 b0 b1 b2 b3 b4 b5 l x18 x20 x21)) (lt (IntKind.i64.wrap (v0_1 + x4)) fun x22 => lt (IntKind.i64.wrap (v0_2 + (1 : Int))) fun x23 => J 0 (nn0 :: []) (mk_ref05_Scores_0 m0 m1 m2 m3 m4 m5 m6 m7 m8 m9 m10 m11 b0 b1 b2 b3 b4 b5 l x18 x22 x23))) (cond (((Z1).ans Z2 (⟨((hitAt l v0_2.toNat).p.x), ((hitAt l v0_2.toNat).p.y), ((hitAt l v0_2.toNat).p.z)⟩ : V3) x3) != (0 : Int)) (lt ((if x5 > (0 : Int) then x5 else (0 : Int))) fun x24 => lt (IntKind.i64.wrap (v0_1 + x24)) fun x25 => lt (IntKind.i64.wrap (v0_2 + (1 : Int))) fun x26 => J 0 (nn0 :: []) (mk_ref05_Scores_0 m0 m1 m2 m3 m4 m5 m6 m7 m8 m9 m10 m11 b0 b1 b2 b3 b4 b5 l x18 x25 x26)) (lt (IntKind.i64.wrap (v0_1 + (0 : Int))) fun x27 => lt (IntKind.i64.wrap (v0_2 + (1 : Int))) fun x28 => J 0 (nn0 :: []) (mk_ref05_Scores_0 m0 m1 m2 m3 m4 m5 m6 m7 m8 m9 m10 m11 b0 b1 b2 b3 b4 b5 l x18 x27 x28)))) (cond (((Z1).ans Z2 (⟨((hitAt l v0_2.toNat).p.x), ((hitAt l v0_2.toNat).p.y), ((hitAt l v0_2.toNat).p.z)⟩ : V3) x3) == (2 : Int)) (lt (IntKind.i64.wrap (v0_0 + x5)) fun x29 => cond (((Z1).ans Z2 (⟨((hitAt l v0_2.toNat).p.x), ((hitAt l v0_2.toNat).p.y), ((hitAt l v0_2.toNat).p.z)⟩ : V3) x1) != (2 : Int)) (cond (((Z1).ans Z2 (⟨((hitAt l v0_2.toNat).p.x), ((hitAt l v0_2.toNat).p.y), ((hitAt l v0_2.toNat).p.z)⟩ : V3) x3) != (0 : Int)) (lt ((if x5 > x4 then x5 else x4)) fun x30 => lt (IntKind.i64.wrap (v0_1 + x30)) fun x31 => lt (IntKind.i64.wrap (v0_2 + (1 : Int))) fun x32 => J 0 (nn0 :: []) (mk_ref05_Scores_0 m0 m1 m2 m3 m4 m5 m6 m7 m8 m9 m10 m11 b0 b1 b2 b3 b4 b5 l x29 x31 x32)) (lt (IntKind.i64.wrap (v0_1 + x4)) fun x33 => lt (IntKind.i64.wrap (v0_2 + (1 : Int))) fun x34 => J 0 (nn0 :: []) (mk_ref05_Scores_0 m0 m1 m2 m3 m4 m5 m6 m7 m8 m9 m10 m11 b0 b1 b2 b3 b4 b5 l x29 x33 x34))) (cond (((Z1).ans Z2 (⟨((hitAt l v0_2.toNat).p.x), ((hitAt l v0_2.toNat).p.y), ((hitAt l v0_2.toNat).p.z)⟩ : V3) x3) != (0 : Int)) (lt ((if x5 > (0 : Int) then x5 else (0 : Int))) fun x35 => lt (IntKind.i64.wrap (v0_1 + x35)) fun x36 => lt (IntKind.i64.wrap (v0_2 + (1 : Int))) fun x37 => J 0 (nn0 :: []) (mk_ref05_Scores_0 m0 m1 m2 m3 m4 m5 m6 m7 m8 m9 m10 m11 b0 b1 b2 b3 b4 b5 l x29 x36 x37)) (lt (IntKind.i64.wrap (v0_1 + (0 : Int))) fun x38 => lt (IntKind.i64.wrap (v0_2 + (1 : Int))) fun x39 => J 0 (nn0 :: []) (mk_ref05_Scores_0 m0 m1 m2 m3 m4 m5 m6 m7 m8 m9 m10 m11 b0 b1 b2 b3 b4 b5 l x29 x38 x39)))) (cond (((Z1).ans Z2 (⟨((hitAt l v0_2.toNat).p.x), ((hitAt l v0_2.toNat).p.y), ((hitAt l v0_2.toNat).p.z)⟩ : V3) x1) != (2 : Int)) (cond (((Z1).ans Z2 (⟨((hitAt l v0_2.toNat).p.x), ((hitAt l v0_2.toNat).p.y), ((hitAt l v0_2.toNat).p.z)⟩ : V3) x3) != (0 : Int)) (lt ((if x5 > x4 then x5 else x4)) fun x40 => lt (IntKind.i64.wrap (v0_1 + x40)) fun x41 => lt (IntKind.i64.wrap (v0_2 + (1 : Int))) fun x42 => J 0 (nn0 :: []) (mk_ref05_Scores_0 m0 m1 m2 m3 m4 m5 m6 m7 m8 m9 m10 m11 b0 b1 b2 b3 b4 b5 l v0_0 x41 x42)) (lt (IntKind.i64.wrap (v0_1 + x4)) fun x43 => lt (IntKind.i64.wrap (v0_2 + (1 : Int))) fun x44 => J 0 (nn0 :: []) (mk_ref05_Scores_0 m0 m1 m2 m3 m4 m5 m6 m7 m8 m9 m10 m11 b0 b1 b2 b3 b4 b5 l v0_0 x43 x44))) (cond (((Z1).ans Z2 (⟨((hitAt l v0_2.toNat).p.x), ((hitAt l v0_2.toNat).p.y), ((hitAt l v0_2.toNat).p.z)⟩ : V3) x3) != (0 : Int)) (lt ((if x5 > (0 : Int) then x5 else (0 : Int))) fun x45 => lt (IntKind.i64.wrap (v0_1 + x45)) fun x46 => lt (IntKind.i64.wrap (v0_2 + (1 : Int))) fun x47 => J 0 (nn0 :: []) (mk_ref05_Scores_0 m0 m1 m2 m3 m4 m5 m6 m7 m8 m9 m10 m11 b0 b1 b2 b3 b4 b5 l v0_0 x46 x47)) (lt (IntKind.i64.wrap (v0_1 + (0 : Int))) fun x48 => lt (IntKind.i64.wrap (v0_2 + (1 : Int))) fun x49 => J 0 (nn0 :: []) (mk_ref05_Scores_0 m0 m1 m2 m3 m4 m5 m6 m7 m8 m9 m10 m11 b0 b1 b2 b3 b4 b5 l v0_0 x48 x49))))))) ((false = false) ∧ (cond (((Z1).ans Z2 (⟨((hitAt l v0_2.toNat).p.x), ((hitAt l v0_2.toNat).p.y), ((hitAt l v0_2.toNat).p.z)⟩ : V3) x1) == (0 : Int)) (lt (IntKind.i64.wrap (v0_0 + x4)) fun x50 => cond (((Z1).ans Z2 (⟨((hitAt l v0_2.toNat).p.x), ((hitAt l v0_2.toNat).p.y), ((hitAt l v0_2.toNat).p.z)⟩ : V3) x1) != (2 : Int)) (cond (((Z1).ans Z2 (⟨((hitAt l v0_2.toNat).p.x), ((hitAt l v0_2.toNat).p.y), ((hitAt l v0_2.toNat).p.z)⟩ : V3) x3) != (0 : Int)) (lt ((if x5 > x4 then x5 else x4)) fun x51 => lt (IntKind.i64.wrap (v0_1 + x51)) fun x52 => lt (IntKind.i64.wrap (v0_2 + (1 : Int))) fun x53 => J 0 (nn0 :: []) (mk_ref05_Scores_0 m0 m1 m2 m3 m4 m5 m6 m7 m8 m9 m10 m11 b0 b1 b2 b3 b4 b5 l x50 x52 x53)) (lt (IntKind.i64.wrap (v0_1 + x4)) fun x54 => lt (IntKind.i64.wrap (v0_2 + (1 : Int))) fun x55 => J 0 (nn0 :: []) (mk_ref05_Scores_0 m0 m1 m2 m3 m4 m5 m6 m7 m8 m9 m10 m11 b0 b1 b2 b3 b4 b5 l x50 x54 x55))) (cond (((Z1).ans Z2 (⟨((hitAt l v0_2.toNat).p.x), ((hitAt l v0_2.toNat).p.y), ((hitAt l v0_2.toNat).p.z)⟩ : V3) x3) != (0 : Int)) (lt ((if x5 > (0 : Int) then x5 else (0 : Int))) fun x56 => lt (IntKind.i64.wrap (v0_1 + x56)) fun x57 => lt (IntKind.i64.wrap (v0_2 + (1 : Int))) fun x58 => J 0 (nn0 :: []) (mk_ref05_Scores_0 m0 m1 m2 m3 m4 m5 m6 m7 m8 m9 m10 m11 b0 b1 b2 b3 b4 b5 l x50 x57 x58)) (lt (IntKind.i64.wrap (v0_1 + (0 : Int))) fun x59 => lt (IntKind.i64.wrap (v0_2 + (1 : Int))) fun x60 => J 0 (nn0 :: []) (mk_ref05_Scores_0 m0 m1 m2 m3 m4 m5 m6 m7 m8 m9 m10 m11 b0 b1 b2 b3 b4 b5 l x50 x59 x60)))) (cond (((Z1).ans Z2 (⟨((hitAt l v0_2.toNat).p.x), ((hitAt l v0_2.toNat).p.y), ((hitAt l v0_2.toNat).p.z)⟩ : V3) x3) == (2 : Int)) (lt (IntKind.i64.wrap (v0_0 + x5)) fun x61 => cond (((Z1).ans Z2 (⟨((hitAt l v0_2.toNat).p.x), ((hitAt l v0_2.toNat).p.y), ((hitAt l v0_2.toNat).p.z)⟩ : V3) x1) != (2 : Int)) (cond (((Z1).ans Z2 (⟨((hitAt l v0_2.toNat).p.x), ((hitAt l v0_2.toNat).p.y), ((hitAt l v0_2.toNat).p.z)⟩ : V3) x3) != (0 : Int)) (lt ((if x5 > x4 then x5 else x4)) fun x62 => lt (IntKind.i64.wrap (v0_1 + x62)) fun x63 => lt (IntKind.i64.wrap (v0_2 + (1 : Int))) fun x64 => J 0 (nn0 :: []) (mk_ref05_Scores_0 m0 m1 m2 m3 m4 m5 m6 m7 m8 m9 m10 m11 b0 b1 b2 b3 b4 b5 l x61 x63 x64)) (lt (IntKind.i64.wrap (v0_1 + x4)) fun x65 => lt (IntKind.i64.wrap (v0_2 + (1 : Int))) fun x66 => J 0 (nn0 :: []) (mk_ref05_Scores_0 m0 m1 m2 m3 m4 m5 m6 m7 m8 m9 m10 m11 b0 b1 b2 b3 b4 b5 l x61 x65 x66))) (cond (((Z1).ans Z2 (⟨((hitAt l v0_2.toNat).p.x), ((hitAt l v0_2.toNat).p.y), ((hitAt l v0_2.toNat).p.z)⟩ : V3) x3) != (0 : Int)) (lt ((if x5 > (0 : Int) then x5 else (0 : Int))) fun x67 => lt (IntKind.i64.wrap (v0_1 + x67)) fun x68 => lt (IntKind.i64.wrap (v0_2 + (1 : Int))) fun x69 => J 0 (nn0 :: []) (mk_ref05_Scores_0 m0 m1 m2 m3 m4 m5 m6 m7 m8 m9 m10 m11 b0 b1 b2 b3 b4 b5 l x61 x68 x69)) (lt (IntKind.i64.wrap (v0_1 + (0 : Int))) fun x70 => lt (IntKind.i64.wrap (v0_2 + (1 : Int))) fun x71 => J 0 (nn0 :: []) (mk_ref05_Scores_0 m0 m1 m2 m3 m4 m5 m6 m7 m8 m9 m10 m11 b0 b1 b2 b3 b4 b5 l x61 x70 x71)))) (cond (((Z1).ans Z2 (⟨((hitAt l v0_2.toNat).p.x), ((hitAt l v0_2.toNat).p.y), ((hitAt l v0_2.toNat).p.z)⟩ : V3) x1) != (2 : Int)) (cond (((Z1).ans Z2 (⟨((hitAt l v0_2.toNat).p.x), ((hitAt l v0_2.toNat).p.y), ((hitAt l v0_2.toNat).p.z)⟩ : V3) x3) != (0 : Int)) (lt ((if x5 > x4 then x5 else x4)) fun x72 => lt (IntKind.i64.wrap (v0_1 + x72)) fun x73 => lt (IntKind.i64.wrap (v0_2 + (1 : Int))) fun x74 => J 0 (nn0 :: []) (mk_ref05_Scores_0 m0 m1 m2 m3 m4 m5 m6 m7 m8 m9 m10 m11 b0 b1 b2 b3 b4 b5 l v0_0 x73 x74)) (lt (IntKind.i64.wrap (v0_1 + x4)) fun x75 => lt (IntKind.i64.wrap (v0_2 + (1 : Int))) fun x76 => J 0 (nn0 :: []) (mk_ref05_Scores_0 m0 m1 m2 m3 m4 m5 m6 m7 m8 m9 m10 m11 b0 b1 b2 b3 b4 b5 l v0_0 x75 x76))) (cond (((Z1).ans Z2 (⟨((hitAt l v0_2.toNat).p.x), ((hitAt l v0_2.toNat).p.y), ((hitAt l v0_2.toNat).p.z)⟩ : V3) x3) != (0 : Int)) (lt ((if x5 > (0 : Int) then x5 else (0 : Int))) fun x77 => lt (IntKind.i64.wrap (v0_1 + x77)) fun x78 => lt (IntKind.i64.wrap (v0_2 + (1 : Int))) fun x79 => J 0 (nn0 :: []) (mk_ref05_Scores_0 m0 m1 m2 m3 m4 m5 m6 m7 m8 m9 m10 m11 b0 b1 b2 b3 b4 b5 l v0_0 x78 x79)) (lt (IntKind.i64.wrap (v0_1 + (0 : Int))) fun x80 => lt (IntKind.i64.wrap (v0_2 + (1 : Int))) fun x81 => J 0 (nn0 :: []) (mk_ref05_Scores_0 m0 m1 m2 m3 m4 m5 m6 m7 m8 m9 m10 m11 b0 b1 b2 b3 b4 b5 l v0_0 x80 x81)))))))))))))))) (post (.t (.a [.v (.int .i64 v0_0), .v (.int .i64 v0_1)])))) (⟨m0, m1, m2, m3, m4, m5, m6, m7, m8, m9, m10, m11⟩ : TMod) (⟨⟨b0, b1, b2⟩, ⟨b3, b4, b5⟩⟩ : TBox)
theorem er_ref05_Scores_0 (J : Inv) (m0 m1 m2 m3 m4 m5 m6 m7 m8 m9 m10 m11 : Int) (b0 b1 b2 b3 b4 b5 : Int) (l : List THit) (v0_0 : Int) (v0_1 : Int) (v0_2 : Int) (nn0 : Nat) (post : DV → Prop) : round Try.prog tab S31 ann_ref05_Scores J Try.f43 post 0 (nn0 :: []) (mk_ref05_Scores_0 m0 m1 m2 m3 m4 m5 m6 m7 m8 m9 m10 m11 b0 b1 b2 b3 b4 b5 l v0_0 v0_1 v0_2) = rd_ref05_Scores_0 J m0 m1 m2 m3 m4 m5 m6 m7 m8 m9 m10 m11 b0 b1 b2 b3 b4 b5 l v0_0 v0_1 v0_2 nn0 post := by kernel_rfl
theorem lp_ref05_Scores (J : Inv) (post : DV → Prop) : AllG J (loopsFn Try.prog tab S31 ann_ref05_Scores J Try.f43 post) = (((∀ F s, ¬ J 0 (0 :: F) s) ∧ ∀ n F s, J 0 ((n + 1) :: F) s → round Try.prog tab S31 ann_ref05_Scores J Try.f43 post 0 (n :: F) s) ∧ True) := by kernel_rfl
def J_ref05_Scores (m0 m1 m2 m3 m4 m5 m6 m7 m8 m9 m10 m11 : Int) (b0 b1 b2 b3 b4 b5 : Int) (l : List THit) : Inv := fun b F s => match b, F with
 | 0, [nn0] => ∃ (v0_0 : Int) (v0_1 : Int) (v0_2 : Int), s = mk_ref05_Scores_0 m0 m1 m2 m3 m4 m5 m6 m7 m8 m9 m10 m11 b0 b1 b2 b3 b4 b5 l v0_0 v0_1 v0_2 ∧ (0 ≤ v0_2 ∧ v0_2 ≤ l.length ∧ (nn0 : Int) + v0_2 = l.length + 1 ∧ v0_0 = ((⟨m0, m1, m2, m3, m4, m5, m6, m7, m8, m9, m10, m11⟩ : TMod).scores (⟨⟨b0, b1, b2⟩, ⟨b3, b4, b5⟩⟩ : TBox) (l.take v0_2.toNat)).lo ∧ v0_1 = ((⟨m0, m1, m2, m3, m4, m5, m6, m7, m8, m9, m10, m11⟩ : TMod).scores (⟨⟨b0, b1, b2⟩, ⟨b3, b4, b5⟩⟩ : TBox) (l.take v0_2.toNat)).hi)
 | _, _ => False
set_option maxHeartbeats 8000000 in
set_option maxRecDepth 100000 in
theorem rnd_ref05_Scores_0 (m0 m1 m2 m3 m4 m5 m6 m7 m8 m9 m10 m11 : Int) (b0 b1 b2 b3 b4 b5 : Int) (l : List THit) (v0_0 : Int) (v0_1 : Int) (v0_2 : Int) (nn0 : Nat) (hp : ((⟨m0, m1, m2, m3, m4, m5, m6, m7, m8, m9, m10, m11⟩ : TMod)).Ok ∧ ((⟨⟨b0, b1, b2⟩, ⟨b3, b4, b5⟩⟩ : TBox)).lo.inS 20 = true ∧ ((⟨⟨b0, b1, b2⟩, ⟨b3, b4, b5⟩⟩ : TBox)).hi.inS 20 = true ∧ ((⟨m0, m1, m2, m3, m4, m5, m6, m7, m8, m9, m10, m11⟩ : TMod)).canBe (⟨⟨b0, b1, b2⟩, ⟨b3, b4, b5⟩⟩ : TBox) ∧ (l).length ≤ 12 ∧ ∀ i, i < (l).length → (hitAt l i).Ok) (hi : 0 ≤ v0_2 ∧ v0_2 ≤ l.length ∧ ((nn0 + 1) : Int) + v0_2 = l.length + 1 ∧ v0_0 = ((⟨m0, m1, m2, m3, m4, m5, m6, m7, m8, m9, m10, m11⟩ : TMod).scores (⟨⟨b0, b1, b2⟩, ⟨b3, b4, b5⟩⟩ : TBox) (l.take v0_2.toNat)).lo ∧ v0_1 = ((⟨m0, m1, m2, m3, m4, m5, m6, m7, m8, m9, m10, m11⟩ : TMod).scores (⟨⟨b0, b1, b2⟩, ⟨b3, b4, b5⟩⟩ : TBox) (l.take v0_2.toNat)).hi) : rd_ref05_Scores_0 (J_ref05_Scores m0 m1 m2 m3 m4 m5 m6 m7 m8 m9 m10 m11 b0 b1 b2 b3 b4 b5 l) m0 m1 m2 m3 m4 m5 m6 m7 m8 m9 m10 m11 b0 b1 b2 b3 b4 b5 l v0_0 v0_1 v0_2 nn0 (fun r => LeD r (.t (.a [.v (.int .i64 ((((⟨m0, m1, m2, m3, m4, m5, m6, m7, m8, m9, m10, m11⟩ : TMod)).scores (⟨⟨b0, b1, b2⟩, ⟨b3, b4, b5⟩⟩ : TBox) l).lo)), .v (.int .i64 ((((⟨m0, m1, m2, m3, m4, m5, m6, m7, m8, m9, m10, m11⟩ : TMod)).scores (⟨⟨b0, b1, b2⟩, ⟨b3, b4, b5⟩⟩ : TBox) l).hi))]))) := by
 obtain ⟨i1, i2, i3, i4, i5⟩ := hi
 obtain ⟨ho, hl, hh, hc, hn, hok⟩ := hp
 obtain ⟨k, rfl⟩ : ∃ k : Nat, v0_2 = k := ⟨v0_2.toNat, by omega⟩
 have hk : (k : Int).toNat = k := rfl
 rw [hk] at i4 i5
 unfold rd_ref05_Scores_0
 rw [hk]
 by_cases hlt : k < l.length
 case neg =>
  have e : k = l.length := by omega
  have hd : decide ((k : Int) < ((l.length : Nat) : Int)) = false := by rw [decide_eq_false_iff_not]; omega
  rw [hd]
  rw [e, List.take_length] at i4 i5
  refine cond_i (fun h => by cases h) (fun h => LeD.of ?_)
  rw [i4, i5]
 have hh0 := hok k hlt
 have hp0 := hh0.p
 have ht0 := hh0.t
 have hea := ho.ea
 have hla := ho.la
 obtain ⟨g1, g2⟩ := hit_prod ho hh0
 have hb0 := scores_bd (b := (⟨⟨b0, b1, b2⟩, ⟨b3, b4, b5⟩⟩ : TBox)) ho hok k (by omega)
 have hb1 := scores_bd (b := (⟨⟨b0, b1, b2⟩, ⟨b3, b4, b5⟩⟩ : TBox)) ho hok (k + 1) (by omega)
 have hst := scores_take (⟨m0, m1, m2, m3, m4, m5, m6, m7, m8, m9, m10, m11⟩ : TMod) (⟨⟨b0, b1, b2⟩, ⟨b3, b4, b5⟩⟩ : TBox) hlt
 generalize hh1 : hitAt l k = h1 at *
 simp only at hea hla g1 g2
 have w1 : IntKind.i64.wrap (h1.t + m8) = h1.t + m8 := IntWalk.i64_in _ (by omega)
 have w2 : IntKind.i64.wrap (h1.t - m9) = h1.t - m9 := IntWalk.i64_in _ (by omega)
 have w3 : IntKind.i64.wrap (h1.t - m9 - 1) = h1.t - m9 - 1 := IntWalk.i64_in _ (by omega)
 have w4 : IntKind.i64.wrap (h1.w * m11) = h1.w * m11 := IntWalk.i64_in _ (by omega)
 have w5 : IntKind.i64.wrap (h1.w * m10) = h1.w * m10 := IntWalk.i64_in _ (by omega)
 have hR : (⟨m0, m1, m2, m3, m4, m5, m6, m7, m8, m9, m10, m11⟩ : TMod).hitR (⟨⟨b0, b1, b2⟩, ⟨b3, b4, b5⟩⟩ : TBox) h1 = ownR ((⟨m0, m1, m2, m3, m4, m5, m6, m7, m8, m9, m10, m11⟩ : TMod).ans (⟨⟨b0, b1, b2⟩, ⟨b3, b4, b5⟩⟩ : TBox) h1.p (h1.t + m8)) ((⟨m0, m1, m2, m3, m4, m5, m6, m7, m8, m9, m10, m11⟩ : TMod).ans (⟨⟨b0, b1, b2⟩, ⟨b3, b4, b5⟩⟩ : TBox) h1.p (h1.t - m9 - 1)) (h1.w * m11) (h1.w * m10) := rfl
 rw [hR] at hst
 have hE := ans_val (⟨m0, m1, m2, m3, m4, m5, m6, m7, m8, m9, m10, m11⟩ : TMod) (⟨⟨b0, b1, b2⟩, ⟨b3, b4, b5⟩⟩ : TBox) h1.p (h1.t + m8)
 have hL := ans_val (⟨m0, m1, m2, m3, m4, m5, m6, m7, m8, m9, m10, m11⟩ : TMod) (⟨⟨b0, b1, b2⟩, ⟨b3, b4, b5⟩⟩ : TBox) h1.p (h1.t - m9 - 1)
 refine cond_i (fun h => ?_) (fun h => by rw [decide_eq_false_iff_not] at h; omega)
 refine ⟨by omega, by omega, ?_⟩
 rw [w1]
 refine lt_i fun x hx => ?_
 subst hx
 refine ⟨⟨ho, hl, hh, hc, hp0, by omega, by omega⟩, by omega, by omega, ?_⟩
 rw [w2]
 refine lt_i fun x hx => ?_
 subst hx
 rw [w3]
 refine lt_i fun x hx => ?_
 subst hx
 refine ⟨⟨ho, hl, hh, hc, hp0, by omega, by omega⟩, by omega, ?_⟩
 rw [w4]
 refine lt_i fun x hx => ?_
 subst hx
 refine ⟨by omega, ?_⟩
 rw [w5]
 refine lt_i fun x hx => ?_
 subst hx
 have e0 : (⟨h1.p.x, h1.p.y, h1.p.z⟩ : V3) = h1.p := rfl
 rw [e0]
 generalize (⟨m0, m1, m2, m3, m4, m5, m6, m7, m8, m9, m10, m11⟩ : TMod).ans (⟨⟨b0, b1, b2⟩, ⟨b3, b4, b5⟩⟩ : TBox) h1.p (h1.t + m8) = E at *
 generalize (⟨m0, m1, m2, m3, m4, m5, m6, m7, m8, m9, m10, m11⟩ : TMod).ans (⟨⟨b0, b1, b2⟩, ⟨b3, b4, b5⟩⟩ : TBox) h1.p (h1.t - m9 - 1) = D at *
 generalize h1.w * m11 = A at *
 generalize h1.w * m10 = C at *
 have hs1 := congrArg Rg.lo hst
 have hs2 := congrArg Rg.hi hst
 simp only [Rg.plus] at hs1 hs2
 rw [← i4] at hs1 hb0
 rw [← i5] at hs2 hb0
 clear hst hR hok hh0 hp0 ht0 e0 w1 w2 w3 w4 w5 ho hh1 hea hla
 generalize hq1 : ((⟨m0, m1, m2, m3, m4, m5, m6, m7, m8, m9, m10, m11⟩ : TMod).scores (⟨⟨b0, b1, b2⟩, ⟨b3, b4, b5⟩⟩ : TBox) (l.take (k + 1))).lo = Q1 at *
 generalize hq2 : ((⟨m0, m1, m2, m3, m4, m5, m6, m7, m8, m9, m10, m11⟩ : TMod).scores (⟨⟨b0, b1, b2⟩, ⟨b3, b4, b5⟩⟩ : TBox) (l.take (k + 1))).hi = Q2 at *
 push_cast at hb0 hb1
 have fin : ∀ {a b c : Int}, a = Q1 → b = Q2 → IntKind.i64.wrap ((k : Int) + 1) = c → J_ref05_Scores m0 m1 m2 m3 m4 m5 m6 m7 m8 m9 m10 m11 b0 b1 b2 b3 b4 b5 l 0 (nn0 :: []) (mk_ref05_Scores_0 m0 m1 m2 m3 m4 m5 m6 m7 m8 m9 m10 m11 b0 b1 b2 b3 b4 b5 l a b c) := by
  intro a b c e1 e2 e3
  rw [IntWalk.i64_in _ (by omega)] at e3
  subst e3
  refine ⟨_, _, _, rfl, by omega, by omega, by omega, ?_, ?_⟩
  ·rw [show ((k : Int) + 1).toNat = k + 1 by omega, hq1]; exact e1
  ·rw [show ((k : Int) + 1).toNat = k + 1 by omega, hq2]; exact e2
 unfold ownR at hs1 hs2
 simp only at hs1 hs2
 (repeat' with_reducible first | (refine lt_i ?_; intro _ _) | (refine cond_i ?_ ?_ <;> intro _) | (refine And.intro (by decide) ?_))
 all_goals
  simp only [beq_iff_eq, beq_eq_false_iff_ne, bne_iff_ne, bne_eq_false_iff_eq, ne_eq, mn_if, mx_if] at *
  refine fin ?_ ?_ ‹IntKind.i64.wrap ((k : Int) + 1) = _›
  all_goals
   (try (have q1 := ‹IntKind.i64.wrap (v0_0 + _) = _›; rw [IntWalk.i64_in _ (by omega)] at q1))
   (try (have q2 := ‹IntKind.i64.wrap (v0_1 + _) = _›; rw [IntWalk.i64_in _ (by omega)] at q2))
   (repeat' split at hs1) <;> (repeat' split at hs2) <;> omega
theorem zero_ref05_Scores_0 (m0 m1 m2 m3 m4 m5 m6 m7 m8 m9 m10 m11 : Int) (b0 b1 b2 b3 b4 b5 : Int) (l : List THit) (v0_0 : Int) (v0_1 : Int) (v0_2 : Int)  (hi : 0 ≤ v0_2 ∧ v0_2 ≤ l.length ∧ (0 : Int) + v0_2 = l.length + 1 ∧ v0_0 = ((⟨m0, m1, m2, m3, m4, m5, m6, m7, m8, m9, m10, m11⟩ : TMod).scores (⟨⟨b0, b1, b2⟩, ⟨b3, b4, b5⟩⟩ : TBox) (l.take v0_2.toNat)).lo ∧ v0_1 = ((⟨m0, m1, m2, m3, m4, m5, m6, m7, m8, m9, m10, m11⟩ : TMod).scores (⟨⟨b0, b1, b2⟩, ⟨b3, b4, b5⟩⟩ : TBox) (l.take v0_2.toNat)).hi) : False := by
 omega
set_option maxHeartbeats 8000000 in
set_option maxRecDepth 100000 in
theorem spec_ref05_Scores (m0 m1 m2 m3 m4 m5 m6 m7 m8 m9 m10 m11 : Int) (b0 b1 b2 b3 b4 b5 : Int) (l : List THit) (hp : ((⟨m0, m1, m2, m3, m4, m5, m6, m7, m8, m9, m10, m11⟩ : TMod)).Ok ∧ ((⟨⟨b0, b1, b2⟩, ⟨b3, b4, b5⟩⟩ : TBox)).lo.inS 20 = true ∧ ((⟨⟨b0, b1, b2⟩, ⟨b3, b4, b5⟩⟩ : TBox)).hi.inS 20 = true ∧ ((⟨m0, m1, m2, m3, m4, m5, m6, m7, m8, m9, m10, m11⟩ : TMod)).canBe (⟨⟨b0, b1, b2⟩, ⟨b3, b4, b5⟩⟩ : TBox) ∧ (l).length ≤ 12 ∧ ∀ i, i < (l).length → (hitAt l i).Ok) : vc_ref05_Scores (J_ref05_Scores m0 m1 m2 m3 m4 m5 m6 m7 m8 m9 m10 m11 b0 b1 b2 b3 b4 b5 l) m0 m1 m2 m3 m4 m5 m6 m7 m8 m9 m10 m11 b0 b1 b2 b3 b4 b5 l (fun r => LeD r (.t (.a [.v (.int .i64 ((((⟨m0, m1, m2, m3, m4, m5, m6, m7, m8, m9, m10, m11⟩ : TMod)).scores (⟨⟨b0, b1, b2⟩, ⟨b3, b4, b5⟩⟩ : TBox) l).lo)), .v (.int .i64 ((((⟨m0, m1, m2, m3, m4, m5, m6, m7, m8, m9, m10, m11⟩ : TMod)).scores (⟨⟨b0, b1, b2⟩, ⟨b3, b4, b5⟩⟩ : TBox) l).hi))]))) := by
 unfold vc_ref05_Scores
 exact ⟨l.length + 1, 0, 0, 0, rfl, by omega, by omega, by omega, by simp [TMod.scores], by simp [TMod.scores]⟩
theorem all_ref05_Scores (m0 m1 m2 m3 m4 m5 m6 m7 m8 m9 m10 m11 : Int) (b0 b1 b2 b3 b4 b5 : Int) (l : List THit) (hp : ((⟨m0, m1, m2, m3, m4, m5, m6, m7, m8, m9, m10, m11⟩ : TMod)).Ok ∧ ((⟨⟨b0, b1, b2⟩, ⟨b3, b4, b5⟩⟩ : TBox)).lo.inS 20 = true ∧ ((⟨⟨b0, b1, b2⟩, ⟨b3, b4, b5⟩⟩ : TBox)).hi.inS 20 = true ∧ ((⟨m0, m1, m2, m3, m4, m5, m6, m7, m8, m9, m10, m11⟩ : TMod)).canBe (⟨⟨b0, b1, b2⟩, ⟨b3, b4, b5⟩⟩ : TBox) ∧ (l).length ≤ 12 ∧ ∀ i, i < (l).length → (hitAt l i).Ok) : AllG (J_ref05_Scores m0 m1 m2 m3 m4 m5 m6 m7 m8 m9 m10 m11 b0 b1 b2 b3 b4 b5 l) (loopsFn Try.prog tab S31 ann_ref05_Scores (J_ref05_Scores m0 m1 m2 m3 m4 m5 m6 m7 m8 m9 m10 m11 b0 b1 b2 b3 b4 b5 l) Try.f43 (fun r => LeD r (.t (.a [.v (.int .i64 ((((⟨m0, m1, m2, m3, m4, m5, m6, m7, m8, m9, m10, m11⟩ : TMod)).scores (⟨⟨b0, b1, b2⟩, ⟨b3, b4, b5⟩⟩ : TBox) l).lo)), .v (.int .i64 ((((⟨m0, m1, m2, m3, m4, m5, m6, m7, m8, m9, m10, m11⟩ : TMod)).scores (⟨⟨b0, b1, b2⟩, ⟨b3, b4, b5⟩⟩ : TBox) l).hi))])))) := by
 rw [lp_ref05_Scores]
 refine ⟨⟨?_, ?_⟩, trivial⟩
 ·intro F s h
  obtain _ | ⟨g, F⟩ := F
  case cons => exact h.elim
  obtain ⟨w0, w1, w2, rfl, hi⟩ := h
  exact zero_ref05_Scores_0 m0 m1 m2 m3 m4 m5 m6 m7 m8 m9 m10 m11 b0 b1 b2 b3 b4 b5 l _ _ _ hi
 ·intro n F s h
  obtain _ | ⟨g, F⟩ := F
  case cons => exact h.elim
  obtain ⟨w0, w1, w2, rfl, hi⟩ := h
  rw [er_ref05_Scores_0]
  exact rnd_ref05_Scores_0 m0 m1 m2 m3 m4 m5 m6 m7 m8 m9 m10 m11 b0 b1 b2 b3 b4 b5 l _ _ _ _ hp hi
def con_ref05_Scores : Con := fun args => match args with
 | [.t (.a [.v (.int .i64 m0), .v (.int .i64 m1), .v (.int .i64 m2), .v (.int .i64 m3), .v (.int .i64 m4), .v (.int .i64 m5), .v (.int .i64 m6), .v (.int .i64 m7), .v (.int .i64 m8), .v (.int .i64 m9), .v (.int .i64 m10), .v (.int .i64 m11)]), .t (.a [.v (.int .i64 b0), .v (.int .i64 b1), .v (.int .i64 b2), .v (.int .i64 b3), .v (.int .i64 b4), .v (.int .i64 b5)]), .t (.c (.sl 5 n_l c_l))] => some (.t (.a [.v (.int .i64 ((((⟨m0, m1, m2, m3, m4, m5, m6, m7, m8, m9, m10, m11⟩ : TMod)).scores (⟨⟨b0, b1, b2⟩, ⟨b3, b4, b5⟩⟩ : TBox) (listC n_l mkHit c_l)).lo)), .v (.int .i64 ((((⟨m0, m1, m2, m3, m4, m5, m6, m7, m8, m9, m10, m11⟩ : TMod)).scores (⟨⟨b0, b1, b2⟩, ⟨b3, b4, b5⟩⟩ : TBox) (listC n_l mkHit c_l)).hi))]), some (numsP 5 n_l c_l ∧ ((⟨m0, m1, m2, m3, m4, m5, m6, m7, m8, m9, m10, m11⟩ : TMod)).Ok ∧ ((⟨⟨b0, b1, b2⟩, ⟨b3, b4, b5⟩⟩ : TBox)).lo.inS 20 = true ∧ ((⟨⟨b0, b1, b2⟩, ⟨b3, b4, b5⟩⟩ : TBox)).hi.inS 20 = true ∧ ((⟨m0, m1, m2, m3, m4, m5, m6, m7, m8, m9, m10, m11⟩ : TMod)).canBe (⟨⟨b0, b1, b2⟩, ⟨b3, b4, b5⟩⟩ : TBox) ∧ ((listC n_l mkHit c_l)).length ≤ 12 ∧ ∀ i, i < ((listC n_l mkHit c_l)).length → (hitAt (listC n_l mkHit c_l) i).Ok), false)
 | _ => none
theorem ok_ref05_Scores : Ok Try.prog 43 con_ref05_Scores := by
 refine Ok.fn (ann := ann_ref05_Scores) mixed tabOK VS31 ValidIt.no (fn := Try.f43) (by kernel_rfl) (by kernel_rfl) fit_ref05_Scores fun args r pre fresh h hp => ?_
 unfold con_ref05_Scores at h
 split at h
 ·rename_i m0 m1 m2 m3 m4 m5 m6 m7 m8 m9 m10 m11 b0 b1 b2 b3 b4 b5 n_l c_l
  cases h
  obtain ⟨hp0, hp⟩ := hp
  refine ⟨rfl, J_ref05_Scores m0 m1 m2 m3 m4 m5 m6 m7 m8 m9 m10 m11 b0 b1 b2 b3 b4 b5 (listC n_l mkHit c_l), [.t (.a [.v (.int .i64 m0), .v (.int .i64 m1), .v (.int .i64 m2), .v (.int .i64 m3), .v (.int .i64 m4), .v (.int .i64 m5), .v (.int .i64 m6), .v (.int .i64 m7), .v (.int .i64 m8), .v (.int .i64 m9), .v (.int .i64 m10), .v (.int .i64 m11)]), .t (.a [.v (.int .i64 b0), .v (.int .i64 b1), .v (.int .i64 b2), .v (.int .i64 b3), .v (.int .i64 b4), .v (.int .i64 b5)]), .t (.c (.sl 5 ((listC n_l mkHit c_l).length) (hitsC (listC n_l mkHit c_l))))], ?_, Nat.le_of_ble_eq_true (by kernel_rfl), ?_, ?_⟩
  ·exact (LeA_cons (LeD.refl _) (LeA_cons (LeD.refl _) (LeA_cons (leT_c ((leL_THit hp0))) LeA_nil)))
  ·rw [ev_ref05_Scores]; exact spec_ref05_Scores m0 m1 m2 m3 m4 m5 m6 m7 m8 m9 m10 m11 b0 b1 b2 b3 b4 b5 (listC n_l mkHit c_l) hp
  ·exact all_ref05_Scores m0 m1 m2 m3 m4 m5 m6 m7 m8 m9 m10 m11 b0 b1 b2 b3 b4 b5 (listC n_l mkHit c_l) hp
 ·cases h
def S32 : Sum := addS S31 43 con_ref05_Scores
theorem VS32 : Valid Try.prog S32 := Valid.add VS31 ok_ref05_Scores
end Go.Proofs.Ytlmdmpjfehpjeaa
set_option linter.unusedVariables false
set_option linter.unusedSimpArgs false
namespace Go.Proofs.Ytlmdmpjfehpjeaa
open Go.RowKit Ev
def plAt (l : List V3) (i : Nat) : V3 := l.getD i ⟨0, 0, 0⟩
def plsC (l : List V3) : Nat → Nat → CV := fun i j => match j with
 | 0 => .v (.int .i64 (plAt l i).x)
 | 1 => .v (.int .i64 (plAt l i).y)
 | _ => .v (.int .i64 (plAt l i).z)
theorem plAt_take {l : List V3} {k : Nat} (h : k < l.length) : l.take (k + 1) = l.take k ++ [plAt l k] := by
 rw [List.take_succ_eq_append_getElem h]; simp [plAt, List.getD, h]
theorem le_tu {a a' b b' : TV} (h1 : LeD (.t a) (.t a')) (h2 : LeD (.t b) (.t b')) : LeD (.tu [a, b]) (.tu [a', b']) := by
 rintro w N v ⟨vs, e, g⟩
 match vs, g with
 | [x, y], g => exact ⟨[x, y], e, h1 w N x g.1, h2 w N y g.2.1, trivial⟩
 | [], g => exact g.elim
 | [_], g => exact g.2.elim
 | _ :: _ :: _ :: _, g => exact g.2.2.elim
theorem le_nil {sz : Nat} {c : Nat → Nat → CV} : LeD (.t (.c (.v (.slice none 0 0)))) (.t (.c (.sl sz 0 c))) := by
 intro w N v h
 exact ⟨none, 0, h.1, Nat.le_refl _, by unfold maxLen; omega, fun _ => rfl, fun h => by omega⟩
theorem hit_ext {a b : THit} : a = b ↔ a.p.x = b.p.x ∧ a.p.y = b.p.y ∧ a.p.z = b.p.z ∧ a.t = b.t ∧ a.w = b.w := by
 obtain ⟨⟨_, _, _⟩, _, _⟩ := a
 obtain ⟨⟨_, _, _⟩, _, _⟩ := b
 simp [and_assoc]
instance : DecidableEq THit := fun a b => decidable_of_iff _ hit_ext.symm
def S33 : Sum := S32
theorem VS33 : Valid Try.prog S33 := VS32
def S34 : Sum := S33
theorem VS34 : Valid Try.prog S34 := VS33
def S35 : Sum := S34
theorem VS35 : Valid Try.prog S35 := VS34
def S36 : Sum := S35
theorem VS36 : Valid Try.prog S36 := VS35
def S37 : Sum := S36
theorem VS37 : Valid Try.prog S37 := VS36
def S38 : Sum := S37
theorem VS38 : Valid Try.prog S38 := VS37
def S39 : Sum := S38
theorem VS39 : Valid Try.prog S39 := VS38
def S40 : Sum := S39
theorem VS40 : Valid Try.prog S40 := VS39
def S41 : Sum := S40
theorem VS41 : Valid Try.prog S41 := VS40
def S42 : Sum := S41
theorem VS42 : Valid Try.prog S42 := VS41
def S43 : Sum := S42
theorem VS43 : Valid Try.prog S43 := VS42
end Go.Proofs.Ytlmdmpjfehpjeaa