/- Tracks: the nearest distance by the program. -/
import Derived.Test.YtlmdmpjfehpjeaaL9
import Derived.Test.YtlmdmpjfehpjeaaL17
import Derived.Test.YtlmdmpjfehpjeaaL12
import Derived.Test.YtlmdmpjfehpjeaaL14
set_option linter.unusedVariables false
set_option linter.unusedSimpArgs false
namespace Go.Proofs.Ytlmdmpjfehpjeaa
open Go.RowKit

theorem track_divisor (a b : Int) (w : World) (h : 0 ≤ a) (h' : a ≤ 9223372036854775807) (hb : 0 < b) (hb' : b ≤ 9223372036854775807) :
    Calls Try.prog 79 #[.int .i64 a, .int .i64 b] w fun e w' => e = .returned (.int .i64 (Int.gcd a b : Nat)) ∧ Below w.heap.size w w' := by
  obtain ⟨g, hg⟩ : ∃ g, g = Int.gcd a b := ⟨_, rfl⟩
  have HG := hid hg
  clear hg
  go_enter Try.func79, Try.ntmps79
  go_wp2_with fail
  go_loopw [0, 1] (fun x y wr => ∃ p q : Int, x = .int .i64 p ∧ y = .int .i64 q ∧ Hid (g = Int.gcd p q) ∧ -9223372036854775808 ≤ p ∧ p ≤ 9223372036854775807 ∧ -9223372036854775807 ≤ q ∧ q ≤ 9223372036854775807 ∧ (q = 0 → -9223372036854775807 ≤ p) ∧ ∃ m, wr = w.drewN m) (fun _ y _ => (intOf y).natAbs)
  case atStart => exact ⟨a, b, rfl, rfl, HG, by omega, h', by omega, hb', by omega, 0, rfl⟩
  case round =>
    obtain ⟨p, q, rfl, rfl, hG, p1, p2, q1, q2, hq, m, rfl⟩ := hrel
    by_cases hz : q = 0
    · subst hz
      go_wp2_with fail
      all_goals
        go_ret
        refine ⟨ret_int ?_, Below.drewN m (Below.refl _ _)⟩
        rw [HG.out.symm, hG.out, Int.gcd_zero_right]
        omega
    · have hz' : (q != 0) = true := by simpa using hz
      have HT := hid (tmod_abs p q hz)
      have HT2 := hid (gcd_tmod p q)
      go_wp2_with fail
      go_quiet (fail)
      go_wp2
      go_roundw
      case rel => exact ⟨q, p.tmod q, rfl, rfl, hid (by rw [HT2.out]; exact hG.out), by omega, by omega, by have := HT.out; omega, by have := HT.out; omega, by omega, m + nq, by simp⟩
      case measure => simp only [intOf]; exact HT.out

/-- how far a place is off the model's place, and the numerator of the square of the nearest distance. -/
def TMod.off (m : TMod) (p : V3) : V3 := ⟨p.x - m.px, p.y - m.py, p.z - m.pz⟩
def TMod.num (m : TMod) (s p : V3) : Int := (m.off p).dot (m.off p) * s.dot s - (m.off p).dot s * (m.off p).dot s
theorem row_n {Q : Prop} {w w1 : World} {a : Array Value} {t : TypeId} (hb : Below (w.alloc (.cells a t)).heap.size (w.alloc (.cells a t)) w1) (k : w1.heap[w.heap.size]? = some (.cells a t (0, 0)) → Q) : Q := k ((hb.block _ (by simp)).trans (heap_alloc_new w _))
theorem off_in {m : TMod} {p : V3} (ho : m.Ok) (hp : p.inS 1000 = true) : (m.off p).inS 2000 = true := by
  rw [inS_iff] at *
  have h1 := ho.px; have h2 := ho.py; have h3 := ho.pz
  unfold TMod.off; simp only; omega
theorem near_nums {m : TMod} {s p : V3} (ho : m.Ok) (hs : s.inS 20 = true) (hpm : m.permit s) (hp : p.inS 1000 = true) :
    s.sm s ∧ (m.off p).sm s ∧ (m.off p).sm (m.off p) ∧ (1 ≤ s.dot s ∧ s.dot s ≤ 1200) ∧ (0 ≤ (m.off p).dot (m.off p) ∧ (m.off p).dot (m.off p) ≤ 12000000) ∧ (-120000 ≤ (m.off p).dot s ∧ (m.off p).dot s ≤ 120000) ∧
    (0 ≤ (m.off p).dot (m.off p) * s.dot s ∧ (m.off p).dot (m.off p) * s.dot s ≤ 14400000000) ∧ (0 ≤ (m.off p).dot s * (m.off p).dot s ∧ (m.off p).dot s * (m.off p).dot s ≤ 14400000000) ∧ (0 ≤ m.num s p ∧ m.num s p ≤ 14400000000) := by
  have hw := off_in ho hp
  have h1 := dot_sz hs hs (by omega) (by omega)
  have h2 := dot_sz hw hs (by omega) (by omega)
  have h3 := dot_sz hw hw (by omega) (by omega)
  have hS := hpm.1
  have hS2 := hpm.2
  have hl := ho.lo
  have hh := ho.hi
  have hn := V3.dot_self (m.off p)
  have hb : -120000 ≤ (m.off p).dot s ∧ (m.off p).dot s ≤ 120000 := by unfold V3.dot; omega
  have hc : (m.off p).dot (m.off p) ≤ 12000000 := by unfold V3.dot; omega
  have hbb := mul_rg hb hb (C := 14400000000) (by decide)
  have hac := mul_rg (x := (m.off p).dot (m.off p)) (y := s.dot s) (A := 12000000) (B := 1200) (C := 14400000000) (by omega) (by omega) (by decide)
  have hbn := sq_nn ((m.off p).dot s)
  have han := Int.mul_nonneg hn (show 0 ≤ s.dot s by omega)
  have hlg := lagrange (m.off p) s
  refine ⟨?_, ?_, ?_, by omega, ⟨hn, hc⟩, hb, ⟨han, by omega⟩, ⟨hbn, by omega⟩, ⟨hlg, by unfold TMod.num; omega⟩⟩
  all_goals (unfold V3.sm; omega)
/-- a quotient in lowest terms by numbers not below 0. -/
theorem r_pos {n d : Int} (hn : 0 ≤ n) (hd : 0 < d) : 0 ≤ rN n d ∧ rN n d ≤ n ∧ 1 ≤ rD n d ∧ rD n d ≤ d ∧ 1 ≤ (Int.gcd n d : Int) ∧ (Int.gcd n d : Int) ≤ d ∧ n.tdiv (Int.gcd n d) = rN n d ∧ d.tdiv (Int.gcd n d) = rD n d := by
  obtain ⟨h1, h2, h3, h4, h5, h6⟩ := r_spec (n := n) hd
  have hg : (Int.gcd n d : Int) ≤ d := Int.le_of_dvd hd (Int.gcd_dvd_right ..)
  have hN : 0 ≤ rN n d := Int.ediv_nonneg hn (by omega)
  exact ⟨hN, by omega, by omega, by omega, by omega, hg, Int.tdiv_eq_ediv_of_nonneg hn, Int.tdiv_eq_ediv_of_nonneg (by omega)⟩

set_option maxRecDepth 100000 in
set_option maxHeartbeats 8000000 in
theorem track_NearestTo (m : TMod) (s p : V3) (w : World) :
    Calls Try.prog 17 #[m.v, s.v, p.v] w fun e w' => (firstNZ [m.both s, plE p] = 0 → rN (m.num s p) (s.dot s) ≤ 1000000000 → e = .returned (.tuple #[.agg #[.int .i64 (rN (m.num s p) (s.dot s)), .int .i64 (rD (m.num s p) (s.dot s))], .int .i64 0])) ∧ (firstNZ [m.both s, plE p] = 0 → ¬ rN (m.num s p) (s.dot s) ≤ 1000000000 → e = .returned (.tuple #[.agg #[.int .i64 0, .int .i64 0], .int .i64 8])) ∧ (firstNZ [m.both s, plE p] ≠ 0 → e = .returned (.tuple #[.agg #[.int .i64 0, .int .i64 0], .int .i64 (firstNZ [m.both s, plE p])])) ∧ Below w.heap.size w w' := by
  have HO : Hid (∀ W, Calls Try.prog 73 #[m.v, s.v] W fun e w' => e = .returned (.tuple #[m.v, s.v, .int .i64 (m.both s)]) ∧ Below W.heap.size W w') := hid (fun W => track_openStep m s W)
  have HM : Hid (∀ W, Calls Try.prog 70 #[p.v] W fun e w' => e = .returned (.int .i64 (plE p)) ∧ Below W.heap.size W w') := hid (fun W => track_placeErr p W)
  have HFI : Hid (∀ v w, IntsAt w v [m.both s, plE p] → Calls Try.prog 69 #[v] w fun e w' => e = .returned (.int .i64 (firstNZ [m.both s, plE p])) ∧ w = w') := hid (fun v w h => track_first _ v w h)
  by_cases h1 : firstNZ [m.both s, plE p] = 0
  · obtain ⟨h2, h3⟩ := two_zero h1
    obtain ⟨o1, o2, o3, o4⟩ := both_ok h2
    have o5 := plE_ok h3
    obtain ⟨n1, n2, n3, nS, nd, na, nds, naa, nn⟩ := near_nums o1 o2 o3 o5
    obtain ⟨u1, u2, u3, u4, u5, u6, u7, u8⟩ := r_pos nn.1 (show 0 < s.dot s by omega)
    have hpl : m.pl.inS 100000000 = true := inS_iff.2 (by have h1 := o1.px; have h2 := o1.py; have h3 := o1.pz; unfold TMod.pl; simp only; omega)
    have hpp : p.inS 100000000 = true := inS_iff.2 (by have := inS_iff.1 o5; omega)
    have HMI : Hid (∀ W, Calls Try.prog 77 #[p.v, m.pl.v] W fun e w' => e = .returned (m.off p).v ∧ Below W.heap.size W w') := hid (fun W => track_minus p m.pl W hpp hpl)
    have HD1 : Hid (∀ W, Calls Try.prog 78 #[s.v, s.v] W fun e w' => e = .returned (.int .i64 (s.dot s)) ∧ Below W.heap.size W w') := hid (fun W => track_dot s s W n1)
    have HD2 : Hid (∀ W, Calls Try.prog 78 #[(m.off p).v, s.v] W fun e w' => e = .returned (.int .i64 ((m.off p).dot s)) ∧ Below W.heap.size W w') := hid (fun W => track_dot _ s W n2)
    have HD3 : Hid (∀ W, Calls Try.prog 78 #[(m.off p).v, (m.off p).v] W fun e w' => e = .returned (.int .i64 ((m.off p).dot (m.off p))) ∧ Below W.heap.size W w') := hid (fun W => track_dot _ _ W n3)
    have HDV : Hid (∀ W, Calls Try.prog 79 #[.int .i64 (m.num s p), .int .i64 (s.dot s)] W fun e w' => e = .returned (.int .i64 (Int.gcd (m.num s p) (s.dot s) : Nat)) ∧ Below W.heap.size W w') := hid (fun W => track_divisor _ _ W nn.1 (by omega) (by omega) (by omega))
    obtain ⟨X, Y, k1, k2, k3⟩ : ∃ X Y, IntKind.i64.wrap ((m.off p).dot (m.off p) * s.dot s) = X ∧ IntKind.i64.wrap ((m.off p).dot s * (m.off p).dot s) = Y ∧ IntKind.i64.wrap (X - Y) = m.num s p := ⟨_, _, IntWalk.i64_in _ (by omega), IntWalk.i64_in _ (by omega), IntWalk.i64_in _ (by unfold TMod.num at nn; omega)⟩
    rw [h1] at HFI
    have H1 := hid h1
    generalize hE1 : firstNZ [m.both s, plE p] = E1 at H1 ⊢
    generalize m.both s = EB at HO HFI
    generalize plE p = EM at HM HFI
    generalize (Int.gcd (m.num s p) (s.dot s)) = G at HDV u5 u6 u7 u8
    generalize m.off p = V at HMI HD2 HD3 k1 k2
    generalize rN (m.num s p) (s.dot s) = RN at u1 u2 u7 ⊢
    generalize rD (m.num s p) (s.dot s) = RD at u3 u4 u8 ⊢
    generalize m.num s p = NU at HDV k3 nn u2 u7
    generalize s.dot s = S at HD1 HDV k1 u4 u6 u8 nS
    generalize V.dot V = VV at HD3 k1
    generalize V.dot s = VS at HD2 k2
    obtain ⟨px, py, pz, tm, tk, lo, hi, li, ea, la, no, mi⟩ := m
    obtain ⟨sx, sy, sz⟩ := s
    obtain ⟨qx, qy, qz⟩ := p
    obtain ⟨vx, vy, vz⟩ := V
    unfold TMod.v V3.v at *
    simp only [TMod.pl] at *
    clear hE1 h1 h2 h3 o1 o2 o3 o4 o5 n1 n2 n3 nd na nds naa hpl hpp
    have hG0 : (G : Int) ≠ 0 := by omega
    obtain ⟨W0, hW0⟩ : ∃ W0, W0 = (((w.alloc (.cells #[.int .i64 px, .int .i64 py, .int .i64 pz, .int .i64 tm, .int .i64 tk, .int .i64 lo, .int .i64 hi, .int .i64 li, .int .i64 ea, .int .i64 la, .int .i64 no, .int .i64 mi] 26)).alloc (.cells #[.int .i64 sx, .int .i64 sy, .int .i64 sz] 22)).alloc (.cells #[.int .i64 qx, .int .i64 qy, .int .i64 qz] 22)).alloc (.cells #[.int .i64 0, .int .i64 0] 37) := ⟨_, rfl⟩
    have hbW0 : Below w.heap.size w W0 := by rw [hW0]; (repeat (with_reducible first | exact Below.refl _ _ | assumption | refine Below.drewN _ ?_ | refine Below.drew ?_ | refine Below_alloc ?_ _ | refine Below.alloc ?_ (by first | (simp; done) | (simp; omega) | omega) _ | refine Below.setCell ?_ (by first | (simp; done) | (simp; omega) | omega) _ | refine Below_call ?_ (by assumption) | refine Below.trans ?_ (by assumption)))
    obtain ⟨hz0, q0, q1, q2, q3⟩ := al4 w _ _ _ _ _ _ _ _ W0 hW0
    have Q2 := hid q2
    have Q3 := hid q3
    clear q0 q1 q2 q3
    go_enter Try.func17, Try.ntmps17
    go_wp2_with (first | (go_at_call 73; rw [← hW0]; refine (HO.out _).mono ?_; rintro _ w1 ⟨rfl, hb1⟩; have hz1 := hb1.size; obtain ⟨c0, c1, c2, fc0, fc1, fc2, hl2⟩ := three_cells ((hb1.block (w.heap.size + 1 + 1) (by omega)).trans Q2.out); have hl2' : w.heap.size + 1 + 1 < w1.heap.size + 1 := Nat.lt_succ_of_lt hl2) | (go_at_call 70; obtain ⟨WB, hWB⟩ : ∃ WB, WB = (w1.alloc (.cells #[.int .i64 px, .int .i64 py, .int .i64 pz, .int .i64 tm, .int .i64 tk, .int .i64 lo, .int .i64 hi, .int .i64 li, .int .i64 ea, .int .i64 la, .int .i64 no, .int .i64 mi] 134)).alloc (.cells #[.int .i64 sx, .int .i64 sy, .int .i64 sz] 135) := ⟨_, rfl⟩; rw [← hWB]; have hbWB : Below w1.heap.size w1 WB := (by rw [hWB]; (repeat (with_reducible first | exact Below.refl _ _ | assumption | refine Below.drewN _ ?_ | refine Below.drew ?_ | refine Below_alloc ?_ _ | refine Below.alloc ?_ (by first | (simp; done) | (simp; omega) | omega) _ | refine Below.setCell ?_ (by first | (simp; done) | (simp; omega) | omega) _ | refine Below_call ?_ (by assumption) | refine Below.trans ?_ (by assumption)))); obtain ⟨r0, r1, hr0, hr1⟩ := al2 w1 _ _ _ _ WB hWB; clear hWB; refine (HM.out _).mono ?_; rintro _ w2 ⟨rfl, hb2⟩; have hb12 : Below W0.heap.size W0 w2 := (hb1.trans (hbWB.mono hz1)).trans (hb2.mono (Nat.le_trans hz1 hbWB.size)); have HB12 := hid hb12; have R0 := hid ((hb2.block w1.heap.size hr0).trans r0); have R1 := hid ((hb2.block (w1.heap.size + 1) hr1).trans r1); have hml : w1.heap.size + 1 < w2.heap.size := Nat.lt_of_lt_of_le hr1 hb2.size; clear r0 r1 c0 c1 c2 fc0 fc1 fc2 hl2 hl2'; have hbf : Below w.heap.size w w2 := hbW0.trans (hb12.mono (by have := hbW0.size; omega)); obtain ⟨g0, g1, fg0, fg1, hgl⟩ := two_cells ((hb12.block (w.heap.size + 1 + 1 + 1) (by omega)).trans Q3.out)) | (go_at_call 69; refine (HFI.out _ _ (intsAt_new _ _ _ _ _ rfl (by simp) (by first | rfl | simp))).mono ?_; rintro _ _ ⟨rfl, rfl⟩))
    obtain ⟨W3, hW3⟩ : ∃ W3, W3 = w2.alloc (.cells #[.int .i64 EB, .int .i64 EM] 30) := ⟨_, rfl⟩
    have hb23 : Below w2.heap.size w2 W3 := by rw [hW3]; (repeat (with_reducible first | exact Below.refl _ _ | assumption | refine Below.drewN _ ?_ | refine Below.drew ?_ | refine Below_alloc ?_ _ | refine Below.alloc ?_ (by first | (simp; done) | (simp; omega) | omega) _ | refine Below.setCell ?_ (by first | (simp; done) | (simp; omega) | omega) _ | refine Below_call ?_ (by assumption) | refine Below.trans ?_ (by assumption)))
    rw [← hW3]
    clear hW3 g0 g1 fg0 fg1 hgl
    have hz23 := hb23.size
    have HB03 : Hid (Below W0.heap.size W0 W3) := hid (hb12.trans (hb23.mono hb12.size))
    have x0 := (hb23.block w1.heap.size (by omega)).trans R0.out
    have x1 := (hb23.block (w1.heap.size + 1) hml).trans R1.out
    have x2 := (HB03.out.block (w.heap.size + 1 + 1) (by omega)).trans Q2.out
    obtain ⟨m0, m1, m2, m3, m4, m5, m6, m7, m8, m9, m10, m11, ml⟩ := tw_cells (x0)
    obtain ⟨s0, s1, s2, fs0, fs1, fs2, hls⟩ := three_cells x1
    obtain ⟨p0, p1, p2, fp0, fp1, fp2, hlp⟩ := three_cells x2
    have X1 := hid x1
    clear x0 x1 x2 fs0 fs1 fs2 fp0 fp1 fp2 m3 m4 m5 m6 m7 m8 m9 m10 m11 hb1 hb2 hbWB hb12 hb23
    refine wp_mixG (fun wc => Below (W3.heap.size) W3 wc) 10 [0, 1, 2, 3, 5, 6] [4, 7] 8 [.f [9]] [.q [10]] #[true, true, true, true, true, true, true, true, true, false, false] (by kernel_rfl) (by kernel_rfl) ((Below.refl _ _).drew) ?_
    intro Q' hQ'
    simp only [pick, List.drop_succ_cons, List.drop_zero, List.head?_cons, Option.toList_some, List.cons_append, List.nil_append]
    (repeat (first | go_big_quiet_skip | (go_big_quiet_want; refine quiet_simple rfl ?_; go_big_quiet_op; go_big_quiet_on) | (go_big_quiet_want; refine quiet_agg3B (ty := 22) rfl rfl (by kernel_rfl) (by assumption) (by assumption) (by assumption) (by first | omega | (simp; omega)) ?_; simp only [Act.put, List.setIfInBounds_toArray, List.set_cons_succ, List.set_cons_zero]; go_big_quiet_on) | (go_big_quiet_want; refine quiet_agg3B (ty := 135) rfl rfl (by kernel_rfl) (by assumption) (by assumption) (by assumption) (by first | omega | (simp; omega)) ?_; simp only [Act.put, List.setIfInBounds_toArray, List.set_cons_succ, List.set_cons_zero]; go_big_quiet_on)))
    (try refine wpQuiet_nil ?_)
    (rw [wpFlt])
    (refine ⟨?_, ?_⟩)
    (go_wp2_with ((go_at_call 77; refine (HMI.out _).mono ?_; rintro _ w4 ⟨rfl, hb4⟩; have hz4 : W3.heap.size ≤ w4.heap.size := (by have := hb4.size; first | exact this | (simp at this; omega)); (try (refine row_k hb4 (fun hrow => ?_); obtain ⟨f0, f1, f2, ff0, ff1, ff2, hlf⟩ := three_cells hrow)))); rw [contF]; refine ⟨?_, ?_⟩; (next => (repeat (with_reducible first | exact Below.refl _ _ | assumption | refine Below.drewN _ ?_ | refine Below.drew ?_ | refine Below_alloc ?_ _ | refine Below.alloc ?_ (by first | (simp; done) | (simp; omega) | omega) _ | refine Below.setCell ?_ (by first | (simp; done) | (simp; omega) | omega) _ | refine Below_call ?_ (by assumption) | refine Below.trans ?_ (by assumption)))))
    rotate_left
    (simp only [List.cons_append, List.nil_append])
    (rw [wpSteps]; (go_wp2_with (fail); rw [contF]; refine ⟨?_, ?_⟩; (next => (repeat (with_reducible first | exact Below.refl _ _ | assumption | refine Below.drewN _ ?_ | refine Below.drew ?_ | refine Below_alloc ?_ _ | refine Below.alloc ?_ (by first | (simp; done) | (simp; omega) | omega) _ | refine Below.setCell ?_ (by first | (simp; done) | (simp; omega) | omega) _ | refine Below_call ?_ (by assumption) | refine Below.trans ?_ (by assumption))))))
    (rw [wpSteps]; (go_wp2_with ((go_at_call 77; refine (HMI.out _).mono ?_; rintro _ w4 ⟨rfl, hb4⟩; have hz4 : W3.heap.size ≤ w4.heap.size := (by have := hb4.size; first | exact this | (simp at this; omega)); (try (refine row_k hb4 (fun hrow => ?_); obtain ⟨f0, f1, f2, ff0, ff1, ff2, hlf⟩ := three_cells hrow)))); rw [contF]; refine ⟨?_, ?_⟩; (next => (repeat (with_reducible first | exact Below.refl _ _ | assumption | refine Below.drewN _ ?_ | refine Below.drew ?_ | refine Below_alloc ?_ _ | refine Below.alloc ?_ (by first | (simp; done) | (simp; omega) | omega) _ | refine Below.setCell ?_ (by first | (simp; done) | (simp; omega) | omega) _ | refine Below_call ?_ (by assumption) | refine Below.trans ?_ (by assumption))))))
    (rw [wpSteps]; (go_wp2_with ((go_at_call 78; refine (HD1.out _).mono ?_; rintro _ w5 ⟨rfl, hb5⟩; (first | (refine row_n hb5 (fun hrow => ?_); obtain ⟨f0, f1, f2, ff0, ff1, ff2, hlf⟩ := three_cells hrow) | (have hrow' := (hb5.block _ hlf).trans hrow; clear hrow f0 f1 f2 ff0 ff1 ff2; have hrow := hrow'; obtain ⟨f0, f1, f2, ff0, ff1, ff2, hlf'⟩ := three_cells hrow) | skip))); rw [contF]; refine ⟨?_, ?_⟩; (next => (repeat (with_reducible first | exact Below.refl _ _ | assumption | refine Below.drewN _ ?_ | refine Below.drew ?_ | refine Below_alloc ?_ _ | refine Below.alloc ?_ (by first | (simp; done) | (simp; omega) | omega) _ | refine Below.setCell ?_ (by first | (simp; done) | (simp; omega) | omega) _ | refine Below_call ?_ (by assumption) | refine Below.trans ?_ (by assumption))))))
    (rw [wpSteps])
    rotate_right
    (rw [wpFlt])
    (refine ⟨?_, ?_⟩)
    (go_wp2_with ((go_at_call 78; refine (HD1.out _).mono ?_; rintro _ w5 ⟨rfl, hb5⟩; (first | (refine row_n hb5 (fun hrow => ?_); obtain ⟨f0, f1, f2, ff0, ff1, ff2, hlf⟩ := three_cells hrow) | (have hrow' := (hb5.block _ hlf).trans hrow; clear hrow f0 f1 f2 ff0 ff1 ff2; have hrow := hrow'; obtain ⟨f0, f1, f2, ff0, ff1, ff2, hlf'⟩ := three_cells hrow) | skip))); rw [contF]; refine ⟨?_, ?_⟩; (next => (repeat (with_reducible first | exact Below.refl _ _ | assumption | refine Below.drewN _ ?_ | refine Below.drew ?_ | refine Below_alloc ?_ _ | refine Below.alloc ?_ (by first | (simp; done) | (simp; omega) | omega) _ | refine Below.setCell ?_ (by first | (simp; done) | (simp; omega) | omega) _ | refine Below_call ?_ (by assumption) | refine Below.trans ?_ (by assumption)))))
    rotate_left
    (simp only [List.cons_append, List.nil_append])
    (rw [wpSteps]; (go_wp2_with (fail); rw [contF]; refine ⟨?_, ?_⟩; (next => (repeat (with_reducible first | exact Below.refl _ _ | assumption | refine Below.drewN _ ?_ | refine Below.drew ?_ | refine Below_alloc ?_ _ | refine Below.alloc ?_ (by first | (simp; done) | (simp; omega) | omega) _ | refine Below.setCell ?_ (by first | (simp; done) | (simp; omega) | omega) _ | refine Below_call ?_ (by assumption) | refine Below.trans ?_ (by assumption))))))
    (rw [wpSteps]; (go_wp2_with ((go_at_call 78; refine (HD1.out _).mono ?_; rintro _ w5 ⟨rfl, hb5⟩; (first | (refine row_n hb5 (fun hrow => ?_); obtain ⟨f0, f1, f2, ff0, ff1, ff2, hlf⟩ := three_cells hrow) | (have hrow' := (hb5.block _ hlf).trans hrow; clear hrow f0 f1 f2 ff0 ff1 ff2; have hrow := hrow'; obtain ⟨f0, f1, f2, ff0, ff1, ff2, hlf'⟩ := three_cells hrow) | skip))); rw [contF]; refine ⟨?_, ?_⟩; (next => (repeat (with_reducible first | exact Below.refl _ _ | assumption | refine Below.drewN _ ?_ | refine Below.drew ?_ | refine Below_alloc ?_ _ | refine Below.alloc ?_ (by first | (simp; done) | (simp; omega) | omega) _ | refine Below.setCell ?_ (by first | (simp; done) | (simp; omega) | omega) _ | refine Below_call ?_ (by assumption) | refine Below.trans ?_ (by assumption))))))
    (rw [wpSteps])
    rotate_right
    (rw [wpFlt, wpSteps]; (go_wp2_with (fail); rw [contF]; refine ⟨?_, ?_⟩; (next => (repeat (with_reducible first | exact Below.refl _ _ | assumption | refine Below.drewN _ ?_ | refine Below.drew ?_ | refine Below_alloc ?_ _ | refine Below.alloc ?_ (by first | (simp; done) | (simp; omega) | omega) _ | refine Below.setCell ?_ (by first | (simp; done) | (simp; omega) | omega) _ | refine Below_call ?_ (by assumption) | refine Below.trans ?_ (by assumption))))))
    (rw [wpSteps])
    all_goals (rw [wpMixC]; simp only [pick, List.drop_succ_cons, List.drop_zero, List.head?_cons, Option.toList_some, List.cons_append, List.nil_append])
    all_goals (rw [wpSteps]; (go_wp2_with (fail); rw [contF]; refine ⟨?_, ?_⟩; (next => (repeat (with_reducible first | exact Below.refl _ _ | assumption | refine Below.drewN _ ?_ | refine Below.drew ?_ | refine Below_alloc ?_ _ | refine Below.alloc ?_ (by first | (simp; done) | (simp; omega) | omega) _ | refine Below.setCell ?_ (by first | (simp; done) | (simp; omega) | omega) _ | refine Below_call ?_ (by assumption) | refine Below.trans ?_ (by assumption))))))
    all_goals (rw [wpSteps])
    all_goals (rw [wpMixC])
    all_goals (rw [wpMix]; simp only [pick, List.drop_succ_cons, List.drop_zero, List.head?_cons, Option.toList_some, List.cons_append, List.nil_append])
    all_goals (repeat (first | (go_big_quiet_step (fail)) | (quiet_step (fail))))
    all_goals (try refine wpQuiet_nil ?_)
    all_goals (rw [wpMix])
    all_goals (refine hQ' _ _ ?_)
    all_goals first
    | (have hb45 : Below W3.heap.size W3 w5 := by (repeat (with_reducible first | exact Below.refl _ _ | assumption | refine Below.drewN _ ?_ | refine Below.drew ?_ | refine Below_alloc ?_ _ | refine Below.alloc ?_ (by first | (simp; done) | (simp; omega) | omega) _ | refine Below.setCell ?_ (by first | (simp; done) | (simp; omega) | omega) _ | refine Below_call ?_ (by assumption) | refine Below.trans ?_ (by assumption)))
       obtain ⟨W, hW⟩ : ∃ W, W = w5.alloc (.cells #[.int .i64 vx, .int .i64 vy, .int .i64 vz] 135) := ⟨_, rfl⟩
       have hrow : W.heap[w5.heap.size]? = some (.cells #[.int .i64 vx, .int .i64 vy, .int .i64 vz] 135 (0, 0)) := by rw [hW]; exact heap_alloc_new w5 _
       have hbb : Below W3.heap.size W3 W := by rw [hW]; (repeat (with_reducible first | exact Below.refl _ _ | assumption | refine Below.drewN _ ?_ | refine Below.drew ?_ | refine Below_alloc ?_ _ | refine Below.alloc ?_ (by first | (simp; done) | (simp; omega) | omega) _ | refine Below.setCell ?_ (by first | (simp; done) | (simp; omega) | omega) _ | refine Below_call ?_ (by assumption) | refine Below.trans ?_ (by assumption)))
       rw [← hW]
       obtain ⟨g, hg⟩ : ∃ g, g = w5.heap.size := ⟨_, rfl⟩
       rw [← hg] at hrow ⊢
       clear hW)
    | (have hb45 : Below W3.heap.size W3 w5 := by (repeat (with_reducible first | exact Below.refl _ _ | assumption | refine Below.drewN _ ?_ | refine Below.drew ?_ | refine Below_alloc ?_ _ | refine Below.alloc ?_ (by first | (simp; done) | (simp; omega) | omega) _ | refine Below.setCell ?_ (by first | (simp; done) | (simp; omega) | omega) _ | refine Below_call ?_ (by assumption) | refine Below.trans ?_ (by assumption)))
       obtain ⟨W, hW⟩ : ∃ W, W = ((w5.setCell ⟨w4.heap.size, 0, none⟩ (.int .i64 vx)).setCell ⟨w4.heap.size, 1, none⟩ (.int .i64 vy)).setCell ⟨w4.heap.size, 2, none⟩ (.int .i64 vz) := ⟨_, rfl⟩
       have hrow : W.heap[w4.heap.size]? = some (.cells #[.int .i64 vx, .int .i64 vy, .int .i64 vz] 135 (0, 0)) := by rw [hW]; exact heap_setCell_same _ _ 2 _ _ (.int .i64 vz) (heap_setCell_same _ _ 1 _ _ (.int .i64 vy) (heap_setCell_same _ _ 0 _ _ (.int .i64 vx) hrow))
       have hbb : Below W3.heap.size W3 W := by rw [hW]; (repeat (with_reducible first | exact Below.refl _ _ | assumption | refine Below.drewN _ ?_ | refine Below.drew ?_ | refine Below_alloc ?_ _ | refine Below.alloc ?_ (by first | (simp; done) | (simp; omega) | omega) _ | refine Below.setCell ?_ (by first | (simp; done) | (simp; omega) | omega) _ | refine Below_call ?_ (by assumption) | refine Below.trans ?_ (by assumption)))
       rw [← hW]
       obtain ⟨g, hg⟩ : ∃ g, g = w4.heap.size := ⟨_, rfl⟩
       rw [← hg] at hrow ⊢
       clear hW)
    | (have hb45 : Below W3.heap.size W3 w5 := by (repeat (with_reducible first | exact Below.refl _ _ | assumption | refine Below.drewN _ ?_ | refine Below.drew ?_ | refine Below_alloc ?_ _ | refine Below.alloc ?_ (by first | (simp; done) | (simp; omega) | omega) _ | refine Below.setCell ?_ (by first | (simp; done) | (simp; omega) | omega) _ | refine Below_call ?_ (by assumption) | refine Below.trans ?_ (by assumption)))
       obtain ⟨W, hW⟩ : ∃ W, W = ((w5.setCell ⟨W3.heap.size, 0, none⟩ (.int .i64 vx)).setCell ⟨W3.heap.size, 1, none⟩ (.int .i64 vy)).setCell ⟨W3.heap.size, 2, none⟩ (.int .i64 vz) := ⟨_, rfl⟩
       have hrow : W.heap[W3.heap.size]? = some (.cells #[.int .i64 vx, .int .i64 vy, .int .i64 vz] 135 (0, 0)) := by rw [hW]; exact heap_setCell_same _ _ 2 _ _ (.int .i64 vz) (heap_setCell_same _ _ 1 _ _ (.int .i64 vy) (heap_setCell_same _ _ 0 _ _ (.int .i64 vx) hrow))
       have hbb : Below W3.heap.size W3 W := by rw [hW]; (repeat (with_reducible first | exact Below.refl _ _ | assumption | refine Below.drewN _ ?_ | refine Below.drew ?_ | refine Below_alloc ?_ _ | refine Below.alloc ?_ (by first | (simp; done) | (simp; omega) | omega) _ | refine Below.setCell ?_ (by first | (simp; done) | (simp; omega) | omega) _ | refine Below_call ?_ (by assumption) | refine Below.trans ?_ (by assumption)))
       rw [← hW]
       obtain ⟨g, hg⟩ : ∃ g, g = W3.heap.size := ⟨_, rfl⟩
       rw [← hg] at hrow ⊢
       clear hW)
    all_goals
      clear hg
      have x1 := (hbb.block (w1.heap.size + 1) hls).trans X1.out
      clear m0 m1 m2 p0 p1 p2 s0 s1 s2 hls hlp
      obtain ⟨s0, s1, s2, fs0, fs1, fs2, hls⟩ := three_cells x1
      obtain ⟨v0, v1, v2, fv0, fv1, fv2, hlg⟩ := three_cells hrow
      clear x1 fs0 fs1 fs2 fv0 fv1 fv2
      go_wp2_with fail
      have HBB := hid hbb
      have HX : Hid (Below W0.heap.size W0 W) := hid (HB03.out.trans (hbb.mono HB03.out.size))
      refine wp_mixC (fun wc => Below (W.heap.size) W wc) 13 [.q [0, 1, 3, 5, 6, 8, 9], .f [2], .q [4], .f [7, 10], .q [11, 12]] [.q [13]] (by kernel_rfl) (by kernel_rfl) ((Below.refl _ _).drew) ?_
      intro Q' hQ'
      (rw [wpMixC]; simp only [pick, List.drop_succ_cons, List.drop_zero, List.head?_cons, Option.toList_some, List.cons_append, List.nil_append])
      (repeat (first | go_big_quiet_skip | (go_big_quiet_want; refine quiet_simple rfl ?_; go_big_quiet_op; go_big_quiet_on) | (go_big_quiet_want; refine quiet_agg3B (ty := 135) rfl rfl (by kernel_rfl) (by assumption) (by assumption) (by assumption) (by first | omega | (simp; omega)) ?_; simp only [Act.put, List.setIfInBounds_toArray, List.set_cons_succ, List.set_cons_zero]; go_big_quiet_on)))
      (try refine wpQuiet_nil ?_)
      (rw [wpMixC]; simp only [pick, List.drop_succ_cons, List.drop_zero, List.head?_cons, Option.toList_some, List.cons_append, List.nil_append])
      (rw [wpSteps]; go_wp2_with ((first | (go_at_call 78; ((with_reducible refine (HD3.out _).mono ?_); rintro _ w6 ⟨rfl, hb6⟩)) | (go_at_call 78; ((with_reducible refine (HD2.out _).mono ?_); rintro _ w7 ⟨rfl, hb7⟩)))); rw [contF]; refine ⟨?_, ?_⟩; (next => (repeat (with_reducible first | exact Below.refl _ _ | assumption | refine Below.drewN _ ?_ | refine Below.drew ?_ | refine Below_alloc ?_ _ | refine Below.alloc ?_ (by first | (simp; done) | (simp; omega) | omega) _ | refine Below.setCell ?_ (by first | (simp; done) | (simp; omega) | omega) _ | refine Below_call ?_ (by assumption) | refine Below.trans ?_ (by assumption)))))
      (rw [wpSteps])
      (rw [wpMixC]; simp only [pick, List.drop_succ_cons, List.drop_zero, List.head?_cons, Option.toList_some, List.cons_append, List.nil_append])
      (repeat (first | go_big_quiet_skip | (go_big_quiet_want; refine quiet_simple rfl ?_; go_big_quiet_op; go_big_quiet_on) | (go_big_quiet_want; refine quiet_agg3B (ty := 135) rfl rfl (by kernel_rfl) (by assumption) (by assumption) (by assumption) (by first | omega | (simp; omega)) ?_; simp only [Act.put, List.setIfInBounds_toArray, List.set_cons_succ, List.set_cons_zero]; go_big_quiet_on)))
      (try refine wpQuiet_nil ?_)
      (rw [wpMixC]; simp only [pick, List.drop_succ_cons, List.drop_zero, List.head?_cons, Option.toList_some, List.cons_append, List.nil_append])
      (rw [wpSteps]; go_wp2_with ((first | (go_at_call 78; ((with_reducible refine (HD3.out _).mono ?_); rintro _ w6 ⟨rfl, hb6⟩)) | (go_at_call 78; ((with_reducible refine (HD2.out _).mono ?_); rintro _ w7 ⟨rfl, hb7⟩)))); rw [contF]; refine ⟨?_, ?_⟩; (next => (repeat (with_reducible first | exact Below.refl _ _ | assumption | refine Below.drewN _ ?_ | refine Below.drew ?_ | refine Below_alloc ?_ _ | refine Below.alloc ?_ (by first | (simp; done) | (simp; omega) | omega) _ | refine Below.setCell ?_ (by first | (simp; done) | (simp; omega) | omega) _ | refine Below_call ?_ (by assumption) | refine Below.trans ?_ (by assumption)))))
      (rw [wpSteps]; go_wp2_with ((first | (go_at_call 78; ((with_reducible refine (HD3.out _).mono ?_); rintro _ w6 ⟨rfl, hb6⟩)) | (go_at_call 78; ((with_reducible refine (HD2.out _).mono ?_); rintro _ w7 ⟨rfl, hb7⟩)))); rw [contF]; refine ⟨?_, ?_⟩; (next => (repeat (with_reducible first | exact Below.refl _ _ | assumption | refine Below.drewN _ ?_ | refine Below.drew ?_ | refine Below_alloc ?_ _ | refine Below.alloc ?_ (by first | (simp; done) | (simp; omega) | omega) _ | refine Below.setCell ?_ (by first | (simp; done) | (simp; omega) | omega) _ | refine Below_call ?_ (by assumption) | refine Below.trans ?_ (by assumption)))))
      (rw [wpSteps])
      (rw [wpMixC]; simp only [pick, List.drop_succ_cons, List.drop_zero, List.head?_cons, Option.toList_some, List.cons_append, List.nil_append])
      (repeat (first | go_big_quiet_skip | (go_big_quiet_want; refine quiet_simple rfl ?_; go_big_quiet_op; go_big_quiet_on) | (go_big_quiet_want; refine quiet_agg3B (ty := 135) rfl rfl (by kernel_rfl) (by assumption) (by assumption) (by assumption) (by first | omega | (simp; omega)) ?_; simp only [Act.put, List.setIfInBounds_toArray, List.set_cons_succ, List.set_cons_zero]; go_big_quiet_on)))
      (try refine wpQuiet_nil ?_)
      (rw [wpMixC])
      (rw [wpMix]; simp only [pick, List.drop_succ_cons, List.drop_zero, List.head?_cons, Option.toList_some, List.cons_append, List.nil_append])
      (repeat (first | (go_big_quiet_step (fail)) | (quiet_step (fail))))
      (try refine wpQuiet_nil ?_)
      (rw [wpMix])
      (refine hQ' _ _ ?_)
      by_cases hN : RN ≤ 1000000000
      · have HN := hid hN
        have hN2 : ¬ 1000000000 < RN := by omega
        go_wp2_with (go_at_call 79; refine (HDV.out _).mono ?_; rintro _ w8 ⟨rfl, hb8⟩)
        have hb8' : Below W.heap.size W w8 := by (repeat (with_reducible first | exact Below.refl _ _ | assumption | refine Below.drewN _ ?_ | refine Below.drew ?_ | refine Below_alloc ?_ _ | refine Below.alloc ?_ (by first | (simp; done) | (simp; omega) | omega) _ | refine Below.setCell ?_ (by first | (simp; done) | (simp; omega) | omega) _ | refine Below_call ?_ (by assumption) | refine Below.trans ?_ (by assumption)))
        have hbe : Below W0.heap.size W0 w8 := HX.out.trans (hb8'.mono HX.out.size)
        have hbE : Below w.heap.size w w8 := hbW0.trans (hbe.mono (by omega))
        have y3 := (hbe.block (w.heap.size + 1 + 1 + 1) (by omega)).trans Q3.out
        obtain ⟨g0, g1, fg0, fg1, hgl⟩ := two_cells y3
        clear y3 hb8' hbe hb6 hb7 hb8
        refine wp_mixC (fun wc => Below ((w.heap.size)) w8 wc) 7 [.q [0, 1, 2, 3, 4, 5, 6]] [.f [7], .q [8]] (by kernel_rfl) (by kernel_rfl) ((Below.refl _ _).drew) ?_
        intro Q' hQ'
        (rw [wpMixC]; simp only [pick, List.drop_succ_cons, List.drop_zero, List.head?_cons, Option.toList_some, List.cons_append, List.nil_append])
        (repeat (first | go_big_quiet_skip | (go_big_quiet_want; refine quiet_simple rfl ?_; go_big_quiet_op; go_big_quiet_on)))
        (try refine wpQuiet_nil ?_)
        (rw [wpMixC])
        (rw [wpMix]; simp only [pick, List.drop_succ_cons, List.drop_zero, List.head?_cons, Option.toList_some, List.cons_append, List.nil_append])
        (go_wp2_with ((first | fail)); rw [contF])
        (rw [wpMix]; simp only [pick, List.drop_succ_cons, List.drop_zero, List.head?_cons, Option.toList_some, List.cons_append, List.nil_append])
        (repeat (first | (go_big_quiet_step (fail)) | (quiet_step (fail))))
        (try refine wpQuiet_nil ?_)
        (rw [wpMix])
        (refine hQ' _ _ ?_)
        go_wp2_with fail
        ((try simp only [Exit.inBlock, Exit.then]); refine bodyPost_ret (v := .tuple #[.agg #[.int .i64 RN, .int .i64 RD], .int .i64 0]) ?_ rfl ?_; (next => simp [results, Try.results17, go_sem, hgl, g0, g1]))
        refine ⟨?_, ?_, ?_, by (repeat (with_reducible first | exact Below.refl _ _ | assumption | refine Below.drewN _ ?_ | refine Below.drew ?_ | refine Below_alloc ?_ _ | refine Below.alloc ?_ (by first | (simp; done) | (simp; omega) | omega) _ | refine Below.setCell ?_ (by first | (simp; done) | (simp; omega) | omega) _ | refine Below_call ?_ (by assumption) | refine Below.trans ?_ (by assumption)))⟩
        all_goals (intros; first | rfl | (exfalso; have hx := H1.out; have hy := HN.out; omega))
      · have HN := hid hN
        have hN2 : 1000000000 < RN := by omega
        go_wp2_with (go_at_call 79; refine (HDV.out _).mono ?_; rintro _ w8 ⟨rfl, hb8⟩; have hb8' : Below W.heap.size W w8 := (by (repeat (with_reducible first | exact Below.refl _ _ | assumption | refine Below.drewN _ ?_ | refine Below.drew ?_ | refine Below_alloc ?_ _ | refine Below.alloc ?_ (by first | (simp; done) | (simp; omega) | omega) _ | refine Below.setCell ?_ (by first | (simp; done) | (simp; omega) | omega) _ | refine Below_call ?_ (by assumption) | refine Below.trans ?_ (by assumption)))); have hbe : Below W0.heap.size W0 w8 := HX.out.trans (hb8'.mono HX.out.size); have hbE : Below w.heap.size w w8 := hbW0.trans (hbe.mono (by omega)); have y3 := (hbe.block (w.heap.size + 1 + 1 + 1) (by omega)).trans Q3.out; obtain ⟨g0, g1, fg0, fg1, hgl⟩ := two_cells y3; clear y3 hb8' hbe hb6 hb7 hb8)
        ((try simp only [Exit.inBlock, Exit.then]); refine bodyPost_ret (v := .tuple #[.agg #[.int .i64 0, .int .i64 0], .int .i64 8]) ?_ rfl ?_; (next => simp [results, Try.results17, go_sem, hgl, g0, g1]))
        refine ⟨?_, ?_, ?_, by (repeat (with_reducible first | exact Below.refl _ _ | assumption | refine Below.drewN _ ?_ | refine Below.drew ?_ | refine Below_alloc ?_ _ | refine Below.alloc ?_ (by first | (simp; done) | (simp; omega) | omega) _ | refine Below.setCell ?_ (by first | (simp; done) | (simp; omega) | omega) _ | refine Below_call ?_ (by assumption) | refine Below.trans ?_ (by assumption)))⟩
        all_goals (intros; first | rfl | (exfalso; have hx := H1.out; have hy := HN.out; omega))
  · have hne : (firstNZ [m.both s, plE p] != 0) = true := by simpa using h1
    have HN := hid h1
    clear h1
    generalize firstNZ [m.both s, plE p] = E1 at HFI HN hne ⊢
    generalize m.both s = EB at HO HFI
    generalize plE p = EM at HM HFI
    generalize rN (m.num s p) (s.dot s) = RN
    generalize rD (m.num s p) (s.dot s) = RD
    obtain ⟨px, py, pz, tm, tk, lo, hi, li, ea, la, no, mi⟩ := m
    obtain ⟨sx, sy, sz⟩ := s
    obtain ⟨qx, qy, qz⟩ := p
    unfold TMod.v V3.v at *
    simp only at *
    obtain ⟨W0, hW0⟩ : ∃ W0, W0 = (((w.alloc (.cells #[.int .i64 px, .int .i64 py, .int .i64 pz, .int .i64 tm, .int .i64 tk, .int .i64 lo, .int .i64 hi, .int .i64 li, .int .i64 ea, .int .i64 la, .int .i64 no, .int .i64 mi] 26)).alloc (.cells #[.int .i64 sx, .int .i64 sy, .int .i64 sz] 22)).alloc (.cells #[.int .i64 qx, .int .i64 qy, .int .i64 qz] 22)).alloc (.cells #[.int .i64 0, .int .i64 0] 37) := ⟨_, rfl⟩
    have hbW0 : Below w.heap.size w W0 := by rw [hW0]; (repeat (with_reducible first | exact Below.refl _ _ | assumption | refine Below.drewN _ ?_ | refine Below.drew ?_ | refine Below_alloc ?_ _ | refine Below.alloc ?_ (by first | (simp; done) | (simp; omega) | omega) _ | refine Below.setCell ?_ (by first | (simp; done) | (simp; omega) | omega) _ | refine Below_call ?_ (by assumption) | refine Below.trans ?_ (by assumption)))
    obtain ⟨hz0, q0, q1, q2, q3⟩ := al4 w _ _ _ _ _ _ _ _ W0 hW0
    have Q2 := hid q2
    have Q3 := hid q3
    clear q0 q1 q2 q3
    go_enter Try.func17, Try.ntmps17
    go_wp2_with (first | (go_at_call 73; rw [← hW0]; refine (HO.out _).mono ?_; rintro _ w1 ⟨rfl, hb1⟩; have hz1 := hb1.size; obtain ⟨c0, c1, c2, fc0, fc1, fc2, hl2⟩ := three_cells ((hb1.block (w.heap.size + 1 + 1) (by omega)).trans Q2.out); have hl2' : w.heap.size + 1 + 1 < w1.heap.size + 1 := Nat.lt_succ_of_lt hl2) | (go_at_call 70; obtain ⟨WB, hWB⟩ : ∃ WB, WB = (w1.alloc (.cells #[.int .i64 px, .int .i64 py, .int .i64 pz, .int .i64 tm, .int .i64 tk, .int .i64 lo, .int .i64 hi, .int .i64 li, .int .i64 ea, .int .i64 la, .int .i64 no, .int .i64 mi] 134)).alloc (.cells #[.int .i64 sx, .int .i64 sy, .int .i64 sz] 135) := ⟨_, rfl⟩; rw [← hWB]; have hbWB : Below w1.heap.size w1 WB := (by rw [hWB]; (repeat (with_reducible first | exact Below.refl _ _ | assumption | refine Below.drewN _ ?_ | refine Below.drew ?_ | refine Below_alloc ?_ _ | refine Below.alloc ?_ (by first | (simp; done) | (simp; omega) | omega) _ | refine Below.setCell ?_ (by first | (simp; done) | (simp; omega) | omega) _ | refine Below_call ?_ (by assumption) | refine Below.trans ?_ (by assumption)))); obtain ⟨r0, r1, hr0, hr1⟩ := al2 w1 _ _ _ _ WB hWB; clear hWB; refine (HM.out _).mono ?_; rintro _ w2 ⟨rfl, hb2⟩; have hb12 : Below W0.heap.size W0 w2 := (hb1.trans (hbWB.mono hz1)).trans (hb2.mono (Nat.le_trans hz1 hbWB.size)); have HB12 := hid hb12; have R0 := hid ((hb2.block w1.heap.size hr0).trans r0); have R1 := hid ((hb2.block (w1.heap.size + 1) hr1).trans r1); have hml : w1.heap.size + 1 < w2.heap.size := Nat.lt_of_lt_of_le hr1 hb2.size; clear r0 r1 c0 c1 c2 fc0 fc1 fc2 hl2 hl2'; have hbf : Below w.heap.size w w2 := hbW0.trans (hb12.mono (by have := hbW0.size; omega)); obtain ⟨g0, g1, fg0, fg1, hgl⟩ := two_cells ((hb12.block (w.heap.size + 1 + 1 + 1) (by omega)).trans Q3.out)) | (go_at_call 69; refine (HFI.out _ _ (intsAt_new _ _ _ _ _ rfl (by simp) (by first | rfl | simp))).mono ?_; rintro _ _ ⟨rfl, rfl⟩))
    ((try simp only [Exit.inBlock, Exit.then]); refine bodyPost_ret (v := .tuple #[.agg #[.int .i64 0, .int .i64 0], .int .i64 E1]) ?_ rfl ?_; (next => simp [results, Try.results17, go_sem, hgl, g0, g1]))
    exact ⟨fun h => absurd h HN.out, fun h => absurd h HN.out, fun _ => rfl, by (repeat (with_reducible first | exact Below.refl _ _ | assumption | refine Below.drewN _ ?_ | refine Below.drew ?_ | refine Below_alloc ?_ _ | refine Below.alloc ?_ (by first | (simp; done) | (simp; omega) | omega) _ | refine Below.setCell ?_ (by first | (simp; done) | (simp; omega) | omega) _ | refine Below_call ?_ (by assumption) | refine Below.trans ?_ (by assumption)))⟩
end Go.Proofs.Ytlmdmpjfehpjeaa

/- Tracks: the examples of the document hold. -/
set_option linter.unusedVariables false
set_option linter.unusedSimpArgs false
namespace Go.Proofs.Ytlmdmpjfehpjeaa
open Go.RowKit

def exM : TMod := ⟨0, 0, 0, 0, 1, 25, 50, 9, 0, 0, 1, 2⟩
def exS : V3 := ⟨5, 0, 0⟩
def exB : TBox := ⟨⟨5, 0, 0⟩, ⟨5, 0, 0⟩⟩
def exH : List THit := [⟨⟨0, 12, 0⟩, 4, 1⟩, ⟨⟨5, 0, 0⟩, 0, 3⟩]
theorem ex_both : exM.both exS = 0 := by decide
theorem ex_ok : exM.Ok ∧ exS.inS 20 = true ∧ exM.permit exS ∧ exM.slow < exS.dot exS := both_ok ex_both
theorem ex_first : exM.first exS ⟨0, 12, 0⟩ = 4 := by
  have h := reached_iff exM exS ⟨0, 12, 0⟩ ex_ok.1.slp ex_ok.2.2.2 (n := 4) (by decide) (by decide)
  exact first_of exM exS ⟨0, 12, 0⟩ h (by decide) (by decide)
theorem ex_near : rN (exM.num exS ⟨7, 12, 0⟩) (exS.dot exS) = 144 ∧ rD (exM.num exS ⟨7, 12, 0⟩) (exS.dot exS) = 1 := by
  have e1 : exM.num exS ⟨7, 12, 0⟩ = 3600 := by decide
  have e2 : exS.dot exS = 25 := by decide
  rw [e1, e2]; exact ⟨by decide, by decide⟩
theorem ex_score : exM.score exS exH = 6 := by decide
theorem ex_hits : hitsE exH = 0 := by decide
theorem ex_in : exM.inE exB exH = 0 := by decide
theorem ex_scores : (exM.scores exB exH).lo = 6 ∧ (exM.scores exB exH).hi = 6 := ⟨by decide, by decide⟩

set_option maxRecDepth 100000 in
set_option maxHeartbeats 4000000 in
theorem law_Model (w : World) : Calls Try.prog 66 #[] w fun e w' => e = .returned exM.v ∧ Below w.heap.size w w' := by
  have HV : Hid (exM.v = .agg #[.int .i64 0, .int .i64 0, .int .i64 0, .int .i64 0, .int .i64 1, .int .i64 25, .int .i64 50, .int .i64 9, .int .i64 0, .int .i64 0, .int .i64 1, .int .i64 2]) := hid rfl
  generalize exM.v = V at HV ⊢
  go_enter Try.func66, Try.ntmps66
  go_wp2_with fail
  ((try simp only [Exit.inBlock, Exit.then]); refine bodyPost_ret (v := .agg #[.int .i64 0, .int .i64 0, .int .i64 0, .int .i64 0, .int .i64 1, .int .i64 25, .int .i64 50, .int .i64 9, .int .i64 0, .int .i64 0, .int .i64 1, .int .i64 2]) ?_ rfl ?_; (next => simp [results, Try.results66, go_sem]))
  exact ⟨by rw [HV.out], by (repeat (with_reducible first | exact Below.refl _ _ | assumption | refine Below.drewN _ ?_ | refine Below.drew ?_ | refine Below_alloc ?_ _ | refine Below.alloc ?_ (by first | (simp; done) | (simp; omega) | omega) _ | refine Below.setCell ?_ (by first | (simp; done) | (simp; omega) | omega) _ | refine Below_call ?_ (by assumption) | refine Below.trans ?_ (by assumption)))⟩
theorem hits_new (w : World) (t : TypeId) : HitsAt (w.alloc (.cells #[.int .i64 0, .int .i64 12, .int .i64 0, .int .i64 4, .int .i64 1, .int .i64 5, .int .i64 0, .int .i64 0, .int .i64 0, .int .i64 3] t)) (.slice (some ⟨w.heap.size, 0, none⟩) 2 2) exH := by
  have q := heap_alloc_new w (.cells #[.int .i64 0, .int .i64 12, .int .i64 0, .int .i64 4, .int .i64 1, .int .i64 5, .int .i64 0, .int .i64 0, .int .i64 0, .int .i64 3] t)
  refine ⟨_, _, rfl, Nat.le_refl _, by simp [maxLen], fun _ => ⟨w.heap.size, 0, rfl, by simp, fun i j hi hj => ?_⟩, fun h => by cases h⟩
  rw [cell_of_row _ _ _ _ _ (0, 0) q]
  have hi2 : i < 2 := hi
  rcases (by omega : i = 0 ∨ i = 1) with rfl | rfl
  all_goals rcases (by omega : j = 0 ∨ j = 1 ∨ j = 2 ∨ j = 3 ∨ j = 4) with rfl | rfl | rfl | rfl | rfl
  all_goals rfl
set_option maxRecDepth 100000 in
set_option maxHeartbeats 4000000 in
theorem law_Hits (w : World) : Calls Try.prog 67 #[] w fun e w' => ∃ ao cap, e = .returned (.slice ao 2 cap) ∧ HitsAt w' (.slice ao 2 cap) exH ∧ Below w.heap.size w w' := by
  have HV := hid (hits_new w 92)
  generalize exH = L at HV ⊢
  go_enter Try.func67, Try.ntmps67
  go_wp2_with fail
  ((try simp only [Exit.inBlock, Exit.then]); refine bodyPost_ret (v := .slice (some ⟨w.heap.size, 0, none⟩) 2 2) ?_ rfl ?_; (next => simp [results, Try.results67, go_sem]))
  exact ⟨_, _, rfl, HV.out, by (repeat (with_reducible first | exact Below.refl _ _ | assumption | refine Below.drewN _ ?_ | refine Below.drew ?_ | refine Below_alloc ?_ _ | refine Below.alloc ?_ (by first | (simp; done) | (simp; omega) | omega) _ | refine Below.setCell ?_ (by first | (simp; done) | (simp; omega) | omega) _ | refine Below_call ?_ (by assumption) | refine Below.trans ?_ (by assumption)))⟩
set_option maxRecDepth 100000 in
set_option maxHeartbeats 8000000 in
theorem law_awake5 (w : World) : Calls Try.prog 13 #[] w fun e w' => e = .returned (.bool true) ∧ Below w.heap.size w w' := by
  have e0 : firstNZ [exM.both exS, plE ⟨0, 12, 0⟩] = 0 := by decide
  have e1 : firstNZ [exM.both exS, plE ⟨7, 12, 0⟩] = 0 := by decide
  have e2 : firstNZ [exM.both exS, hitsE exH] = 0 := by rw [ex_both, ex_hits]; rfl
  have HM := hid law_Model
  have HH := hid law_Hits
  have HF : Hid (∀ W, Calls Try.prog 16 #[exM.v, .agg #[.int .i64 5, .int .i64 0, .int .i64 0], .agg #[.int .i64 0, .int .i64 12, .int .i64 0]] W fun e w' => e = .returned (.tuple #[.int .i64 4, .int .i64 0]) ∧ Below W.heap.size W w') := hid (fun W => by
    refine (track_FirstAt exM exS ⟨0, 12, 0⟩ W).mono ?_
    rintro e w' ⟨h1, _, _, h4⟩
    rw [ex_first] at h1
    exact ⟨h1 e0 (by decide), h4⟩)
  have HN : Hid (∀ W, Calls Try.prog 17 #[exM.v, .agg #[.int .i64 5, .int .i64 0, .int .i64 0], .agg #[.int .i64 7, .int .i64 12, .int .i64 0]] W fun e w' => e = .returned (.tuple #[.agg #[.int .i64 144, .int .i64 1], .int .i64 0]) ∧ Below W.heap.size W w') := hid (fun W => by
    refine (track_NearestTo exM exS ⟨7, 12, 0⟩ W).mono ?_
    rintro e w' ⟨h1, _, _, h4⟩
    rw [ex_near.1, ex_near.2] at h1
    exact ⟨h1 e1 (by decide), h4⟩)
  have HS : Hid (∀ v W, HitsAt W v exH → Calls Try.prog 32 #[exM.v, .agg #[.int .i64 5, .int .i64 0, .int .i64 0], v] W fun e w' => e = .returned (.tuple #[.int .i64 6, .int .i64 0]) ∧ Below W.heap.size W w') := hid (fun v W h => by
    refine (track_ScoreOf exM exS exH v W h).mono ?_
    rintro e w' ⟨h1, _, h4⟩
    rw [ex_score] at h1
    exact ⟨h1 e2, h4⟩)
  have HI : Hid (∀ v W, HitsAt W v exH → Calls Try.prog 38 #[exM.v, .agg #[.int .i64 5, .int .i64 0, .int .i64 0, .int .i64 5, .int .i64 0, .int .i64 0], v] W fun e w' => e = .returned (.tuple #[.agg #[.int .i64 6, .int .i64 6], .int .i64 0]) ∧ Below W.heap.size W w') := hid (fun v W h => by
    refine (track_ScoresIn exM exB exH v W h (by decide) (by decide)).mono ?_
    rintro e w' ⟨h1, _, h4⟩
    have h5 := h1 ex_in
    unfold Rg.v at h5
    rw [ex_scores.1, ex_scores.2] at h5
    exact ⟨h5, h4⟩)
  have hVM : Hid (exM.v = .agg #[.int .i64 0, .int .i64 0, .int .i64 0, .int .i64 0, .int .i64 1, .int .i64 25, .int .i64 50, .int .i64 9, .int .i64 0, .int .i64 0, .int .i64 1, .int .i64 2]) := hid rfl
  rw [hVM.out] at HF HN HS HI
  have HM' : Hid (∀ W, Calls Try.prog 66 #[] W fun e w' => e = .returned (.agg #[.int .i64 0, .int .i64 0, .int .i64 0, .int .i64 0, .int .i64 1, .int .i64 25, .int .i64 50, .int .i64 9, .int .i64 0, .int .i64 0, .int .i64 1, .int .i64 2]) ∧ Below W.heap.size W w') := hid (by rw [← hVM.out]; exact law_Model)
  generalize exH = L at HH HS HI
  clear e0 e1 e2 HM hVM
  go_enter Try.func13, Try.ntmps13
  go_wp2_with fail
  refine (HM'.out _).mono ?_
  rintro _ w1 ⟨rfl, hb1⟩
  go_wp2_with fail
  refine (HF.out _).mono ?_
  rintro _ w2 ⟨rfl, hb2⟩
  go_wp2_with fail
  refine (HM'.out _).mono ?_
  rintro _ w3 ⟨rfl, hb3⟩
  go_wp2_with fail
  refine (HN.out _).mono ?_
  rintro _ w4 ⟨rfl, hb4⟩
  obtain ⟨X, hX⟩ : ∃ X, X = w4.alloc (.cells #[.int .i64 144, .int .i64 1] 37) := ⟨_, rfl⟩
  have hb04 : Below w.heap.size w w4 := by (repeat (with_reducible first | exact Below.refl _ _ | assumption | refine Below.drewN _ ?_ | refine Below.drew ?_ | refine Below_alloc ?_ _ | refine Below.alloc ?_ (by first | (simp; done) | (simp; omega) | omega) _ | refine Below.setCell ?_ (by first | (simp; done) | (simp; omega) | omega) _ | refine Below_call ?_ (by assumption) | refine Below.trans ?_ (by assumption)))
  have hbX : Below w4.heap.size w4 X := by rw [hX]; (repeat (with_reducible first | exact Below.refl _ _ | assumption | refine Below.drewN _ ?_ | refine Below.drew ?_ | refine Below_alloc ?_ _ | refine Below.alloc ?_ (by first | (simp; done) | (simp; omega) | omega) _ | refine Below.setCell ?_ (by first | (simp; done) | (simp; omega) | omega) _ | refine Below_call ?_ (by assumption) | refine Below.trans ?_ (by assumption)))
  have RX := hid (show X.heap[w4.heap.size]? = some (.cells #[.int .i64 144, .int .i64 1] 37 (0, 0)) by rw [hX]; exact heap_alloc_new w4 _)
  have hlX := (Array.getElem?_eq_some_iff.1 RX.out).1
  have HB0X := hid (hb04.trans (hbX.mono hb04.size))
  clear hb1 hb2 hb3 hb4 hb04
  go_wp2_with fail
  rw [← hX]
  clear hX
  refine (HM'.out _).mono ?_
  rintro _ w5 ⟨rfl, hb5⟩
  go_wp2_with fail
  refine (HH.out _).mono ?_
  rintro _ w6 ⟨ao, cap, rfl, hv, hb6⟩
  have HV := hid hv
  clear hv
  go_wp2_with fail
  refine (HS.out _ _ HV.out).mono ?_
  rintro _ w7 ⟨rfl, hb7⟩
  go_wp2_with fail
  refine (HM'.out _).mono ?_
  rintro _ w8 ⟨rfl, hb8⟩
  go_wp2_with fail
  refine (HH.out _).mono ?_
  rintro _ w9 ⟨ao2, cap2, rfl, hv, hb9⟩
  have HV2 := hid hv
  clear hv
  go_wp2_with fail
  refine (HI.out _ _ HV2.out).mono ?_
  rintro _ w10 ⟨rfl, hb10⟩
  have hbXe : Below X.heap.size X w10 := by (repeat (with_reducible first | exact Below.refl _ _ | assumption | refine Below.drewN _ ?_ | refine Below.drew ?_ | refine Below_alloc ?_ _ | refine Below.alloc ?_ (by first | (simp; done) | (simp; omega) | omega) _ | refine Below.setCell ?_ (by first | (simp; done) | (simp; omega) | omega) _ | refine Below_call ?_ (by assumption) | refine Below.trans ?_ (by assumption)))
  have hbe : Below w.heap.size w w10 := HB0X.out.trans (hbXe.mono HB0X.out.size)
  obtain ⟨c0, c1, fc0, fc1, hlc⟩ := two_cells ((hbXe.block w4.heap.size hlX).trans RX.out)
  clear hb5 hb6 hb7 hb8 hb9 hb10 hbXe hbX
  go_wp2_with fail
  go_ret
  exact ⟨rfl, by (repeat (with_reducible first | exact Below.refl _ _ | assumption | refine Below.drewN _ ?_ | refine Below.drew ?_ | refine Below_alloc ?_ _ | refine Below.alloc ?_ (by first | (simp; done) | (simp; omega) | omega) _ | refine Below.setCell ?_ (by first | (simp; done) | (simp; omega) | omega) _ | refine Below_call ?_ (by assumption) | refine Below.trans ?_ (by assumption)))⟩
end Go.Proofs.Ytlmdmpjfehpjeaa

