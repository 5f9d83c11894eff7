/- Texts of this claim, together. -/
import Derived.Test.YtlmdmpjfehpjeaaQ8

/- Tracks: the answer for a box by the program. -/
set_option linter.unusedVariables false
set_option linter.unusedSimpArgs false
namespace Go.Proofs.Ytlmdmpjfehpjeaa
open Go.RowKit

set_option maxRecDepth 100000 in
set_option maxHeartbeats 16000000 in
theorem track_answer (m : TMod) (b : TBox) (p : V3) (t : Int) (w : World) (ho : m.Ok) (hl : b.lo.inS 20 = true) (hh : b.hi.inS 20 = true) (hc : m.canBe b) (hp : p.inS 1000 = true) (ht : -1000101 ≤ t ∧ t ≤ 1000100) :
    Calls Try.prog 94 #[m.v, b.v, .agg #[.int .i64 p.x, .int .i64 p.y, .int .i64 p.z, .int .i64 t]] w fun e w' => e = .returned (.int .i64 (m.ans b p t)) ∧ Below w.heap.size w w' := by
  obtain ⟨P1, P2, L1, L2, K0, K1, K2, bP, bL, bl0, bl1⟩ := stg3 ho hl hh hp ht
  obtain ⟨f1, f2, f3, f4⟩ := fast_bd ho hl hh hc
  have hpl : m.pl.inS 100000000 = true := inS_iff.2 (by have h1 := ho.px; have h2 := ho.py; have h3 := ho.pz; unfold TMod.pl; simp only; omega)
  have hpp : p.inS 100000000 = true := inS_iff.2 (by have := inS_iff.1 hp; omega)
  have hA : -1010101 ≤ t - m.tm ∧ t - m.tm ≤ 1010101 := by have := ho.tm; omega
  have hat : IntKind.i64.wrap (t - m.tm) = t - m.tm := IntWalk.i64_in _ (by omega)
  have hng : IntKind.i64.wrap (-(t - m.tm)) = -(t - m.tm) := IntWalk.i64_in _ (by omega)
  have HMI : Hid (∀ W, Calls Try.prog 77 #[p.v, m.pl.v] W fun e w' => e = .returned (V3.v ⟨p.x - m.px, p.y - m.py, p.z - m.pz⟩) ∧ Below W.heap.size W w') := hid (fun W => track_minus p m.pl W hpp hpl)
  have HSL : Hid (∀ W, Calls Try.prog 121 #[m.v] W fun e w' => e = .returned (.int .i64 m.slow) ∧ Below W.heap.size W w') := hid (fun W => track_slow m W ho)
  have HSQ : Hid (∀ W, Calls Try.prog 93 #[m.v, b.v] W fun e w' => e = .returned (.tuple #[b.squares.v, .bool (m.canB b)]) ∧ Below W.heap.size W w') := hid (fun W => track_squares m b W hl hh)
  have HV : Hid (m.ans b p t = ansR (m.prodR b p t) (m.leftR b p t) (m.fast b)) := hid rfl
  have HK0 := hid K0
  have HK1 := hid K1
  have HK2 := hid K2
  clear K0 K1 K2 ho hc hp ht hpl hpp hA
  generalize m.ans b p t = ANS at HV ⊢
  generalize m.prodR b p t = P3 at HV HK2 bP
  generalize m.leftR b p t = L3 at HV HK2 bL bl0 bl1
  generalize m.fast b = FA at HV f1 f2 f3 f4
  generalize m.canB b = CB at HSQ
  generalize m.slow = SL at HSL f3 f4
  obtain ⟨px, py, pz, tm, tk, lo, hi, li, ea, la, no, mi⟩ := m
  obtain ⟨⟨lx, ly, lz⟩, ⟨hx, hy, hz⟩⟩ := b
  obtain ⟨qx, qy, qz⟩ := p
  simp only [TMod.pl, TBox.rx, TBox.ry, TBox.rz] at *
  generalize (⟨⟨lx, ly, lz⟩, ⟨hx, hy, hz⟩⟩ : TBox).squares = SQ at HSQ f3 f4
  generalize qx - px = dx at HMI HK0
  generalize qy - py = dy at HMI HK1
  generalize qz - pz = dz at HMI HK2
  generalize hAA : t - tm = A at *
  have hat' : IntKind.i64.wrap (t - tm) = A := by rw [hAA]; exact hat
  obtain ⟨sql, sqh⟩ := SQ
  obtain ⟨fl, fh⟩ := FA
  obtain ⟨p1l, p1h⟩ := P1
  obtain ⟨p2l, p2h⟩ := P2
  obtain ⟨p3l, p3h⟩ := P3
  obtain ⟨l1l, l1h⟩ := L1
  obtain ⟨l2l, l2h⟩ := L2
  obtain ⟨l3l, l3h⟩ := L3
  unfold TMod.v TBox.v V3.v Rg.v at *
  unfold Rg.bd at bP bL
  simp only at *
  obtain ⟨MX, hMX⟩ : ∃ MX, max sql lo = MX := ⟨_, rfl⟩
  obtain ⟨MN, hMN⟩ : ∃ MN, min sqh hi = MN := ⟨_, rfl⟩
  rw [hMX] at f3
  rw [hMN] at f4
  have HMX := hid hMX
  have HMN := hid hMN
  clear hat hAA hl hh hMX hMN
  obtain ⟨W0, hW0⟩ : ∃ W0, W0 = ((w.alloc (.cells #[.int .i64 px, .int .i64 py, .int .i64 pz, .int .i64 tm, .int .i64 tk, .int .i64 lo, .int .i64 hi, .int .i64 li, .int .i64 ea, .int .i64 la, .int .i64 no, .int .i64 mi] 134)).alloc (.cells #[.int .i64 lx, .int .i64 ly, .int .i64 lz, .int .i64 hx, .int .i64 hy, .int .i64 hz] 75)).alloc (.cells #[.int .i64 qx, .int .i64 qy, .int .i64 qz, .int .i64 t] 28) := ⟨_, rfl⟩
  have hbW0 : Below w.heap.size w W0 := by rw [hW0]; (repeat (with_reducible first | exact Below.refl _ _ | assumption | refine Below.drewN _ ?_ | refine Below.drew ?_ | refine Below_alloc ?_ _ | refine Below.alloc ?_ (by first | (simp; done) | (simp; omega) | omega) _ | refine Below.setCell ?_ (by first | (simp; done) | (simp; omega) | omega) _ | refine Below_call ?_ (by assumption) | refine Below.trans ?_ (by assumption)))
  obtain ⟨q0, q1, q2⟩ := al3 w _ _ _ _ _ _ W0 hW0
  have l0 := (Array.getElem?_eq_some_iff.1 q0).1
  have l1 := (Array.getElem?_eq_some_iff.1 q1).1
  have l2 := (Array.getElem?_eq_some_iff.1 q2).1
  have H0 := hid q0
  have H1 := hid q1
  have hzW0 := hbW0.size
  have c0 : W0.cell? ⟨w.heap.size, 0, none⟩ = some (.int .i64 px) := by rw [cell_of_row W0 _ 0 _ _ (0, 0) q0]; rfl
  have c1 : W0.cell? ⟨w.heap.size, 1, none⟩ = some (.int .i64 py) := by rw [cell_of_row W0 _ 1 _ _ (0, 0) q0]; rfl
  have c2 : W0.cell? ⟨w.heap.size, 2, none⟩ = some (.int .i64 pz) := by rw [cell_of_row W0 _ 2 _ _ (0, 0) q0]; rfl
  have c3 : W0.cell? ⟨w.heap.size, 3, none⟩ = some (.int .i64 tm) := by rw [cell_of_row W0 _ 3 _ _ (0, 0) q0]; rfl
  obtain ⟨e0, e1, e2, e3, hle⟩ := four_row q2
  clear q0 q1 q2
  go_enter Try.func94, Try.ntmps94
  go_wp2_with fail
  rw [← hW0]
  clear hW0
  refine wp_mixC (fun wc => Below (W0.heap.size) W0 wc) 14 [.q [0, 1, 2, 3, 4, 6, 7, 8, 9, 10, 11], .p 5 12, .f [13]] [.q [14]] (by kernel_rfl) (by kernel_rfl) ((Below.refl _ _).drew) ?_
  intro Q' hQ'
  (rw [wpMixC]; simp only [pick, List.drop_succ_cons, List.drop_zero, List.head?_cons, Option.toList_some, List.cons_append, List.nil_append])
  (repeat (first | go_big_quiet_skip | (go_big_quiet_want; refine quiet_simple rfl ?_; go_big_quiet_op; go_big_quiet_on) | (go_big_quiet_want; refine quiet_cellB (ty := 3) rfl rfl (by kernel_rfl) (by assumption) (by first | omega | (simp; omega)) ?_; simp only [Act.put, List.setIfInBounds_toArray, List.set_cons_succ, List.set_cons_zero]; go_big_quiet_on) | (go_big_quiet_want; refine quiet_agg3B (ty := 22) rfl rfl (by kernel_rfl) (by assumption) (by assumption) (by assumption) (by first | omega | (simp; omega)) ?_; simp only [Act.put, List.setIfInBounds_toArray, List.set_cons_succ, List.set_cons_zero]; go_big_quiet_on)))
  (try refine wpQuiet_nil ?_)
  (rw [wpMixC]; simp only [pick, List.drop_succ_cons, List.drop_zero, List.head?_cons, Option.toList_some, List.cons_append, List.nil_append])
  (refine ⟨?_, ?_⟩)
  all_goals (rw [wpSteps]; go_wp2_with ((go_at_call 77; refine (HMI.out _).mono ?_; rintro _ w1 ⟨rfl, hb1⟩; (try (refine row_k hb1 (fun hrow => ?_); obtain ⟨f0', f1', f2', ff0, ff1, ff2, hlf⟩ := three_cells hrow)))); rw [contF]; refine ⟨?_, ?_⟩; (next => (repeat (with_reducible first | exact Below.refl _ _ | assumption | refine Below.drewN _ ?_ | refine Below.drew ?_ | refine Below_alloc ?_ _ | refine Below.alloc ?_ (by first | (simp; done) | (simp; omega) | omega) _ | refine Below.setCell ?_ (by first | (simp; done) | (simp; omega) | omega) _ | refine Below_call ?_ (by assumption) | refine Below.trans ?_ (by assumption)))))
  all_goals (rw [wpSteps]; go_wp2_with ((go_at_call 77; refine (HMI.out _).mono ?_; rintro _ w1 ⟨rfl, hb1⟩; (try (refine row_k hb1 (fun hrow => ?_); obtain ⟨f0', f1', f2', ff0, ff1, ff2, hlf⟩ := three_cells hrow)))); rw [contF]; refine ⟨?_, ?_⟩; (next => (repeat (with_reducible first | exact Below.refl _ _ | assumption | refine Below.drewN _ ?_ | refine Below.drew ?_ | refine Below_alloc ?_ _ | refine Below.alloc ?_ (by first | (simp; done) | (simp; omega) | omega) _ | refine Below.setCell ?_ (by first | (simp; done) | (simp; omega) | omega) _ | refine Below_call ?_ (by assumption) | refine Below.trans ?_ (by assumption)))))
  all_goals (rw [wpSteps])
  all_goals (rw [wpMixC]; simp only [pick, List.drop_succ_cons, List.drop_zero, List.head?_cons, Option.toList_some, List.cons_append, List.nil_append])
  all_goals (rw [wpSteps]; go_wp2_with (fail); rw [contF]; refine ⟨?_, ?_⟩; (next => (repeat (with_reducible first | exact Below.refl _ _ | assumption | refine Below.drewN _ ?_ | refine Below.drew ?_ | refine Below_alloc ?_ _ | refine Below.alloc ?_ (by first | (simp; done) | (simp; omega) | omega) _ | refine Below.setCell ?_ (by first | (simp; done) | (simp; omega) | omega) _ | refine Below_call ?_ (by assumption) | refine Below.trans ?_ (by assumption)))))
  all_goals (rw [wpSteps])
  all_goals (rw [wpMixC])
  all_goals (rw [wpMix]; simp only [pick, List.drop_succ_cons, List.drop_zero, List.head?_cons, Option.toList_some, List.cons_append, List.nil_append])
  all_goals (repeat (first | (go_big_quiet_step (fail)) | (quiet_step (fail))))
  all_goals (try refine wpQuiet_nil ?_)
  all_goals (rw [wpMix])
  all_goals (refine hQ' _ _ ?_)
  all_goals first
    | (have hb2 : Below W0.heap.size W0 w1 := by (repeat (with_reducible first | exact Below.refl _ _ | assumption | refine Below.drewN _ ?_ | refine Below.drew ?_ | refine Below_alloc ?_ _ | refine Below.alloc ?_ (by first | (simp; done) | (simp; omega) | omega) _ | refine Below.setCell ?_ (by first | (simp; done) | (simp; omega) | omega) _ | refine Below_call ?_ (by assumption) | refine Below.trans ?_ (by assumption)))
       obtain ⟨W, hW⟩ : ∃ W, W = w1.alloc (.cells #[.int .i64 dx, .int .i64 dy, .int .i64 dz] 135) := ⟨_, rfl⟩
       have hrow : W.heap[w1.heap.size]? = some (.cells #[.int .i64 dx, .int .i64 dy, .int .i64 dz] 135 (0, 0)) := by rw [hW]; exact heap_alloc_new w1 _
       have hgg : W0.heap.size ≤ w1.heap.size := hb2.size
       have hbb : Below W0.heap.size W0 W := by rw [hW]; (repeat (with_reducible first | exact Below.refl _ _ | assumption | refine Below.drewN _ ?_ | refine Below.drew ?_ | refine Below_alloc ?_ _ | refine Below.alloc ?_ (by first | (simp; done) | (simp; omega) | omega) _ | refine Below.setCell ?_ (by first | (simp; done) | (simp; omega) | omega) _ | refine Below_call ?_ (by assumption) | refine Below.trans ?_ (by assumption)))
       rw [← hW]
       generalize w1.heap.size = g at hrow hgg ⊢
       clear hW hb1 hb2)
    | (have hb2 : Below W0.heap.size W0 w1 := by (repeat (with_reducible first | exact Below.refl _ _ | assumption | refine Below.drewN _ ?_ | refine Below.drew ?_ | refine Below_alloc ?_ _ | refine Below.alloc ?_ (by first | (simp; done) | (simp; omega) | omega) _ | refine Below.setCell ?_ (by first | (simp; done) | (simp; omega) | omega) _ | refine Below_call ?_ (by assumption) | refine Below.trans ?_ (by assumption)))
       obtain ⟨W, hW⟩ : ∃ W, W = ((w1.setCell ⟨W0.heap.size, 0, none⟩ (.int .i64 dx)).setCell ⟨W0.heap.size, 1, none⟩ (.int .i64 dy)).setCell ⟨W0.heap.size, 2, none⟩ (.int .i64 dz) := ⟨_, rfl⟩
       have hrow : W.heap[W0.heap.size]? = some (.cells #[.int .i64 dx, .int .i64 dy, .int .i64 dz] 135 (0, 0)) := by rw [hW]; exact heap_setCell_same _ _ 2 _ _ (.int .i64 dz) (heap_setCell_same _ _ 1 _ _ (.int .i64 dy) (heap_setCell_same _ _ 0 _ _ (.int .i64 dx) hrow))
       have hbb : Below W0.heap.size W0 W := by rw [hW]; (repeat (with_reducible first | exact Below.refl _ _ | assumption | refine Below.drewN _ ?_ | refine Below.drew ?_ | refine Below_alloc ?_ _ | refine Below.alloc ?_ (by first | (simp; done) | (simp; omega) | omega) _ | refine Below.setCell ?_ (by first | (simp; done) | (simp; omega) | omega) _ | refine Below_call ?_ (by assumption) | refine Below.trans ?_ (by assumption)))
       rw [← hW]
       obtain ⟨g, hg⟩ : ∃ g, g = W0.heap.size := ⟨_, rfl⟩
       have hgg : W0.heap.size ≤ g := by omega
       rw [← hg] at hrow ⊢
       clear hW hg hb1 hb2 f0' f1' f2' ff0 ff1 ff2 hlf)
  all_goals
    have hlg := (Array.getElem?_eq_some_iff.1 hrow).1
    have hzWW : W0.heap.size ≤ W.heap.size := hbb.size
    obtain ⟨W2, hW2⟩ : ∃ W2, W2 = (W.alloc (.cells #[.int .i64 0, .int .i64 0] 157)).alloc (.cells #[.int .i64 0, .int .i64 0] 157) := ⟨_, rfl⟩
    have hb2 : Below W.heap.size W W2 := by rw [hW2]; (repeat (with_reducible first | exact Below.refl _ _ | assumption | refine Below.drewN _ ?_ | refine Below.drew ?_ | refine Below_alloc ?_ _ | refine Below.alloc ?_ (by first | (simp; done) | (simp; omega) | omega) _ | refine Below.setCell ?_ (by first | (simp; done) | (simp; omega) | omega) _ | refine Below_call ?_ (by assumption) | refine Below.trans ?_ (by assumption)))
    obtain ⟨r9, r10, hl9, hl10⟩ := al2 W _ _ _ _ W2 hW2
    have R9 := hid r9
    have R10 := hid r10
    have R0 := hid ((hb2.block w.heap.size (by omega)).trans ((hbb.block w.heap.size l0).trans H0.out))
    have R1 := hid ((hb2.block (w.heap.size + 1) (by omega)).trans ((hbb.block (w.heap.size + 1) l1).trans H1.out))
    have RG := hid ((hb2.block g hlg).trans hrow)
    have hbx : Below w.heap.size w W2 := (hbW0.trans (hbb.mono (by omega))).trans (hb2.mono (by omega))
    have l0W : w.heap.size < W.heap.size := by omega
    have l1W : w.heap.size + 1 < W.heap.size := by omega
    have hzW2 : W.heap.size + 1 < W2.heap.size := hl10
    go_wp2_with fail
    rw [← hW2]
    clear hW2 hrow r9 r10 c0 c1 c2 c3 e0 e1 e2 e3 hle
    go_loopw [30] (fun i wr => ∃ (k : Nat) (pl ph ll lh : Int), k ≤ 3 ∧ i = .int .i64 k ∧ Hid (wr.heap[W.heap.size]? = some (.cells #[.int .i64 pl, .int .i64 ph] 157 (0, 0))) ∧ Hid (wr.heap[W.heap.size + 1]? = some (.cells #[.int .i64 ll, .int .i64 lh] 157 (0, 0))) ∧ Hid ((k = 0 → pl = 0 ∧ ph = 0 ∧ ll = 0 ∧ lh = 0) ∧ (k = 1 → pl = p1l ∧ ph = p1h ∧ ll = l1l ∧ lh = l1h) ∧ (k = 2 → pl = p2l ∧ ph = p2h ∧ ll = l2l ∧ lh = l2h) ∧ (k = 3 → pl = p3l ∧ ph = p3h ∧ ll = l3l ∧ lh = l3h)) ∧ Below W.heap.size W2 wr) (fun i _ => 3 - (intOf i).toNat)
    case atStart => exact ⟨0, 0, 0, 0, 0, by omega, rfl, R9, R10, hid ⟨fun _ => ⟨rfl, rfl, rfl, rfl⟩, by omega, by omega, by omega⟩, Below.refl _ _⟩
    case round =>
      obtain ⟨k, pl, ph, ll, lh, hk, rfl, HR9, HR10, HO, hbel⟩ := hrel
      have hzw := hbel.size
      have S0 := hid ((hbel.block w.heap.size l0W).trans R0.out)
      have S1 := hid ((hbel.block (w.heap.size + 1) l1W).trans R1.out)
      have SG := hid ((hbel.block g hlg).trans RG.out)
      have hby : Below w.heap.size w wr := hbx.trans (hbel.mono (by omega))
      have HBY := hid hby
      have hlr9 := (Array.getElem?_eq_some_iff.1 HR9.out).1
      have hlr10 := (Array.getElem?_eq_some_iff.1 HR10.out).1
      clear hby
      rcases (by omega : k = 0 ∨ k = 1 ∨ k = 2 ∨ k = 3) with rfl | rfl | rfl | rfl
      · obtain ⟨rfl, rfl, rfl, rfl⟩ := HO.out.1 rfl
        obtain ⟨⟨rl, rh⟩, ⟨sl, sh⟩, ⟨ul, uh⟩, ⟨vl, vh⟩, TD, kT, C1, C2, C3, C4, C5, C6⟩ := HK0.out
        unfold CR Rg.v at C1 C2 C3 C4 C5 C6
        simp only at C1 C2 C3 C4 C5 C6
        have D1 := hid C1
        have D2 := hid C2
        have D3 := hid C3
        have D4 := hid C4
        have D5 := hid C5
        have D6 := hid C6
        clear C1 C2 C3 C4 C5 C6
        obtain ⟨c0, c1, c2, c3, c4, c5, hlc⟩ := six_row S1.out
        go_wp2_with fail
        refine wp_mixC (fun wc => Below (wr.heap.size) wr wc) 10 [.q [0, 1, 2, 3, 4, 5, 6, 7, 8], .f [9]] [.f [10]] (by kernel_rfl) (by kernel_rfl) ((Below.refl _ _).drew) ?_
        intro Q' hQ'
        (rw [wpMixC]; simp only [pick, List.drop_succ_cons, List.drop_zero, List.head?_cons, Option.toList_some, List.cons_append, List.nil_append])
        (repeat (first | go_big_quiet_skip | (go_big_quiet_want; refine quiet_simple rfl ?_; go_big_quiet_op; go_big_quiet_on) | (go_big_quiet_want; refine quiet_cellB (ty := 3) rfl rfl (by kernel_rfl) (by assumption) (by first | omega | (simp; omega)) ?_; simp only [Act.put, List.setIfInBounds_toArray, List.set_cons_succ, List.set_cons_zero]; go_big_quiet_on)))
        (try refine wpQuiet_nil ?_)
        (rw [wpMixC]; simp only [pick, List.drop_succ_cons, List.drop_zero, List.head?_cons, Option.toList_some, List.cons_append, List.nil_append])
        (rw [wpSteps]; go_wp2_with (fail); rw [contF]; refine ⟨?_, ?_⟩; (next => (repeat (with_reducible first | exact Below.refl _ _ | assumption | refine Below.drewN _ ?_ | refine Below.drew ?_ | refine Below_alloc ?_ _ | refine Below.alloc ?_ (by first | (simp; done) | (simp; omega) | omega) _ | refine Below.setCell ?_ (by first | (simp; done) | (simp; omega) | omega) _ | refine Below_call ?_ (by assumption) | refine Below.trans ?_ (by assumption)))))
        (rw [wpSteps])
        (rw [wpMixC])
        (rw [wpMix]; simp only [pick, List.drop_succ_cons, List.drop_zero, List.head?_cons, Option.toList_some, List.cons_append, List.nil_append])
        (go_wp2_with ((first | fail)); rw [contF])
        (rw [wpMix])
        (refine hQ' _ _ ?_)
        obtain ⟨X6, hX6⟩ : ∃ X6, X6 = (wr.alloc (.cells #[.int .i64 lx, .int .i64 hx] 157)).drew := ⟨_, rfl⟩
        rw [← hX6]
        have hb6 : Below wr.heap.size wr X6 := by rw [hX6]; (repeat (with_reducible first | exact Below.refl _ _ | assumption | refine Below.drewN _ ?_ | refine Below.drew ?_ | refine Below_alloc ?_ _ | refine Below.alloc ?_ (by first | (simp; done) | (simp; omega) | omega) _ | refine Below.setCell ?_ (by first | (simp; done) | (simp; omega) | omega) _ | refine Below_call ?_ (by assumption) | refine Below.trans ?_ (by assumption)))
        have R12 : X6.heap[wr.heap.size]? = some (.cells #[.int .i64 lx, .int .i64 hx] 157 (0, 0)) := by rw [hX6]; exact heap_alloc_new wr _
        clear hX6
        obtain ⟨x0, x1, fx0, fx1, hlx⟩ := two_cells R12
        clear fx0 fx1 c0 c1 c2 c3 c4 c5 hlc
        go_wp2_with (go_at_call 131; ((with_reducible refine (D1.out _).mono ?_); rintro _ w7 ⟨rfl, hb7⟩))
        have hz7 : X6.heap.size ≤ w7.heap.size := hb7.size
        obtain ⟨X7, hX7⟩ : ∃ X7, X7 = w7.alloc (.cells #[.int .i64 rl, .int .i64 rh] 157) := ⟨_, rfl⟩
        rw [← hX7]
        have hb7' : Below w7.heap.size w7 X7 := by rw [hX7]; (repeat (with_reducible first | exact Below.refl _ _ | assumption | refine Below.drewN _ ?_ | refine Below.drew ?_ | refine Below_alloc ?_ _ | refine Below.alloc ?_ (by first | (simp; done) | (simp; omega) | omega) _ | refine Below.setCell ?_ (by first | (simp; done) | (simp; omega) | omega) _ | refine Below_call ?_ (by assumption) | refine Below.trans ?_ (by assumption)))
        have R13 : X7.heap[w7.heap.size]? = some (.cells #[.int .i64 rl, .int .i64 rh] 157 (0, 0)) := by rw [hX7]; exact heap_alloc_new w7 _
        clear hX7
        have hb67 : Below X6.heap.size X6 X7 := hb7.trans (hb7'.mono hz7)
        have HB7 : Hid (Below wr.heap.size wr X7) := hid (hb6.trans (hb67.mono hb6.size))
        have R12' := hid ((hb67.block wr.heap.size hlx).trans R12)
        have hlx7 := (Array.getElem?_eq_some_iff.1 R12'.out).1
        obtain ⟨y0, y1, fy0, fy1, hly⟩ := two_cells R13
        obtain ⟨g0, g1, g2, fg0, fg1, fg2, hlgx⟩ := three_cells ((HB7.out.block g (by omega)).trans SG.out)
        have a4 : X7.cell? ⟨w.heap.size, 4, none⟩ = some (.int .i64 tk) := by rw [cell_of_row X7 _ 4 _ _ (0, 0) ((HB7.out.block w.heap.size (by omega)).trans S0.out)]; rfl
        have hl0x : w.heap.size < X7.heap.size := by omega
        clear fy0 fy1 fg0 fg1 fg2 x0 x1 hlx R12 R13 hb7 hb7' hb67 hb6
        refine wp_mixC (fun wc => Below (X7.heap.size) X7 wc) 18 [.q [0, 1, 2, 3, 4, 5, 6, 7, 8, 9, 10, 11, 12, 13, 14, 15], .p 16 17] [.f [18]] (by kernel_rfl) (by kernel_rfl) ((Below.refl _ _).drew) ?_
        intro Q' hQ'
        (rw [wpMixC]; simp only [pick, List.drop_succ_cons, List.drop_zero, List.head?_cons, Option.toList_some, List.cons_append, List.nil_append])
        (repeat (first | go_big_quiet_skip | (go_big_quiet_want; refine quiet_simple rfl ?_; go_big_quiet_op; go_big_quiet_on) | (go_big_quiet_want; refine quiet_cellB (ty := 3) rfl rfl (by kernel_rfl) (by assumption) (by first | omega | (simp; omega)) ?_; simp only [Act.put, List.setIfInBounds_toArray, List.set_cons_succ, List.set_cons_zero]; go_big_quiet_on) | (go_big_quiet_want; refine quiet_agg2B (ty := 157) rfl rfl (by kernel_rfl) (by assumption) (by assumption) (by first | omega | (simp; omega)) ?_; simp only [Act.put, List.setIfInBounds_toArray, List.set_cons_succ, List.set_cons_zero]; go_big_quiet_on)))
        (try refine wpQuiet_nil ?_)
        (rw [wpMixC]; simp only [pick, List.drop_succ_cons, List.drop_zero, List.head?_cons, Option.toList_some, List.cons_append, List.nil_append])
        (refine ⟨?_, ?_⟩)
        all_goals (rw [wpSteps]; go_wp2_with ((go_at_call 129; ((with_reducible refine (D2.out _).mono ?_); rintro _ w8 ⟨rfl, hb8⟩); (try (refine row_k hb8 (fun hrow => ?_); obtain ⟨f0', f1', ff0, ff1, hlf⟩ := two_cells hrow)))); rw [contF]; refine ⟨?_, ?_⟩; (next => (repeat (with_reducible first | exact Below.refl _ _ | assumption | refine Below.drewN _ ?_ | refine Below.drew ?_ | refine Below_alloc ?_ _ | refine Below.alloc ?_ (by first | (simp; done) | (simp; omega) | omega) _ | refine Below.setCell ?_ (by first | (simp; done) | (simp; omega) | omega) _ | refine Below_call ?_ (by assumption) | refine Below.trans ?_ (by assumption)))))
        all_goals (rw [wpSteps]; go_wp2_with ((go_at_call 129; ((with_reducible refine (D2.out _).mono ?_); rintro _ w8 ⟨rfl, hb8⟩); (try (refine row_k hb8 (fun hrow => ?_); obtain ⟨f0', f1', ff0, ff1, hlf⟩ := two_cells hrow)))); rw [contF]; refine ⟨?_, ?_⟩; (next => (repeat (with_reducible first | exact Below.refl _ _ | assumption | refine Below.drewN _ ?_ | refine Below.drew ?_ | refine Below_alloc ?_ _ | refine Below.alloc ?_ (by first | (simp; done) | (simp; omega) | omega) _ | refine Below.setCell ?_ (by first | (simp; done) | (simp; omega) | omega) _ | refine Below_call ?_ (by assumption) | refine Below.trans ?_ (by assumption)))))
        all_goals (rw [wpSteps])
        all_goals (rw [wpMixC])
        all_goals (rw [wpMix]; simp only [pick, List.drop_succ_cons, List.drop_zero, List.head?_cons, Option.toList_some, List.cons_append, List.nil_append])
        all_goals (go_wp2_with ((first | fail)); rw [contF])
        all_goals (rw [wpMix])
        all_goals (refine hQ' _ _ ?_)
        all_goals first
          | (have hb9 : Below X7.heap.size X7 w8 := by (repeat (with_reducible first | exact Below.refl _ _ | assumption | refine Below.drewN _ ?_ | refine Below.drew ?_ | refine Below_alloc ?_ _ | refine Below.alloc ?_ (by first | (simp; done) | (simp; omega) | omega) _ | refine Below.setCell ?_ (by first | (simp; done) | (simp; omega) | omega) _ | refine Below_call ?_ (by assumption) | refine Below.trans ?_ (by assumption)))
             obtain ⟨X8, hX8⟩ : ∃ X8, X8 = w8.alloc (.cells #[.int .i64 sl, .int .i64 sh] 157) := ⟨_, rfl⟩
             have R14 : X8.heap[w8.heap.size]? = some (.cells #[.int .i64 sl, .int .i64 sh] 157 (0, 0)) := by rw [hX8]; exact heap_alloc_new w8 _
             have hgh : X7.heap.size ≤ w8.heap.size := hb9.size
             have hb78 : Below X7.heap.size X7 X8 := by rw [hX8]; (repeat (with_reducible first | exact Below.refl _ _ | assumption | refine Below.drewN _ ?_ | refine Below.drew ?_ | refine Below_alloc ?_ _ | refine Below.alloc ?_ (by first | (simp; done) | (simp; omega) | omega) _ | refine Below.setCell ?_ (by first | (simp; done) | (simp; omega) | omega) _ | refine Below_call ?_ (by assumption) | refine Below.trans ?_ (by assumption)))
             rw [← hX8]
             generalize w8.heap.size = h14 at R14 hgh ⊢
             clear hX8 hb8 hb9)
          | (have hb9 : Below X7.heap.size X7 w8 := by (repeat (with_reducible first | exact Below.refl _ _ | assumption | refine Below.drewN _ ?_ | refine Below.drew ?_ | refine Below_alloc ?_ _ | refine Below.alloc ?_ (by first | (simp; done) | (simp; omega) | omega) _ | refine Below.setCell ?_ (by first | (simp; done) | (simp; omega) | omega) _ | refine Below_call ?_ (by assumption) | refine Below.trans ?_ (by assumption)))
             obtain ⟨X8, hX8⟩ : ∃ X8, X8 = (w8.setCell ⟨X7.heap.size, 0, none⟩ (.int .i64 sl)).setCell ⟨X7.heap.size, 1, none⟩ (.int .i64 sh) := ⟨_, rfl⟩
             have R14 : X8.heap[X7.heap.size]? = some (.cells #[.int .i64 sl, .int .i64 sh] 157 (0, 0)) := by rw [hX8]; exact two_set hrow
             have hb78 : Below X7.heap.size X7 X8 := by rw [hX8]; (repeat (with_reducible first | exact Below.refl _ _ | assumption | refine Below.drewN _ ?_ | refine Below.drew ?_ | refine Below_alloc ?_ _ | refine Below.alloc ?_ (by first | (simp; done) | (simp; omega) | omega) _ | refine Below.setCell ?_ (by first | (simp; done) | (simp; omega) | omega) _ | refine Below_call ?_ (by assumption) | refine Below.trans ?_ (by assumption)))
             rw [← hX8]
             obtain ⟨h14, hg⟩ : ∃ g, g = X7.heap.size := ⟨_, rfl⟩
             have hgh : X7.heap.size ≤ h14 := by omega
             rw [← hg] at R14 ⊢
             clear hX8 hg hb8 hb9 f0' f1' ff0 ff1 hlf hrow)
        all_goals
          clear y0 y1 hly g0 g1 g2 hlgx a4 hl0x
          have hb8 : Below wr.heap.size wr X8 := HB7.out.trans (hb78.mono HB7.out.size)
          have hz8 := hb8.size
          obtain ⟨s0, s1, fs0, fs1, hls⟩ := two_cells R14
          obtain ⟨x0, x1, fx0, fx1, hlx⟩ := two_cells ((hb78.block wr.heap.size hlx7).trans R12'.out)
          have T9 := hid ((hb8.block W.heap.size hlr9).trans HR9.out)
          have T10 := hid ((hb8.block (W.heap.size + 1) hlr10).trans HR10.out)
          obtain ⟨u0, u1, fu0, fu1, hlu⟩ := two_cells T9.out
          obtain ⟨z0, z1, fz0, fz1, hlz⟩ := two_cells T10.out
          have HB8 := hid hb8
          clear fs0 fs1 fx0 fx1 hb8 hb78 fu0 fu1 fz0 fz1
          go_wp2_with fail
          refine wp_mixC (KeepB [wr.heap.size, h14, W.heap.size + 1] X8) 10 [.q [1, 2, 5, 6], .p 0 3, .f [4, 7, 8, 9]] [.f [10]] (by kernel_rfl) (by kernel_rfl) ((KeepB.refl (by first | (simp; done) | (simp; omega))).drew) ?_
          intro Q' hQ'
          (rw [wpMixC]; simp only [pick, List.drop_succ_cons, List.drop_zero, List.head?_cons, Option.toList_some, List.cons_append, List.nil_append])
          (repeat (first | go_big_quiet_skip | (go_big_quiet_want; refine quiet_simple rfl ?_; go_big_quiet_op; go_big_quiet_on) | (go_big_quiet_want; refine quiet_agg2K (ty := 157) rfl rfl (by kernel_rfl) (by assumption) (by assumption) (by simp) ?_; simp only [Act.put, List.setIfInBounds_toArray, List.set_cons_succ, List.set_cons_zero]; go_big_quiet_on)))
          (try refine wpQuiet_nil ?_)
          (rw [wpMixC]; simp only [pick, List.drop_succ_cons, List.drop_zero, List.head?_cons, Option.toList_some, List.cons_append, List.nil_append])
          (refine ⟨?_, ?_⟩)
          all_goals (rw [wpSteps]; go_wp2_with ((first | (go_at_call 131; ((with_reducible refine (D3.out _).mono ?_); rintro _ w9 ⟨rfl, hb9⟩); have hb9' : Below X8.heap.size X8 w9 := (by (repeat (with_reducible first | exact Below.refl _ _ | assumption | refine Below.drewN _ ?_ | refine Below.drew ?_ | refine Below_alloc ?_ _ | refine Below.alloc ?_ (by first | (simp; done) | (simp; omega) | omega) _ | refine Below.setCell ?_ (by first | (simp; done) | (simp; omega) | omega) _ | refine Below_call ?_ (by assumption) | refine Below.trans ?_ (by assumption)))); have HB9 := hid hb9'; clear hb9'; obtain ⟨u0, u1, fu0, fu1, hlu⟩ := two_cells ((HB9.out.block W.heap.size (Array.getElem?_eq_some_iff.1 T9.out).1).trans T9.out)) | (go_at_call 129; ((with_reducible refine (D4.out _).mono ?_); rintro _ w10 ⟨rfl, hb10⟩); have HB10 := hid hb10) | (go_at_call 130; ((with_reducible refine (D5.out _).mono ?_); rintro _ w11 ⟨rfl, hb11⟩); have HB11 := hid hb11) | (go_at_call 129; ((with_reducible refine (D6.out _).mono ?_); rintro _ w12 ⟨rfl, hb12⟩); have HB12 : Hid (Below X8.heap.size X8 w12) := hid (((HB9.out.trans (HB10.out.mono HB9.out.size)).trans (HB11.out.mono (Nat.le_trans HB9.out.size HB10.out.size))).trans (hb12.mono (Nat.le_trans (Nat.le_trans HB9.out.size HB10.out.size) HB11.out.size))); have V9 := hid ((HB12.out.block W.heap.size (Array.getElem?_eq_some_iff.1 T9.out).1).trans T9.out); have V10 := hid ((HB12.out.block (W.heap.size + 1) (Array.getElem?_eq_some_iff.1 T10.out).1).trans T10.out); obtain ⟨i0, i1, fi0, fi1, hli⟩ := two_cells V9.out; obtain ⟨j0, j1, fj0, fj1, hlj⟩ := two_cells V10.out))); rw [contF]; refine ⟨?_, ?_⟩; (next => (repeat (with_reducible first | assumption | exact KeepB.refl (by first | (simp; done) | (simp; omega)) | refine KeepB.drew ?_ | refine KeepB.alloc ?_ _ | refine KeepB.setCell ?_ (by first | (simp; done) | (simp; omega)) | refine KeepB.below ?_ (by assumption)))))
          all_goals (rw [wpSteps]; go_wp2_with ((first | (go_at_call 131; ((with_reducible refine (D3.out _).mono ?_); rintro _ w9 ⟨rfl, hb9⟩); have hb9' : Below X8.heap.size X8 w9 := (by (repeat (with_reducible first | exact Below.refl _ _ | assumption | refine Below.drewN _ ?_ | refine Below.drew ?_ | refine Below_alloc ?_ _ | refine Below.alloc ?_ (by first | (simp; done) | (simp; omega) | omega) _ | refine Below.setCell ?_ (by first | (simp; done) | (simp; omega) | omega) _ | refine Below_call ?_ (by assumption) | refine Below.trans ?_ (by assumption)))); have HB9 := hid hb9'; clear hb9'; obtain ⟨u0, u1, fu0, fu1, hlu⟩ := two_cells ((HB9.out.block W.heap.size (Array.getElem?_eq_some_iff.1 T9.out).1).trans T9.out)) | (go_at_call 129; ((with_reducible refine (D4.out _).mono ?_); rintro _ w10 ⟨rfl, hb10⟩); have HB10 := hid hb10) | (go_at_call 130; ((with_reducible refine (D5.out _).mono ?_); rintro _ w11 ⟨rfl, hb11⟩); have HB11 := hid hb11) | (go_at_call 129; ((with_reducible refine (D6.out _).mono ?_); rintro _ w12 ⟨rfl, hb12⟩); have HB12 : Hid (Below X8.heap.size X8 w12) := hid (((HB9.out.trans (HB10.out.mono HB9.out.size)).trans (HB11.out.mono (Nat.le_trans HB9.out.size HB10.out.size))).trans (hb12.mono (Nat.le_trans (Nat.le_trans HB9.out.size HB10.out.size) HB11.out.size))); have V9 := hid ((HB12.out.block W.heap.size (Array.getElem?_eq_some_iff.1 T9.out).1).trans T9.out); have V10 := hid ((HB12.out.block (W.heap.size + 1) (Array.getElem?_eq_some_iff.1 T10.out).1).trans T10.out); obtain ⟨i0, i1, fi0, fi1, hli⟩ := two_cells V9.out; obtain ⟨j0, j1, fj0, fj1, hlj⟩ := two_cells V10.out))); rw [contF]; refine ⟨?_, ?_⟩; (next => (repeat (with_reducible first | assumption | exact KeepB.refl (by first | (simp; done) | (simp; omega)) | refine KeepB.drew ?_ | refine KeepB.alloc ?_ _ | refine KeepB.setCell ?_ (by first | (simp; done) | (simp; omega)) | refine KeepB.below ?_ (by assumption)))))
          all_goals (rw [wpSteps])
          all_goals (rw [wpMixC]; simp only [pick, List.drop_succ_cons, List.drop_zero, List.head?_cons, Option.toList_some, List.cons_append, List.nil_append])
          all_goals (rw [wpSteps]; go_wp2_with ((first | (go_at_call 129; ((with_reducible refine (D4.out _).mono ?_); rintro _ w10 ⟨rfl, hb10⟩); have HB10 := hid hb10) | (go_at_call 129; ((with_reducible refine (D6.out _).mono ?_); rintro _ w12 ⟨rfl, hb12⟩); have HB12 : Hid (Below X8.heap.size X8 w12) := hid (((HB9.out.trans (HB10.out.mono HB9.out.size)).trans (HB11.out.mono (Nat.le_trans HB9.out.size HB10.out.size))).trans (hb12.mono (Nat.le_trans (Nat.le_trans HB9.out.size HB10.out.size) HB11.out.size))); have V9 := hid ((HB12.out.block W.heap.size (Array.getElem?_eq_some_iff.1 T9.out).1).trans T9.out); have V10 := hid ((HB12.out.block (W.heap.size + 1) (Array.getElem?_eq_some_iff.1 T10.out).1).trans T10.out); obtain ⟨i0, i1, fi0, fi1, hli⟩ := two_cells V9.out; obtain ⟨j0, j1, fj0, fj1, hlj⟩ := two_cells V10.out))); rw [contF]; refine ⟨?_, ?_⟩; (next => (repeat (with_reducible first | assumption | exact KeepB.refl (by first | (simp; done) | (simp; omega)) | refine KeepB.drew ?_ | refine KeepB.alloc ?_ _ | refine KeepB.setCell ?_ (by first | (simp; done) | (simp; omega)) | refine KeepB.below ?_ (by assumption)))))
          all_goals (rw [wpSteps]; go_wp2_with ((go_at_call 130; ((with_reducible refine (D5.out _).mono ?_); rintro _ w11 ⟨rfl, hb11⟩); have HB11 := hid hb11)); rw [contF]; refine ⟨?_, ?_⟩; (next => (repeat (with_reducible first | assumption | exact KeepB.refl (by first | (simp; done) | (simp; omega)) | refine KeepB.drew ?_ | refine KeepB.alloc ?_ _ | refine KeepB.setCell ?_ (by first | (simp; done) | (simp; omega)) | refine KeepB.below ?_ (by assumption)))))
          all_goals (rw [wpSteps]; go_wp2_with ((first | (go_at_call 129; ((with_reducible refine (D4.out _).mono ?_); rintro _ w10 ⟨rfl, hb10⟩); have HB10 := hid hb10) | (go_at_call 129; ((with_reducible refine (D6.out _).mono ?_); rintro _ w12 ⟨rfl, hb12⟩); have HB12 : Hid (Below X8.heap.size X8 w12) := hid (((HB9.out.trans (HB10.out.mono HB9.out.size)).trans (HB11.out.mono (Nat.le_trans HB9.out.size HB10.out.size))).trans (hb12.mono (Nat.le_trans (Nat.le_trans HB9.out.size HB10.out.size) HB11.out.size))); have V9 := hid ((HB12.out.block W.heap.size (Array.getElem?_eq_some_iff.1 T9.out).1).trans T9.out); have V10 := hid ((HB12.out.block (W.heap.size + 1) (Array.getElem?_eq_some_iff.1 T10.out).1).trans T10.out); obtain ⟨i0, i1, fi0, fi1, hli⟩ := two_cells V9.out; obtain ⟨j0, j1, fj0, fj1, hlj⟩ := two_cells V10.out))); rw [contF]; refine ⟨?_, ?_⟩; (next => (repeat (with_reducible first | assumption | exact KeepB.refl (by first | (simp; done) | (simp; omega)) | refine KeepB.drew ?_ | refine KeepB.alloc ?_ _ | refine KeepB.setCell ?_ (by first | (simp; done) | (simp; omega)) | refine KeepB.below ?_ (by assumption)))))
          all_goals (rw [wpSteps]; go_wp2_with (fail); rw [contF]; refine ⟨?_, ?_⟩; (next => (repeat (with_reducible first | assumption | exact KeepB.refl (by first | (simp; done) | (simp; omega)) | refine KeepB.drew ?_ | refine KeepB.alloc ?_ _ | refine KeepB.setCell ?_ (by first | (simp; done) | (simp; omega)) | refine KeepB.below ?_ (by assumption)))))
          all_goals (rw [wpSteps])
          all_goals (rw [wpMixC])
          all_goals (rw [wpMix]; simp only [pick, List.drop_succ_cons, List.drop_zero, List.head?_cons, Option.toList_some, List.cons_append, List.nil_append])
          all_goals (go_wp2_with ((first | fail)); rw [contF])
          all_goals (rw [wpMix])
          all_goals (refine hQ' _ _ ?_)
          all_goals
            go_wp2_with fail
            go_roundw
            case rel =>
              obtain ⟨t1, t2⟩ := two_set2 (x' := .int .i64 p1l) (y' := .int .i64 p1h) (u' := .int .i64 l1l) (v' := .int .i64 l1h) V9.out V10.out (by omega)
              exact ⟨1, p1l, p1h, l1l, l1h, by omega, by go_num, hid t1, hid t2, hid ⟨by omega, fun _ => ⟨rfl, rfl, rfl, rfl⟩, by omega, by omega⟩, ((hbel.trans (HB8.out.mono (by omega))).trans (HB12.out.mono (by omega))).trans (((((Below.refl _ _).setCell (by simp) _).setCell (by simp) _).setCell (by simp) _).setCell (by simp) _)⟩
            case measure => simp [intOf]
      · obtain ⟨rfl, rfl, rfl, rfl⟩ := HO.out.2.1 rfl
        obtain ⟨⟨rl, rh⟩, ⟨sl, sh⟩, ⟨ul, uh⟩, ⟨vl, vh⟩, TD, kT, C1, C2, C3, C4, C5, C6⟩ := HK1.out
        unfold CR Rg.v at C1 C2 C3 C4 C5 C6
        simp only at C1 C2 C3 C4 C5 C6
        have D1 := hid C1
        have D2 := hid C2
        have D3 := hid C3
        have D4 := hid C4
        have D5 := hid C5
        have D6 := hid C6
        clear C1 C2 C3 C4 C5 C6
        obtain ⟨c0, c1, c2, c3, c4, c5, hlc⟩ := six_row S1.out
        go_wp2_with fail
        refine wp_mixC (fun wc => Below (wr.heap.size) wr wc) 10 [.q [0, 1, 2, 3, 4, 5, 6, 7, 8], .f [9]] [.f [10]] (by kernel_rfl) (by kernel_rfl) ((Below.refl _ _).drew) ?_
        intro Q' hQ'
        (rw [wpMixC]; simp only [pick, List.drop_succ_cons, List.drop_zero, List.head?_cons, Option.toList_some, List.cons_append, List.nil_append])
        (repeat (first | go_big_quiet_skip | (go_big_quiet_want; refine quiet_simple rfl ?_; go_big_quiet_op; go_big_quiet_on) | (go_big_quiet_want; refine quiet_cellB (ty := 3) rfl rfl (by kernel_rfl) (by assumption) (by first | omega | (simp; omega)) ?_; simp only [Act.put, List.setIfInBounds_toArray, List.set_cons_succ, List.set_cons_zero]; go_big_quiet_on)))
        (try refine wpQuiet_nil ?_)
        (rw [wpMixC]; simp only [pick, List.drop_succ_cons, List.drop_zero, List.head?_cons, Option.toList_some, List.cons_append, List.nil_append])
        (rw [wpSteps]; go_wp2_with (fail); rw [contF]; refine ⟨?_, ?_⟩; (next => (repeat (with_reducible first | exact Below.refl _ _ | assumption | refine Below.drewN _ ?_ | refine Below.drew ?_ | refine Below_alloc ?_ _ | refine Below.alloc ?_ (by first | (simp; done) | (simp; omega) | omega) _ | refine Below.setCell ?_ (by first | (simp; done) | (simp; omega) | omega) _ | refine Below_call ?_ (by assumption) | refine Below.trans ?_ (by assumption)))))
        (rw [wpSteps])
        (rw [wpMixC])
        (rw [wpMix]; simp only [pick, List.drop_succ_cons, List.drop_zero, List.head?_cons, Option.toList_some, List.cons_append, List.nil_append])
        (go_wp2_with ((first | fail)); rw [contF])
        (rw [wpMix])
        (refine hQ' _ _ ?_)
        obtain ⟨X6, hX6⟩ : ∃ X6, X6 = (wr.alloc (.cells #[.int .i64 ly, .int .i64 hy] 157)).drew := ⟨_, rfl⟩
        rw [← hX6]
        have hb6 : Below wr.heap.size wr X6 := by rw [hX6]; (repeat (with_reducible first | exact Below.refl _ _ | assumption | refine Below.drewN _ ?_ | refine Below.drew ?_ | refine Below_alloc ?_ _ | refine Below.alloc ?_ (by first | (simp; done) | (simp; omega) | omega) _ | refine Below.setCell ?_ (by first | (simp; done) | (simp; omega) | omega) _ | refine Below_call ?_ (by assumption) | refine Below.trans ?_ (by assumption)))
        have R12 : X6.heap[wr.heap.size]? = some (.cells #[.int .i64 ly, .int .i64 hy] 157 (0, 0)) := by rw [hX6]; exact heap_alloc_new wr _
        clear hX6
        obtain ⟨x0, x1, fx0, fx1, hlx⟩ := two_cells R12
        clear fx0 fx1 c0 c1 c2 c3 c4 c5 hlc
        go_wp2_with (go_at_call 131; ((with_reducible refine (D1.out _).mono ?_); rintro _ w7 ⟨rfl, hb7⟩))
        have hz7 : X6.heap.size ≤ w7.heap.size := hb7.size
        obtain ⟨X7, hX7⟩ : ∃ X7, X7 = w7.alloc (.cells #[.int .i64 rl, .int .i64 rh] 157) := ⟨_, rfl⟩
        rw [← hX7]
        have hb7' : Below w7.heap.size w7 X7 := by rw [hX7]; (repeat (with_reducible first | exact Below.refl _ _ | assumption | refine Below.drewN _ ?_ | refine Below.drew ?_ | refine Below_alloc ?_ _ | refine Below.alloc ?_ (by first | (simp; done) | (simp; omega) | omega) _ | refine Below.setCell ?_ (by first | (simp; done) | (simp; omega) | omega) _ | refine Below_call ?_ (by assumption) | refine Below.trans ?_ (by assumption)))
        have R13 : X7.heap[w7.heap.size]? = some (.cells #[.int .i64 rl, .int .i64 rh] 157 (0, 0)) := by rw [hX7]; exact heap_alloc_new w7 _
        clear hX7
        have hb67 : Below X6.heap.size X6 X7 := hb7.trans (hb7'.mono hz7)
        have HB7 : Hid (Below wr.heap.size wr X7) := hid (hb6.trans (hb67.mono hb6.size))
        have R12' := hid ((hb67.block wr.heap.size hlx).trans R12)
        have hlx7 := (Array.getElem?_eq_some_iff.1 R12'.out).1
        obtain ⟨y0, y1, fy0, fy1, hly⟩ := two_cells R13
        obtain ⟨g0, g1, g2, fg0, fg1, fg2, hlgx⟩ := three_cells ((HB7.out.block g (by omega)).trans SG.out)
        have a4 : X7.cell? ⟨w.heap.size, 4, none⟩ = some (.int .i64 tk) := by rw [cell_of_row X7 _ 4 _ _ (0, 0) ((HB7.out.block w.heap.size (by omega)).trans S0.out)]; rfl
        have hl0x : w.heap.size < X7.heap.size := by omega
        clear fy0 fy1 fg0 fg1 fg2 x0 x1 hlx R12 R13 hb7 hb7' hb67 hb6
        refine wp_mixC (fun wc => Below (X7.heap.size) X7 wc) 18 [.q [0, 1, 2, 3, 4, 5, 6, 7, 8, 9, 10, 11, 12, 13, 14, 15], .p 16 17] [.f [18]] (by kernel_rfl) (by kernel_rfl) ((Below.refl _ _).drew) ?_
        intro Q' hQ'
        (rw [wpMixC]; simp only [pick, List.drop_succ_cons, List.drop_zero, List.head?_cons, Option.toList_some, List.cons_append, List.nil_append])
        (repeat (first | go_big_quiet_skip | (go_big_quiet_want; refine quiet_simple rfl ?_; go_big_quiet_op; go_big_quiet_on) | (go_big_quiet_want; refine quiet_cellB (ty := 3) rfl rfl (by kernel_rfl) (by assumption) (by first | omega | (simp; omega)) ?_; simp only [Act.put, List.setIfInBounds_toArray, List.set_cons_succ, List.set_cons_zero]; go_big_quiet_on) | (go_big_quiet_want; refine quiet_agg2B (ty := 157) rfl rfl (by kernel_rfl) (by assumption) (by assumption) (by first | omega | (simp; omega)) ?_; simp only [Act.put, List.setIfInBounds_toArray, List.set_cons_succ, List.set_cons_zero]; go_big_quiet_on)))
        (try refine wpQuiet_nil ?_)
        (rw [wpMixC]; simp only [pick, List.drop_succ_cons, List.drop_zero, List.head?_cons, Option.toList_some, List.cons_append, List.nil_append])
        (refine ⟨?_, ?_⟩)
        all_goals (rw [wpSteps]; go_wp2_with ((go_at_call 129; ((with_reducible refine (D2.out _).mono ?_); rintro _ w8 ⟨rfl, hb8⟩); (try (refine row_k hb8 (fun hrow => ?_); obtain ⟨f0', f1', ff0, ff1, hlf⟩ := two_cells hrow)))); rw [contF]; refine ⟨?_, ?_⟩; (next => (repeat (with_reducible first | exact Below.refl _ _ | assumption | refine Below.drewN _ ?_ | refine Below.drew ?_ | refine Below_alloc ?_ _ | refine Below.alloc ?_ (by first | (simp; done) | (simp; omega) | omega) _ | refine Below.setCell ?_ (by first | (simp; done) | (simp; omega) | omega) _ | refine Below_call ?_ (by assumption) | refine Below.trans ?_ (by assumption)))))
        all_goals (rw [wpSteps]; go_wp2_with ((go_at_call 129; ((with_reducible refine (D2.out _).mono ?_); rintro _ w8 ⟨rfl, hb8⟩); (try (refine row_k hb8 (fun hrow => ?_); obtain ⟨f0', f1', ff0, ff1, hlf⟩ := two_cells hrow)))); rw [contF]; refine ⟨?_, ?_⟩; (next => (repeat (with_reducible first | exact Below.refl _ _ | assumption | refine Below.drewN _ ?_ | refine Below.drew ?_ | refine Below_alloc ?_ _ | refine Below.alloc ?_ (by first | (simp; done) | (simp; omega) | omega) _ | refine Below.setCell ?_ (by first | (simp; done) | (simp; omega) | omega) _ | refine Below_call ?_ (by assumption) | refine Below.trans ?_ (by assumption)))))
        all_goals (rw [wpSteps])
        all_goals (rw [wpMixC])
        all_goals (rw [wpMix]; simp only [pick, List.drop_succ_cons, List.drop_zero, List.head?_cons, Option.toList_some, List.cons_append, List.nil_append])
        all_goals (go_wp2_with ((first | fail)); rw [contF])
        all_goals (rw [wpMix])
        all_goals (refine hQ' _ _ ?_)
        all_goals first
          | (have hb9 : Below X7.heap.size X7 w8 := by (repeat (with_reducible first | exact Below.refl _ _ | assumption | refine Below.drewN _ ?_ | refine Below.drew ?_ | refine Below_alloc ?_ _ | refine Below.alloc ?_ (by first | (simp; done) | (simp; omega) | omega) _ | refine Below.setCell ?_ (by first | (simp; done) | (simp; omega) | omega) _ | refine Below_call ?_ (by assumption) | refine Below.trans ?_ (by assumption)))
             obtain ⟨X8, hX8⟩ : ∃ X8, X8 = w8.alloc (.cells #[.int .i64 sl, .int .i64 sh] 157) := ⟨_, rfl⟩
             have R14 : X8.heap[w8.heap.size]? = some (.cells #[.int .i64 sl, .int .i64 sh] 157 (0, 0)) := by rw [hX8]; exact heap_alloc_new w8 _
             have hgh : X7.heap.size ≤ w8.heap.size := hb9.size
             have hb78 : Below X7.heap.size X7 X8 := by rw [hX8]; (repeat (with_reducible first | exact Below.refl _ _ | assumption | refine Below.drewN _ ?_ | refine Below.drew ?_ | refine Below_alloc ?_ _ | refine Below.alloc ?_ (by first | (simp; done) | (simp; omega) | omega) _ | refine Below.setCell ?_ (by first | (simp; done) | (simp; omega) | omega) _ | refine Below_call ?_ (by assumption) | refine Below.trans ?_ (by assumption)))
             rw [← hX8]
             generalize w8.heap.size = h14 at R14 hgh ⊢
             clear hX8 hb8 hb9)
          | (have hb9 : Below X7.heap.size X7 w8 := by (repeat (with_reducible first | exact Below.refl _ _ | assumption | refine Below.drewN _ ?_ | refine Below.drew ?_ | refine Below_alloc ?_ _ | refine Below.alloc ?_ (by first | (simp; done) | (simp; omega) | omega) _ | refine Below.setCell ?_ (by first | (simp; done) | (simp; omega) | omega) _ | refine Below_call ?_ (by assumption) | refine Below.trans ?_ (by assumption)))
             obtain ⟨X8, hX8⟩ : ∃ X8, X8 = (w8.setCell ⟨X7.heap.size, 0, none⟩ (.int .i64 sl)).setCell ⟨X7.heap.size, 1, none⟩ (.int .i64 sh) := ⟨_, rfl⟩
             have R14 : X8.heap[X7.heap.size]? = some (.cells #[.int .i64 sl, .int .i64 sh] 157 (0, 0)) := by rw [hX8]; exact two_set hrow
             have hb78 : Below X7.heap.size X7 X8 := by rw [hX8]; (repeat (with_reducible first | exact Below.refl _ _ | assumption | refine Below.drewN _ ?_ | refine Below.drew ?_ | refine Below_alloc ?_ _ | refine Below.alloc ?_ (by first | (simp; done) | (simp; omega) | omega) _ | refine Below.setCell ?_ (by first | (simp; done) | (simp; omega) | omega) _ | refine Below_call ?_ (by assumption) | refine Below.trans ?_ (by assumption)))
             rw [← hX8]
             obtain ⟨h14, hg⟩ : ∃ g, g = X7.heap.size := ⟨_, rfl⟩
             have hgh : X7.heap.size ≤ h14 := by omega
             rw [← hg] at R14 ⊢
             clear hX8 hg hb8 hb9 f0' f1' ff0 ff1 hlf hrow)
        all_goals
          clear y0 y1 hly g0 g1 g2 hlgx a4 hl0x
          have hb8 : Below wr.heap.size wr X8 := HB7.out.trans (hb78.mono HB7.out.size)
          have hz8 := hb8.size
          obtain ⟨s0, s1, fs0, fs1, hls⟩ := two_cells R14
          obtain ⟨x0, x1, fx0, fx1, hlx⟩ := two_cells ((hb78.block wr.heap.size hlx7).trans R12'.out)
          have T9 := hid ((hb8.block W.heap.size hlr9).trans HR9.out)
          have T10 := hid ((hb8.block (W.heap.size + 1) hlr10).trans HR10.out)
          obtain ⟨u0, u1, fu0, fu1, hlu⟩ := two_cells T9.out
          obtain ⟨z0, z1, fz0, fz1, hlz⟩ := two_cells T10.out
          have HB8 := hid hb8
          clear fs0 fs1 fx0 fx1 hb8 hb78 fu0 fu1 fz0 fz1
          go_wp2_with fail
          refine wp_mixC (KeepB [wr.heap.size, h14, W.heap.size + 1] X8) 10 [.q [1, 2, 5, 6], .p 0 3, .f [4, 7, 8, 9]] [.f [10]] (by kernel_rfl) (by kernel_rfl) ((KeepB.refl (by first | (simp; done) | (simp; omega))).drew) ?_
          intro Q' hQ'
          (rw [wpMixC]; simp only [pick, List.drop_succ_cons, List.drop_zero, List.head?_cons, Option.toList_some, List.cons_append, List.nil_append])
          (repeat (first | go_big_quiet_skip | (go_big_quiet_want; refine quiet_simple rfl ?_; go_big_quiet_op; go_big_quiet_on) | (go_big_quiet_want; refine quiet_agg2K (ty := 157) rfl rfl (by kernel_rfl) (by assumption) (by assumption) (by simp) ?_; simp only [Act.put, List.setIfInBounds_toArray, List.set_cons_succ, List.set_cons_zero]; go_big_quiet_on)))
          (try refine wpQuiet_nil ?_)
          (rw [wpMixC]; simp only [pick, List.drop_succ_cons, List.drop_zero, List.head?_cons, Option.toList_some, List.cons_append, List.nil_append])
          (refine ⟨?_, ?_⟩)
          all_goals (rw [wpSteps]; go_wp2_with ((first | (go_at_call 131; ((with_reducible refine (D3.out _).mono ?_); rintro _ w9 ⟨rfl, hb9⟩); have hb9' : Below X8.heap.size X8 w9 := (by (repeat (with_reducible first | exact Below.refl _ _ | assumption | refine Below.drewN _ ?_ | refine Below.drew ?_ | refine Below_alloc ?_ _ | refine Below.alloc ?_ (by first | (simp; done) | (simp; omega) | omega) _ | refine Below.setCell ?_ (by first | (simp; done) | (simp; omega) | omega) _ | refine Below_call ?_ (by assumption) | refine Below.trans ?_ (by assumption)))); have HB9 := hid hb9'; clear hb9'; obtain ⟨u0, u1, fu0, fu1, hlu⟩ := two_cells ((HB9.out.block W.heap.size (Array.getElem?_eq_some_iff.1 T9.out).1).trans T9.out)) | (go_at_call 129; ((with_reducible refine (D4.out _).mono ?_); rintro _ w10 ⟨rfl, hb10⟩); have HB10 := hid hb10) | (go_at_call 130; ((with_reducible refine (D5.out _).mono ?_); rintro _ w11 ⟨rfl, hb11⟩); have HB11 := hid hb11) | (go_at_call 129; ((with_reducible refine (D6.out _).mono ?_); rintro _ w12 ⟨rfl, hb12⟩); have HB12 : Hid (Below X8.heap.size X8 w12) := hid (((HB9.out.trans (HB10.out.mono HB9.out.size)).trans (HB11.out.mono (Nat.le_trans HB9.out.size HB10.out.size))).trans (hb12.mono (Nat.le_trans (Nat.le_trans HB9.out.size HB10.out.size) HB11.out.size))); have V9 := hid ((HB12.out.block W.heap.size (Array.getElem?_eq_some_iff.1 T9.out).1).trans T9.out); have V10 := hid ((HB12.out.block (W.heap.size + 1) (Array.getElem?_eq_some_iff.1 T10.out).1).trans T10.out); obtain ⟨i0, i1, fi0, fi1, hli⟩ := two_cells V9.out; obtain ⟨j0, j1, fj0, fj1, hlj⟩ := two_cells V10.out))); rw [contF]; refine ⟨?_, ?_⟩; (next => (repeat (with_reducible first | assumption | exact KeepB.refl (by first | (simp; done) | (simp; omega)) | refine KeepB.drew ?_ | refine KeepB.alloc ?_ _ | refine KeepB.setCell ?_ (by first | (simp; done) | (simp; omega)) | refine KeepB.below ?_ (by assumption)))))
          all_goals (rw [wpSteps]; go_wp2_with ((first | (go_at_call 131; ((with_reducible refine (D3.out _).mono ?_); rintro _ w9 ⟨rfl, hb9⟩); have hb9' : Below X8.heap.size X8 w9 := (by (repeat (with_reducible first | exact Below.refl _ _ | assumption | refine Below.drewN _ ?_ | refine Below.drew ?_ | refine Below_alloc ?_ _ | refine Below.alloc ?_ (by first | (simp; done) | (simp; omega) | omega) _ | refine Below.setCell ?_ (by first | (simp; done) | (simp; omega) | omega) _ | refine Below_call ?_ (by assumption) | refine Below.trans ?_ (by assumption)))); have HB9 := hid hb9'; clear hb9'; obtain ⟨u0, u1, fu0, fu1, hlu⟩ := two_cells ((HB9.out.block W.heap.size (Array.getElem?_eq_some_iff.1 T9.out).1).trans T9.out)) | (go_at_call 129; ((with_reducible refine (D4.out _).mono ?_); rintro _ w10 ⟨rfl, hb10⟩); have HB10 := hid hb10) | (go_at_call 130; ((with_reducible refine (D5.out _).mono ?_); rintro _ w11 ⟨rfl, hb11⟩); have HB11 := hid hb11) | (go_at_call 129; ((with_reducible refine (D6.out _).mono ?_); rintro _ w12 ⟨rfl, hb12⟩); have HB12 : Hid (Below X8.heap.size X8 w12) := hid (((HB9.out.trans (HB10.out.mono HB9.out.size)).trans (HB11.out.mono (Nat.le_trans HB9.out.size HB10.out.size))).trans (hb12.mono (Nat.le_trans (Nat.le_trans HB9.out.size HB10.out.size) HB11.out.size))); have V9 := hid ((HB12.out.block W.heap.size (Array.getElem?_eq_some_iff.1 T9.out).1).trans T9.out); have V10 := hid ((HB12.out.block (W.heap.size + 1) (Array.getElem?_eq_some_iff.1 T10.out).1).trans T10.out); obtain ⟨i0, i1, fi0, fi1, hli⟩ := two_cells V9.out; obtain ⟨j0, j1, fj0, fj1, hlj⟩ := two_cells V10.out))); rw [contF]; refine ⟨?_, ?_⟩; (next => (repeat (with_reducible first | assumption | exact KeepB.refl (by first | (simp; done) | (simp; omega)) | refine KeepB.drew ?_ | refine KeepB.alloc ?_ _ | refine KeepB.setCell ?_ (by first | (simp; done) | (simp; omega)) | refine KeepB.below ?_ (by assumption)))))
          all_goals (rw [wpSteps])
          all_goals (rw [wpMixC]; simp only [pick, List.drop_succ_cons, List.drop_zero, List.head?_cons, Option.toList_some, List.cons_append, List.nil_append])
          all_goals (rw [wpSteps]; go_wp2_with ((first | (go_at_call 129; ((with_reducible refine (D4.out _).mono ?_); rintro _ w10 ⟨rfl, hb10⟩); have HB10 := hid hb10) | (go_at_call 129; ((with_reducible refine (D6.out _).mono ?_); rintro _ w12 ⟨rfl, hb12⟩); have HB12 : Hid (Below X8.heap.size X8 w12) := hid (((HB9.out.trans (HB10.out.mono HB9.out.size)).trans (HB11.out.mono (Nat.le_trans HB9.out.size HB10.out.size))).trans (hb12.mono (Nat.le_trans (Nat.le_trans HB9.out.size HB10.out.size) HB11.out.size))); have V9 := hid ((HB12.out.block W.heap.size (Array.getElem?_eq_some_iff.1 T9.out).1).trans T9.out); have V10 := hid ((HB12.out.block (W.heap.size + 1) (Array.getElem?_eq_some_iff.1 T10.out).1).trans T10.out); obtain ⟨i0, i1, fi0, fi1, hli⟩ := two_cells V9.out; obtain ⟨j0, j1, fj0, fj1, hlj⟩ := two_cells V10.out))); rw [contF]; refine ⟨?_, ?_⟩; (next => (repeat (with_reducible first | assumption | exact KeepB.refl (by first | (simp; done) | (simp; omega)) | refine KeepB.drew ?_ | refine KeepB.alloc ?_ _ | refine KeepB.setCell ?_ (by first | (simp; done) | (simp; omega)) | refine KeepB.below ?_ (by assumption)))))
          all_goals (rw [wpSteps]; go_wp2_with ((go_at_call 130; ((with_reducible refine (D5.out _).mono ?_); rintro _ w11 ⟨rfl, hb11⟩); have HB11 := hid hb11)); rw [contF]; refine ⟨?_, ?_⟩; (next => (repeat (with_reducible first | assumption | exact KeepB.refl (by first | (simp; done) | (simp; omega)) | refine KeepB.drew ?_ | refine KeepB.alloc ?_ _ | refine KeepB.setCell ?_ (by first | (simp; done) | (simp; omega)) | refine KeepB.below ?_ (by assumption)))))
          all_goals (rw [wpSteps]; go_wp2_with ((first | (go_at_call 129; ((with_reducible refine (D4.out _).mono ?_); rintro _ w10 ⟨rfl, hb10⟩); have HB10 := hid hb10) | (go_at_call 129; ((with_reducible refine (D6.out _).mono ?_); rintro _ w12 ⟨rfl, hb12⟩); have HB12 : Hid (Below X8.heap.size X8 w12) := hid (((HB9.out.trans (HB10.out.mono HB9.out.size)).trans (HB11.out.mono (Nat.le_trans HB9.out.size HB10.out.size))).trans (hb12.mono (Nat.le_trans (Nat.le_trans HB9.out.size HB10.out.size) HB11.out.size))); have V9 := hid ((HB12.out.block W.heap.size (Array.getElem?_eq_some_iff.1 T9.out).1).trans T9.out); have V10 := hid ((HB12.out.block (W.heap.size + 1) (Array.getElem?_eq_some_iff.1 T10.out).1).trans T10.out); obtain ⟨i0, i1, fi0, fi1, hli⟩ := two_cells V9.out; obtain ⟨j0, j1, fj0, fj1, hlj⟩ := two_cells V10.out))); rw [contF]; refine ⟨?_, ?_⟩; (next => (repeat (with_reducible first | assumption | exact KeepB.refl (by first | (simp; done) | (simp; omega)) | refine KeepB.drew ?_ | refine KeepB.alloc ?_ _ | refine KeepB.setCell ?_ (by first | (simp; done) | (simp; omega)) | refine KeepB.below ?_ (by assumption)))))
          all_goals (rw [wpSteps]; go_wp2_with (fail); rw [contF]; refine ⟨?_, ?_⟩; (next => (repeat (with_reducible first | assumption | exact KeepB.refl (by first | (simp; done) | (simp; omega)) | refine KeepB.drew ?_ | refine KeepB.alloc ?_ _ | refine KeepB.setCell ?_ (by first | (simp; done) | (simp; omega)) | refine KeepB.below ?_ (by assumption)))))
          all_goals (rw [wpSteps])
          all_goals (rw [wpMixC])
          all_goals (rw [wpMix]; simp only [pick, List.drop_succ_cons, List.drop_zero, List.head?_cons, Option.toList_some, List.cons_append, List.nil_append])
          all_goals (go_wp2_with ((first | fail)); rw [contF])
          all_goals (rw [wpMix])
          all_goals (refine hQ' _ _ ?_)
          all_goals
            go_wp2_with fail
            go_roundw
            case rel =>
              obtain ⟨t1, t2⟩ := two_set2 (x' := .int .i64 p2l) (y' := .int .i64 p2h) (u' := .int .i64 l2l) (v' := .int .i64 l2h) V9.out V10.out (by omega)
              exact ⟨2, p2l, p2h, l2l, l2h, by omega, by go_num, hid t1, hid t2, hid ⟨by omega, by omega, fun _ => ⟨rfl, rfl, rfl, rfl⟩, by omega⟩, ((hbel.trans (HB8.out.mono (by omega))).trans (HB12.out.mono (by omega))).trans (((((Below.refl _ _).setCell (by simp) _).setCell (by simp) _).setCell (by simp) _).setCell (by simp) _)⟩
            case measure => simp [intOf]
      · obtain ⟨rfl, rfl, rfl, rfl⟩ := HO.out.2.2.1 rfl
        obtain ⟨⟨rl, rh⟩, ⟨sl, sh⟩, ⟨ul, uh⟩, ⟨vl, vh⟩, TD, kT, C1, C2, C3, C4, C5, C6⟩ := HK2.out
        unfold CR Rg.v at C1 C2 C3 C4 C5 C6
        simp only at C1 C2 C3 C4 C5 C6
        have D1 := hid C1
        have D2 := hid C2
        have D3 := hid C3
        have D4 := hid C4
        have D5 := hid C5
        have D6 := hid C6
        clear C1 C2 C3 C4 C5 C6
        obtain ⟨c0, c1, c2, c3, c4, c5, hlc⟩ := six_row S1.out
        go_wp2_with fail
        refine wp_mixC (fun wc => Below (wr.heap.size) wr wc) 10 [.q [0, 1, 2, 3, 4, 5, 6, 7, 8], .f [9]] [.f [10]] (by kernel_rfl) (by kernel_rfl) ((Below.refl _ _).drew) ?_
        intro Q' hQ'
        (rw [wpMixC]; simp only [pick, List.drop_succ_cons, List.drop_zero, List.head?_cons, Option.toList_some, List.cons_append, List.nil_append])
        (repeat (first | go_big_quiet_skip | (go_big_quiet_want; refine quiet_simple rfl ?_; go_big_quiet_op; go_big_quiet_on) | (go_big_quiet_want; refine quiet_cellB (ty := 3) rfl rfl (by kernel_rfl) (by assumption) (by first | omega | (simp; omega)) ?_; simp only [Act.put, List.setIfInBounds_toArray, List.set_cons_succ, List.set_cons_zero]; go_big_quiet_on)))
        (try refine wpQuiet_nil ?_)
        (rw [wpMixC]; simp only [pick, List.drop_succ_cons, List.drop_zero, List.head?_cons, Option.toList_some, List.cons_append, List.nil_append])
        (rw [wpSteps]; go_wp2_with (fail); rw [contF]; refine ⟨?_, ?_⟩; (next => (repeat (with_reducible first | exact Below.refl _ _ | assumption | refine Below.drewN _ ?_ | refine Below.drew ?_ | refine Below_alloc ?_ _ | refine Below.alloc ?_ (by first | (simp; done) | (simp; omega) | omega) _ | refine Below.setCell ?_ (by first | (simp; done) | (simp; omega) | omega) _ | refine Below_call ?_ (by assumption) | refine Below.trans ?_ (by assumption)))))
        (rw [wpSteps])
        (rw [wpMixC])
        (rw [wpMix]; simp only [pick, List.drop_succ_cons, List.drop_zero, List.head?_cons, Option.toList_some, List.cons_append, List.nil_append])
        (go_wp2_with ((first | fail)); rw [contF])
        (rw [wpMix])
        (refine hQ' _ _ ?_)
        obtain ⟨X6, hX6⟩ : ∃ X6, X6 = (wr.alloc (.cells #[.int .i64 lz, .int .i64 hz] 157)).drew := ⟨_, rfl⟩
        rw [← hX6]
        have hb6 : Below wr.heap.size wr X6 := by rw [hX6]; (repeat (with_reducible first | exact Below.refl _ _ | assumption | refine Below.drewN _ ?_ | refine Below.drew ?_ | refine Below_alloc ?_ _ | refine Below.alloc ?_ (by first | (simp; done) | (simp; omega) | omega) _ | refine Below.setCell ?_ (by first | (simp; done) | (simp; omega) | omega) _ | refine Below_call ?_ (by assumption) | refine Below.trans ?_ (by assumption)))
        have R12 : X6.heap[wr.heap.size]? = some (.cells #[.int .i64 lz, .int .i64 hz] 157 (0, 0)) := by rw [hX6]; exact heap_alloc_new wr _
        clear hX6
        obtain ⟨x0, x1, fx0, fx1, hlx⟩ := two_cells R12
        clear fx0 fx1 c0 c1 c2 c3 c4 c5 hlc
        go_wp2_with (go_at_call 131; ((with_reducible refine (D1.out _).mono ?_); rintro _ w7 ⟨rfl, hb7⟩))
        have hz7 : X6.heap.size ≤ w7.heap.size := hb7.size
        obtain ⟨X7, hX7⟩ : ∃ X7, X7 = w7.alloc (.cells #[.int .i64 rl, .int .i64 rh] 157) := ⟨_, rfl⟩
        rw [← hX7]
        have hb7' : Below w7.heap.size w7 X7 := by rw [hX7]; (repeat (with_reducible first | exact Below.refl _ _ | assumption | refine Below.drewN _ ?_ | refine Below.drew ?_ | refine Below_alloc ?_ _ | refine Below.alloc ?_ (by first | (simp; done) | (simp; omega) | omega) _ | refine Below.setCell ?_ (by first | (simp; done) | (simp; omega) | omega) _ | refine Below_call ?_ (by assumption) | refine Below.trans ?_ (by assumption)))
        have R13 : X7.heap[w7.heap.size]? = some (.cells #[.int .i64 rl, .int .i64 rh] 157 (0, 0)) := by rw [hX7]; exact heap_alloc_new w7 _
        clear hX7
        have hb67 : Below X6.heap.size X6 X7 := hb7.trans (hb7'.mono hz7)
        have HB7 : Hid (Below wr.heap.size wr X7) := hid (hb6.trans (hb67.mono hb6.size))
        have R12' := hid ((hb67.block wr.heap.size hlx).trans R12)
        have hlx7 := (Array.getElem?_eq_some_iff.1 R12'.out).1
        obtain ⟨y0, y1, fy0, fy1, hly⟩ := two_cells R13
        obtain ⟨g0, g1, g2, fg0, fg1, fg2, hlgx⟩ := three_cells ((HB7.out.block g (by omega)).trans SG.out)
        have a4 : X7.cell? ⟨w.heap.size, 4, none⟩ = some (.int .i64 tk) := by rw [cell_of_row X7 _ 4 _ _ (0, 0) ((HB7.out.block w.heap.size (by omega)).trans S0.out)]; rfl
        have hl0x : w.heap.size < X7.heap.size := by omega
        clear fy0 fy1 fg0 fg1 fg2 x0 x1 hlx R12 R13 hb7 hb7' hb67 hb6
        refine wp_mixC (fun wc => Below (X7.heap.size) X7 wc) 18 [.q [0, 1, 2, 3, 4, 5, 6, 7, 8, 9, 10, 11, 12, 13, 14, 15], .p 16 17] [.f [18]] (by kernel_rfl) (by kernel_rfl) ((Below.refl _ _).drew) ?_
        intro Q' hQ'
        (rw [wpMixC]; simp only [pick, List.drop_succ_cons, List.drop_zero, List.head?_cons, Option.toList_some, List.cons_append, List.nil_append])
        (repeat (first | go_big_quiet_skip | (go_big_quiet_want; refine quiet_simple rfl ?_; go_big_quiet_op; go_big_quiet_on) | (go_big_quiet_want; refine quiet_cellB (ty := 3) rfl rfl (by kernel_rfl) (by assumption) (by first | omega | (simp; omega)) ?_; simp only [Act.put, List.setIfInBounds_toArray, List.set_cons_succ, List.set_cons_zero]; go_big_quiet_on) | (go_big_quiet_want; refine quiet_agg2B (ty := 157) rfl rfl (by kernel_rfl) (by assumption) (by assumption) (by first | omega | (simp; omega)) ?_; simp only [Act.put, List.setIfInBounds_toArray, List.set_cons_succ, List.set_cons_zero]; go_big_quiet_on)))
        (try refine wpQuiet_nil ?_)
        (rw [wpMixC]; simp only [pick, List.drop_succ_cons, List.drop_zero, List.head?_cons, Option.toList_some, List.cons_append, List.nil_append])
        (refine ⟨?_, ?_⟩)
        all_goals (rw [wpSteps]; go_wp2_with ((go_at_call 129; ((with_reducible refine (D2.out _).mono ?_); rintro _ w8 ⟨rfl, hb8⟩); (try (refine row_k hb8 (fun hrow => ?_); obtain ⟨f0', f1', ff0, ff1, hlf⟩ := two_cells hrow)))); rw [contF]; refine ⟨?_, ?_⟩; (next => (repeat (with_reducible first | exact Below.refl _ _ | assumption | refine Below.drewN _ ?_ | refine Below.drew ?_ | refine Below_alloc ?_ _ | refine Below.alloc ?_ (by first | (simp; done) | (simp; omega) | omega) _ | refine Below.setCell ?_ (by first | (simp; done) | (simp; omega) | omega) _ | refine Below_call ?_ (by assumption) | refine Below.trans ?_ (by assumption)))))
        all_goals (rw [wpSteps]; go_wp2_with ((go_at_call 129; ((with_reducible refine (D2.out _).mono ?_); rintro _ w8 ⟨rfl, hb8⟩); (try (refine row_k hb8 (fun hrow => ?_); obtain ⟨f0', f1', ff0, ff1, hlf⟩ := two_cells hrow)))); rw [contF]; refine ⟨?_, ?_⟩; (next => (repeat (with_reducible first | exact Below.refl _ _ | assumption | refine Below.drewN _ ?_ | refine Below.drew ?_ | refine Below_alloc ?_ _ | refine Below.alloc ?_ (by first | (simp; done) | (simp; omega) | omega) _ | refine Below.setCell ?_ (by first | (simp; done) | (simp; omega) | omega) _ | refine Below_call ?_ (by assumption) | refine Below.trans ?_ (by assumption)))))
        all_goals (rw [wpSteps])
        all_goals (rw [wpMixC])
        all_goals (rw [wpMix]; simp only [pick, List.drop_succ_cons, List.drop_zero, List.head?_cons, Option.toList_some, List.cons_append, List.nil_append])
        all_goals (go_wp2_with ((first | fail)); rw [contF])
        all_goals (rw [wpMix])
        all_goals (refine hQ' _ _ ?_)
        all_goals first
          | (have hb9 : Below X7.heap.size X7 w8 := by (repeat (with_reducible first | exact Below.refl _ _ | assumption | refine Below.drewN _ ?_ | refine Below.drew ?_ | refine Below_alloc ?_ _ | refine Below.alloc ?_ (by first | (simp; done) | (simp; omega) | omega) _ | refine Below.setCell ?_ (by first | (simp; done) | (simp; omega) | omega) _ | refine Below_call ?_ (by assumption) | refine Below.trans ?_ (by assumption)))
             obtain ⟨X8, hX8⟩ : ∃ X8, X8 = w8.alloc (.cells #[.int .i64 sl, .int .i64 sh] 157) := ⟨_, rfl⟩
             have R14 : X8.heap[w8.heap.size]? = some (.cells #[.int .i64 sl, .int .i64 sh] 157 (0, 0)) := by rw [hX8]; exact heap_alloc_new w8 _
             have hgh : X7.heap.size ≤ w8.heap.size := hb9.size
             have hb78 : Below X7.heap.size X7 X8 := by rw [hX8]; (repeat (with_reducible first | exact Below.refl _ _ | assumption | refine Below.drewN _ ?_ | refine Below.drew ?_ | refine Below_alloc ?_ _ | refine Below.alloc ?_ (by first | (simp; done) | (simp; omega) | omega) _ | refine Below.setCell ?_ (by first | (simp; done) | (simp; omega) | omega) _ | refine Below_call ?_ (by assumption) | refine Below.trans ?_ (by assumption)))
             rw [← hX8]
             generalize w8.heap.size = h14 at R14 hgh ⊢
             clear hX8 hb8 hb9)
          | (have hb9 : Below X7.heap.size X7 w8 := by (repeat (with_reducible first | exact Below.refl _ _ | assumption | refine Below.drewN _ ?_ | refine Below.drew ?_ | refine Below_alloc ?_ _ | refine Below.alloc ?_ (by first | (simp; done) | (simp; omega) | omega) _ | refine Below.setCell ?_ (by first | (simp; done) | (simp; omega) | omega) _ | refine Below_call ?_ (by assumption) | refine Below.trans ?_ (by assumption)))
             obtain ⟨X8, hX8⟩ : ∃ X8, X8 = (w8.setCell ⟨X7.heap.size, 0, none⟩ (.int .i64 sl)).setCell ⟨X7.heap.size, 1, none⟩ (.int .i64 sh) := ⟨_, rfl⟩
             have R14 : X8.heap[X7.heap.size]? = some (.cells #[.int .i64 sl, .int .i64 sh] 157 (0, 0)) := by rw [hX8]; exact two_set hrow
             have hb78 : Below X7.heap.size X7 X8 := by rw [hX8]; (repeat (with_reducible first | exact Below.refl _ _ | assumption | refine Below.drewN _ ?_ | refine Below.drew ?_ | refine Below_alloc ?_ _ | refine Below.alloc ?_ (by first | (simp; done) | (simp; omega) | omega) _ | refine Below.setCell ?_ (by first | (simp; done) | (simp; omega) | omega) _ | refine Below_call ?_ (by assumption) | refine Below.trans ?_ (by assumption)))
             rw [← hX8]
             obtain ⟨h14, hg⟩ : ∃ g, g = X7.heap.size := ⟨_, rfl⟩
             have hgh : X7.heap.size ≤ h14 := by omega
             rw [← hg] at R14 ⊢
             clear hX8 hg hb8 hb9 f0' f1' ff0 ff1 hlf hrow)
        all_goals
          clear y0 y1 hly g0 g1 g2 hlgx a4 hl0x
          have hb8 : Below wr.heap.size wr X8 := HB7.out.trans (hb78.mono HB7.out.size)
          have hz8 := hb8.size
          obtain ⟨s0, s1, fs0, fs1, hls⟩ := two_cells R14
          obtain ⟨x0, x1, fx0, fx1, hlx⟩ := two_cells ((hb78.block wr.heap.size hlx7).trans R12'.out)
          have T9 := hid ((hb8.block W.heap.size hlr9).trans HR9.out)
          have T10 := hid ((hb8.block (W.heap.size + 1) hlr10).trans HR10.out)
          obtain ⟨u0, u1, fu0, fu1, hlu⟩ := two_cells T9.out
          obtain ⟨z0, z1, fz0, fz1, hlz⟩ := two_cells T10.out
          have HB8 := hid hb8
          clear fs0 fs1 fx0 fx1 hb8 hb78 fu0 fu1 fz0 fz1
          go_wp2_with fail
          refine wp_mixC (KeepB [wr.heap.size, h14, W.heap.size + 1] X8) 10 [.q [1, 2, 5, 6], .p 0 3, .f [4, 7, 8, 9]] [.f [10]] (by kernel_rfl) (by kernel_rfl) ((KeepB.refl (by first | (simp; done) | (simp; omega))).drew) ?_
          intro Q' hQ'
          (rw [wpMixC]; simp only [pick, List.drop_succ_cons, List.drop_zero, List.head?_cons, Option.toList_some, List.cons_append, List.nil_append])
          (repeat (first | go_big_quiet_skip | (go_big_quiet_want; refine quiet_simple rfl ?_; go_big_quiet_op; go_big_quiet_on) | (go_big_quiet_want; refine quiet_agg2K (ty := 157) rfl rfl (by kernel_rfl) (by assumption) (by assumption) (by simp) ?_; simp only [Act.put, List.setIfInBounds_toArray, List.set_cons_succ, List.set_cons_zero]; go_big_quiet_on)))
          (try refine wpQuiet_nil ?_)
          (rw [wpMixC]; simp only [pick, List.drop_succ_cons, List.drop_zero, List.head?_cons, Option.toList_some, List.cons_append, List.nil_append])
          (refine ⟨?_, ?_⟩)
          all_goals (rw [wpSteps]; go_wp2_with ((first | (go_at_call 131; ((with_reducible refine (D3.out _).mono ?_); rintro _ w9 ⟨rfl, hb9⟩); have hb9' : Below X8.heap.size X8 w9 := (by (repeat (with_reducible first | exact Below.refl _ _ | assumption | refine Below.drewN _ ?_ | refine Below.drew ?_ | refine Below_alloc ?_ _ | refine Below.alloc ?_ (by first | (simp; done) | (simp; omega) | omega) _ | refine Below.setCell ?_ (by first | (simp; done) | (simp; omega) | omega) _ | refine Below_call ?_ (by assumption) | refine Below.trans ?_ (by assumption)))); have HB9 := hid hb9'; clear hb9'; obtain ⟨u0, u1, fu0, fu1, hlu⟩ := two_cells ((HB9.out.block W.heap.size (Array.getElem?_eq_some_iff.1 T9.out).1).trans T9.out)) | (go_at_call 129; ((with_reducible refine (D4.out _).mono ?_); rintro _ w10 ⟨rfl, hb10⟩); have HB10 := hid hb10) | (go_at_call 130; ((with_reducible refine (D5.out _).mono ?_); rintro _ w11 ⟨rfl, hb11⟩); have HB11 := hid hb11) | (go_at_call 129; ((with_reducible refine (D6.out _).mono ?_); rintro _ w12 ⟨rfl, hb12⟩); have HB12 : Hid (Below X8.heap.size X8 w12) := hid (((HB9.out.trans (HB10.out.mono HB9.out.size)).trans (HB11.out.mono (Nat.le_trans HB9.out.size HB10.out.size))).trans (hb12.mono (Nat.le_trans (Nat.le_trans HB9.out.size HB10.out.size) HB11.out.size))); have V9 := hid ((HB12.out.block W.heap.size (Array.getElem?_eq_some_iff.1 T9.out).1).trans T9.out); have V10 := hid ((HB12.out.block (W.heap.size + 1) (Array.getElem?_eq_some_iff.1 T10.out).1).trans T10.out); obtain ⟨i0, i1, fi0, fi1, hli⟩ := two_cells V9.out; obtain ⟨j0, j1, fj0, fj1, hlj⟩ := two_cells V10.out))); rw [contF]; refine ⟨?_, ?_⟩; (next => (repeat (with_reducible first | assumption | exact KeepB.refl (by first | (simp; done) | (simp; omega)) | refine KeepB.drew ?_ | refine KeepB.alloc ?_ _ | refine KeepB.setCell ?_ (by first | (simp; done) | (simp; omega)) | refine KeepB.below ?_ (by assumption)))))
          all_goals (rw [wpSteps]; go_wp2_with ((first | (go_at_call 131; ((with_reducible refine (D3.out _).mono ?_); rintro _ w9 ⟨rfl, hb9⟩); have hb9' : Below X8.heap.size X8 w9 := (by (repeat (with_reducible first | exact Below.refl _ _ | assumption | refine Below.drewN _ ?_ | refine Below.drew ?_ | refine Below_alloc ?_ _ | refine Below.alloc ?_ (by first | (simp; done) | (simp; omega) | omega) _ | refine Below.setCell ?_ (by first | (simp; done) | (simp; omega) | omega) _ | refine Below_call ?_ (by assumption) | refine Below.trans ?_ (by assumption)))); have HB9 := hid hb9'; clear hb9'; obtain ⟨u0, u1, fu0, fu1, hlu⟩ := two_cells ((HB9.out.block W.heap.size (Array.getElem?_eq_some_iff.1 T9.out).1).trans T9.out)) | (go_at_call 129; ((with_reducible refine (D4.out _).mono ?_); rintro _ w10 ⟨rfl, hb10⟩); have HB10 := hid hb10) | (go_at_call 130; ((with_reducible refine (D5.out _).mono ?_); rintro _ w11 ⟨rfl, hb11⟩); have HB11 := hid hb11) | (go_at_call 129; ((with_reducible refine (D6.out _).mono ?_); rintro _ w12 ⟨rfl, hb12⟩); have HB12 : Hid (Below X8.heap.size X8 w12) := hid (((HB9.out.trans (HB10.out.mono HB9.out.size)).trans (HB11.out.mono (Nat.le_trans HB9.out.size HB10.out.size))).trans (hb12.mono (Nat.le_trans (Nat.le_trans HB9.out.size HB10.out.size) HB11.out.size))); have V9 := hid ((HB12.out.block W.heap.size (Array.getElem?_eq_some_iff.1 T9.out).1).trans T9.out); have V10 := hid ((HB12.out.block (W.heap.size + 1) (Array.getElem?_eq_some_iff.1 T10.out).1).trans T10.out); obtain ⟨i0, i1, fi0, fi1, hli⟩ := two_cells V9.out; obtain ⟨j0, j1, fj0, fj1, hlj⟩ := two_cells V10.out))); rw [contF]; refine ⟨?_, ?_⟩; (next => (repeat (with_reducible first | assumption | exact KeepB.refl (by first | (simp; done) | (simp; omega)) | refine KeepB.drew ?_ | refine KeepB.alloc ?_ _ | refine KeepB.setCell ?_ (by first | (simp; done) | (simp; omega)) | refine KeepB.below ?_ (by assumption)))))
          all_goals (rw [wpSteps])
          all_goals (rw [wpMixC]; simp only [pick, List.drop_succ_cons, List.drop_zero, List.head?_cons, Option.toList_some, List.cons_append, List.nil_append])
          all_goals (rw [wpSteps]; go_wp2_with ((first | (go_at_call 129; ((with_reducible refine (D4.out _).mono ?_); rintro _ w10 ⟨rfl, hb10⟩); have HB10 := hid hb10) | (go_at_call 129; ((with_reducible refine (D6.out _).mono ?_); rintro _ w12 ⟨rfl, hb12⟩); have HB12 : Hid (Below X8.heap.size X8 w12) := hid (((HB9.out.trans (HB10.out.mono HB9.out.size)).trans (HB11.out.mono (Nat.le_trans HB9.out.size HB10.out.size))).trans (hb12.mono (Nat.le_trans (Nat.le_trans HB9.out.size HB10.out.size) HB11.out.size))); have V9 := hid ((HB12.out.block W.heap.size (Array.getElem?_eq_some_iff.1 T9.out).1).trans T9.out); have V10 := hid ((HB12.out.block (W.heap.size + 1) (Array.getElem?_eq_some_iff.1 T10.out).1).trans T10.out); obtain ⟨i0, i1, fi0, fi1, hli⟩ := two_cells V9.out; obtain ⟨j0, j1, fj0, fj1, hlj⟩ := two_cells V10.out))); rw [contF]; refine ⟨?_, ?_⟩; (next => (repeat (with_reducible first | assumption | exact KeepB.refl (by first | (simp; done) | (simp; omega)) | refine KeepB.drew ?_ | refine KeepB.alloc ?_ _ | refine KeepB.setCell ?_ (by first | (simp; done) | (simp; omega)) | refine KeepB.below ?_ (by assumption)))))
          all_goals (rw [wpSteps]; go_wp2_with ((go_at_call 130; ((with_reducible refine (D5.out _).mono ?_); rintro _ w11 ⟨rfl, hb11⟩); have HB11 := hid hb11)); rw [contF]; refine ⟨?_, ?_⟩; (next => (repeat (with_reducible first | assumption | exact KeepB.refl (by first | (simp; done) | (simp; omega)) | refine KeepB.drew ?_ | refine KeepB.alloc ?_ _ | refine KeepB.setCell ?_ (by first | (simp; done) | (simp; omega)) | refine KeepB.below ?_ (by assumption)))))
          all_goals (rw [wpSteps]; go_wp2_with ((first | (go_at_call 129; ((with_reducible refine (D4.out _).mono ?_); rintro _ w10 ⟨rfl, hb10⟩); have HB10 := hid hb10) | (go_at_call 129; ((with_reducible refine (D6.out _).mono ?_); rintro _ w12 ⟨rfl, hb12⟩); have HB12 : Hid (Below X8.heap.size X8 w12) := hid (((HB9.out.trans (HB10.out.mono HB9.out.size)).trans (HB11.out.mono (Nat.le_trans HB9.out.size HB10.out.size))).trans (hb12.mono (Nat.le_trans (Nat.le_trans HB9.out.size HB10.out.size) HB11.out.size))); have V9 := hid ((HB12.out.block W.heap.size (Array.getElem?_eq_some_iff.1 T9.out).1).trans T9.out); have V10 := hid ((HB12.out.block (W.heap.size + 1) (Array.getElem?_eq_some_iff.1 T10.out).1).trans T10.out); obtain ⟨i0, i1, fi0, fi1, hli⟩ := two_cells V9.out; obtain ⟨j0, j1, fj0, fj1, hlj⟩ := two_cells V10.out))); rw [contF]; refine ⟨?_, ?_⟩; (next => (repeat (with_reducible first | assumption | exact KeepB.refl (by first | (simp; done) | (simp; omega)) | refine KeepB.drew ?_ | refine KeepB.alloc ?_ _ | refine KeepB.setCell ?_ (by first | (simp; done) | (simp; omega)) | refine KeepB.below ?_ (by assumption)))))
          all_goals (rw [wpSteps]; go_wp2_with (fail); rw [contF]; refine ⟨?_, ?_⟩; (next => (repeat (with_reducible first | assumption | exact KeepB.refl (by first | (simp; done) | (simp; omega)) | refine KeepB.drew ?_ | refine KeepB.alloc ?_ _ | refine KeepB.setCell ?_ (by first | (simp; done) | (simp; omega)) | refine KeepB.below ?_ (by assumption)))))
          all_goals (rw [wpSteps])
          all_goals (rw [wpMixC])
          all_goals (rw [wpMix]; simp only [pick, List.drop_succ_cons, List.drop_zero, List.head?_cons, Option.toList_some, List.cons_append, List.nil_append])
          all_goals (go_wp2_with ((first | fail)); rw [contF])
          all_goals (rw [wpMix])
          all_goals (refine hQ' _ _ ?_)
          all_goals
            go_wp2_with fail
            go_roundw
            case rel =>
              obtain ⟨t1, t2⟩ := two_set2 (x' := .int .i64 p3l) (y' := .int .i64 p3h) (u' := .int .i64 l3l) (v' := .int .i64 l3h) V9.out V10.out (by omega)
              exact ⟨3, p3l, p3h, l3l, l3h, by omega, by go_num, hid t1, hid t2, hid ⟨by omega, by omega, by omega, fun _ => ⟨rfl, rfl, rfl, rfl⟩⟩, ((hbel.trans (HB8.out.mono (by omega))).trans (HB12.out.mono (by omega))).trans (((((Below.refl _ _).setCell (by simp) _).setCell (by simp) _).setCell (by simp) _).setCell (by simp) _)⟩
            case measure => simp [intOf]
      · obtain ⟨rfl, rfl, rfl, rfl⟩ := HO.out.2.2.2 rfl
        obtain ⟨m0, m1, m2, m3, m4, m5, m6, m7, m8, m9, m10, m11, ml⟩ := tw_cells (S0.out)
        obtain ⟨c0, c1, c2, c3, c4, c5, hlc⟩ := six_row S1.out
        go_wp2_with (go_at_call 93; ((with_reducible refine (HSQ.out _).mono ?_); rintro _ w13 ⟨rfl, hb13⟩))
        have hz13 : wr.heap.size ≤ w13.heap.size := hb13.size
        obtain ⟨Y, hY⟩ : ∃ Y, Y = w13.alloc (.cells #[.int .i64 sql, .int .i64 sqh] 157) := ⟨_, rfl⟩
        rw [← hY]
        have hbY : Below w13.heap.size w13 Y := by rw [hY]; (repeat (with_reducible first | exact Below.refl _ _ | assumption | refine Below.drewN _ ?_ | refine Below.drew ?_ | refine Below_alloc ?_ _ | refine Below.alloc ?_ (by first | (simp; done) | (simp; omega) | omega) _ | refine Below.setCell ?_ (by first | (simp; done) | (simp; omega) | omega) _ | refine Below_call ?_ (by assumption) | refine Below.trans ?_ (by assumption)))
        have R15 : Y.heap[w13.heap.size]? = some (.cells #[.int .i64 sql, .int .i64 sqh] 157 (0, 0)) := by rw [hY]; exact heap_alloc_new w13 _
        clear hY m0 m1 m2 m3 m4 m5 m6 m7 m8 m9 m10 m11 ml c0 c1 c2 c3 c4 c5 hlc
        have hbrY : Below wr.heap.size wr Y := hb13.trans (hbY.mono hz13)
        have HBY2 : Hid (Below w.heap.size w Y) := hid (HBY.out.trans (hbrY.mono HBY.out.size))
        have Y9 := hid ((hbrY.block W.heap.size hlr9).trans HR9.out)
        have Y10 := hid ((hbrY.block (W.heap.size + 1) hlr10).trans HR10.out)
        obtain ⟨m0, m1, m2, m3, m4, m5, m6, m7, m8, m9, m10, m11, ml⟩ := tw_cells ((hbrY.block w.heap.size (by omega)).trans S0.out)
        obtain ⟨s0, s1, fs0, fs1, hls⟩ := two_cells R15
        have hmx := HMX.out
        have hmn := HMN.out
        have hl9Y := (Array.getElem?_eq_some_iff.1 Y9.out).1
        have hl10Y := (Array.getElem?_eq_some_iff.1 Y10.out).1
        clear fs0 fs1 R15 hb13 hbY hbrY
        refine wp_mixH (fun wc => Below (Y.heap.size) Y wc) 22 [0, 1, 2, 3, 4, 5, 6, 7, 10, 11, 12, 13, 14, 15, 16, 17] [(8, [9]), (18, [19, 20])] 21 [] [.f [22]] (by kernel_rfl) (by kernel_rfl) ((Below.refl _ _).drew) ?_
        intro Q' hQ'
        simp only [pick, List.drop_succ_cons, List.drop_zero, List.head?_cons, Option.toList_some, List.cons_append, List.nil_append]
        (repeat (first | go_big_quiet_skip | (go_big_quiet_want; refine quiet_simple rfl ?_; go_big_quiet_op; go_big_quiet_on) | (go_big_quiet_want; refine quiet_cellB (ty := 3) rfl rfl (by kernel_rfl) (by assumption) (by first | omega | (simp; omega)) ?_; simp only [Act.put, List.setIfInBounds_toArray, List.set_cons_succ, List.set_cons_zero]; go_big_quiet_on) | (go_big_quiet_want; refine quiet_agg12B (ty := 134) rfl rfl (by kernel_rfl) (by assumption) (by assumption) (by assumption) (by assumption) (by assumption) (by assumption) (by assumption) (by assumption) (by assumption) (by assumption) (by assumption) (by assumption) (by first | omega | (simp; omega)) ?_; simp only [Act.put, List.setIfInBounds_toArray, List.set_cons_succ, List.set_cons_zero]; go_big_quiet_on) | (go_big_quiet_want; refine quiet_min rfl rfl rfl (by first | assumption | rfl | omega) ?_; simp only [Act.put, List.setIfInBounds_toArray, List.set_cons_succ, List.set_cons_zero]; go_big_quiet_on) | (go_big_quiet_want; refine quiet_max rfl rfl rfl (by first | assumption | rfl | omega) ?_; simp only [Act.put, List.setIfInBounds_toArray, List.set_cons_succ, List.set_cons_zero]; go_big_quiet_on)))
        (try refine wpQuiet_nil ?_)
        (rw [wpFl])
        (refine ⟨?_, ?_⟩)
        ((try simp only [pick, List.drop_succ_cons, List.drop_zero, List.head?_cons, Option.toList_some, List.cons_append, List.nil_append]); rw [wpSteps]; (go_wp2_with ((go_at_call 121; (first | (have hx14 := hb14; ((with_reducible refine (HSL.out _).mono ?_); rintro _ w15 ⟨rfl, hb15⟩); clear hx14; (first | (refine row_n2 hb15 (fun hrow => ?_); obtain ⟨f0', f1', ff0, ff1, hlf⟩ := two_cells hrow) | (have hrow' := (hb15.block _ hlf).trans hrow; clear hrow f0' f1' ff0 ff1; have hrow := hrow'; clear hrow'; have hlf2 := hlf; clear hlf; obtain ⟨f0', f1', ff0, ff1, hlf⟩ := two_cells hrow) | skip)) | (((with_reducible refine (HSL.out _).mono ?_); rintro _ w14 ⟨rfl, hb14⟩); have hz14 : Y.heap.size ≤ w14.heap.size := (by have := hb14.size; first | exact this | (simp at this; omega)); (first | (refine row_k hb14 (fun hrow => ?_); obtain ⟨f0', f1', ff0, ff1, hlf⟩ := two_cells hrow) | skip))))); rw [contF]; refine ⟨?_, ?_⟩; (next => (repeat (with_reducible first | exact Below.refl _ _ | assumption | refine Below.drewN _ ?_ | refine Below.drew ?_ | refine Below_alloc ?_ _ | refine Below.alloc ?_ (by first | (simp; done) | (simp; omega) | omega) _ | refine Below.setCell ?_ (by first | (simp; done) | (simp; omega) | omega) _ | refine Below_call ?_ (by assumption) | refine Below.trans ?_ (by assumption))))); rw [wpSteps])
        (try simp only [pick, List.drop_succ_cons, List.drop_zero, List.head?_cons, Option.toList_some, List.cons_append, List.nil_append])
        (repeat (first | go_big_quiet_skip | (go_big_quiet_want; refine quiet_simple rfl ?_; go_big_quiet_op; go_big_quiet_on) | (go_big_quiet_want; refine quiet_cellB (ty := 3) rfl rfl (by kernel_rfl) (by assumption) (by first | omega | (simp; omega)) ?_; simp only [Act.put, List.setIfInBounds_toArray, List.set_cons_succ, List.set_cons_zero]; go_big_quiet_on) | (go_big_quiet_want; refine quiet_agg12B (ty := 134) rfl rfl (by kernel_rfl) (by assumption) (by assumption) (by assumption) (by assumption) (by assumption) (by assumption) (by assumption) (by assumption) (by assumption) (by assumption) (by assumption) (by assumption) (by first | omega | (simp; omega)) ?_; simp only [Act.put, List.setIfInBounds_toArray, List.set_cons_succ, List.set_cons_zero]; go_big_quiet_on) | (go_big_quiet_want; refine quiet_min rfl rfl rfl (by first | assumption | rfl | omega) ?_; simp only [Act.put, List.setIfInBounds_toArray, List.set_cons_succ, List.set_cons_zero]; go_big_quiet_on) | (go_big_quiet_want; refine quiet_max rfl rfl rfl (by first | assumption | rfl | omega) ?_; simp only [Act.put, List.setIfInBounds_toArray, List.set_cons_succ, List.set_cons_zero]; go_big_quiet_on)))
        (try refine wpQuiet_nil ?_)
        rotate_left
        ((try simp only [pick, List.drop_succ_cons, List.drop_zero, List.head?_cons, Option.toList_some, List.cons_append, List.nil_append]); rw [wpSteps]; (go_wp2_with (fail); rw [contF]; refine ⟨?_, ?_⟩; (next => (repeat (with_reducible first | exact Below.refl _ _ | assumption | refine Below.drewN _ ?_ | refine Below.drew ?_ | refine Below_alloc ?_ _ | refine Below.alloc ?_ (by first | (simp; done) | (simp; omega) | omega) _ | refine Below.setCell ?_ (by first | (simp; done) | (simp; omega) | omega) _ | refine Below_call ?_ (by assumption) | refine Below.trans ?_ (by assumption))))); rw [wpSteps])
        (simp only [flat7, List.cons_append, List.nil_append])
        (rw [wpMixC])
        ((try simp only [pick, List.drop_succ_cons, List.drop_zero, List.head?_cons, Option.toList_some, List.cons_append, List.nil_append]); rw [wpSteps]; (go_wp2_with ((go_at_call 121; (first | (have hx14 := hb14; ((with_reducible refine (HSL.out _).mono ?_); rintro _ w15 ⟨rfl, hb15⟩); clear hx14; (first | (refine row_n2 hb15 (fun hrow => ?_); obtain ⟨f0', f1', ff0, ff1, hlf⟩ := two_cells hrow) | (have hrow' := (hb15.block _ hlf).trans hrow; clear hrow f0' f1' ff0 ff1; have hrow := hrow'; clear hrow'; have hlf2 := hlf; clear hlf; obtain ⟨f0', f1', ff0, ff1, hlf⟩ := two_cells hrow) | skip)) | (((with_reducible refine (HSL.out _).mono ?_); rintro _ w14 ⟨rfl, hb14⟩); have hz14 : Y.heap.size ≤ w14.heap.size := (by have := hb14.size; first | exact this | (simp at this; omega)); (first | (refine row_k hb14 (fun hrow => ?_); obtain ⟨f0', f1', ff0, ff1, hlf⟩ := two_cells hrow) | skip))))); rw [contF]; refine ⟨?_, ?_⟩; (next => (repeat (with_reducible first | exact Below.refl _ _ | assumption | refine Below.drewN _ ?_ | refine Below.drew ?_ | refine Below_alloc ?_ _ | refine Below.alloc ?_ (by first | (simp; done) | (simp; omega) | omega) _ | refine Below.setCell ?_ (by first | (simp; done) | (simp; omega) | omega) _ | refine Below_call ?_ (by assumption) | refine Below.trans ?_ (by assumption))))); rw [wpSteps])
        (rw [wpMixC])
        (try simp only [pick, List.drop_succ_cons, List.drop_zero, List.head?_cons, Option.toList_some, List.cons_append, List.nil_append])
        (repeat (first | go_big_quiet_skip | (go_big_quiet_want; refine quiet_simple rfl ?_; go_big_quiet_op; go_big_quiet_on) | (go_big_quiet_want; refine quiet_cellB (ty := 3) rfl rfl (by kernel_rfl) (by assumption) (by first | omega | (simp; omega)) ?_; simp only [Act.put, List.setIfInBounds_toArray, List.set_cons_succ, List.set_cons_zero]; go_big_quiet_on) | (go_big_quiet_want; refine quiet_agg12B (ty := 134) rfl rfl (by kernel_rfl) (by assumption) (by assumption) (by assumption) (by assumption) (by assumption) (by assumption) (by assumption) (by assumption) (by assumption) (by assumption) (by assumption) (by assumption) (by first | omega | (simp; omega)) ?_; simp only [Act.put, List.setIfInBounds_toArray, List.set_cons_succ, List.set_cons_zero]; go_big_quiet_on) | (go_big_quiet_want; refine quiet_min rfl rfl rfl (by first | assumption | rfl | omega) ?_; simp only [Act.put, List.setIfInBounds_toArray, List.set_cons_succ, List.set_cons_zero]; go_big_quiet_on) | (go_big_quiet_want; refine quiet_max rfl rfl rfl (by first | assumption | rfl | omega) ?_; simp only [Act.put, List.setIfInBounds_toArray, List.set_cons_succ, List.set_cons_zero]; go_big_quiet_on)))
        (try refine wpQuiet_nil ?_)
        (rw [wpMixC])
        ((try simp only [pick, List.drop_succ_cons, List.drop_zero, List.head?_cons, Option.toList_some, List.cons_append, List.nil_append]); rw [wpSteps]; (go_wp2_with ((go_at_call 121; (first | (have hx14 := hb14; ((with_reducible refine (HSL.out _).mono ?_); rintro _ w15 ⟨rfl, hb15⟩); clear hx14; (first | (refine row_n2 hb15 (fun hrow => ?_); obtain ⟨f0', f1', ff0, ff1, hlf⟩ := two_cells hrow) | (have hrow' := (hb15.block _ hlf).trans hrow; clear hrow f0' f1' ff0 ff1; have hrow := hrow'; clear hrow'; have hlf2 := hlf; clear hlf; obtain ⟨f0', f1', ff0, ff1, hlf⟩ := two_cells hrow) | skip)) | (((with_reducible refine (HSL.out _).mono ?_); rintro _ w14 ⟨rfl, hb14⟩); have hz14 : Y.heap.size ≤ w14.heap.size := (by have := hb14.size; first | exact this | (simp at this; omega)); (first | (refine row_k hb14 (fun hrow => ?_); obtain ⟨f0', f1', ff0, ff1, hlf⟩ := two_cells hrow) | skip))))); rw [contF]; refine ⟨?_, ?_⟩; (next => (repeat (with_reducible first | exact Below.refl _ _ | assumption | refine Below.drewN _ ?_ | refine Below.drew ?_ | refine Below_alloc ?_ _ | refine Below.alloc ?_ (by first | (simp; done) | (simp; omega) | omega) _ | refine Below.setCell ?_ (by first | (simp; done) | (simp; omega) | omega) _ | refine Below_call ?_ (by assumption) | refine Below.trans ?_ (by assumption))))); rw [wpSteps])
        (rw [wpMixC])
        (try simp only [pick, List.drop_succ_cons, List.drop_zero, List.head?_cons, Option.toList_some, List.cons_append, List.nil_append])
        (repeat (first | go_big_quiet_skip | (go_big_quiet_want; refine quiet_simple rfl ?_; go_big_quiet_op; go_big_quiet_on) | (go_big_quiet_want; refine quiet_cellB (ty := 3) rfl rfl (by kernel_rfl) (by assumption) (by first | omega | (simp; omega)) ?_; simp only [Act.put, List.setIfInBounds_toArray, List.set_cons_succ, List.set_cons_zero]; go_big_quiet_on) | (go_big_quiet_want; refine quiet_agg12B (ty := 134) rfl rfl (by kernel_rfl) (by assumption) (by assumption) (by assumption) (by assumption) (by assumption) (by assumption) (by assumption) (by assumption) (by assumption) (by assumption) (by assumption) (by assumption) (by first | omega | (simp; omega)) ?_; simp only [Act.put, List.setIfInBounds_toArray, List.set_cons_succ, List.set_cons_zero]; go_big_quiet_on) | (go_big_quiet_want; refine quiet_min rfl rfl rfl (by first | assumption | rfl | omega) ?_; simp only [Act.put, List.setIfInBounds_toArray, List.set_cons_succ, List.set_cons_zero]; go_big_quiet_on) | (go_big_quiet_want; refine quiet_max rfl rfl rfl (by first | assumption | rfl | omega) ?_; simp only [Act.put, List.setIfInBounds_toArray, List.set_cons_succ, List.set_cons_zero]; go_big_quiet_on)))
        (try refine wpQuiet_nil ?_)
        rotate_right
        (rw [wpFl])
        (refine ⟨?_, ?_⟩)
        ((try simp only [pick, List.drop_succ_cons, List.drop_zero, List.head?_cons, Option.toList_some, List.cons_append, List.nil_append]); rw [wpSteps]; (go_wp2_with ((go_at_call 121; (first | (have hx14 := hb14; ((with_reducible refine (HSL.out _).mono ?_); rintro _ w15 ⟨rfl, hb15⟩); clear hx14; (first | (refine row_n2 hb15 (fun hrow => ?_); obtain ⟨f0', f1', ff0, ff1, hlf⟩ := two_cells hrow) | (have hrow' := (hb15.block _ hlf).trans hrow; clear hrow f0' f1' ff0 ff1; have hrow := hrow'; clear hrow'; have hlf2 := hlf; clear hlf; obtain ⟨f0', f1', ff0, ff1, hlf⟩ := two_cells hrow) | skip)) | (((with_reducible refine (HSL.out _).mono ?_); rintro _ w14 ⟨rfl, hb14⟩); have hz14 : Y.heap.size ≤ w14.heap.size := (by have := hb14.size; first | exact this | (simp at this; omega)); (first | (refine row_k hb14 (fun hrow => ?_); obtain ⟨f0', f1', ff0, ff1, hlf⟩ := two_cells hrow) | skip))))); rw [contF]; refine ⟨?_, ?_⟩; (next => (repeat (with_reducible first | exact Below.refl _ _ | assumption | refine Below.drewN _ ?_ | refine Below.drew ?_ | refine Below_alloc ?_ _ | refine Below.alloc ?_ (by first | (simp; done) | (simp; omega) | omega) _ | refine Below.setCell ?_ (by first | (simp; done) | (simp; omega) | omega) _ | refine Below_call ?_ (by assumption) | refine Below.trans ?_ (by assumption))))); rw [wpSteps])
        (try simp only [pick, List.drop_succ_cons, List.drop_zero, List.head?_cons, Option.toList_some, List.cons_append, List.nil_append])
        (repeat (first | go_big_quiet_skip | (go_big_quiet_want; refine quiet_simple rfl ?_; go_big_quiet_op; go_big_quiet_on) | (go_big_quiet_want; refine quiet_cellB (ty := 3) rfl rfl (by kernel_rfl) (by assumption) (by first | omega | (simp; omega)) ?_; simp only [Act.put, List.setIfInBounds_toArray, List.set_cons_succ, List.set_cons_zero]; go_big_quiet_on) | (go_big_quiet_want; refine quiet_agg12B (ty := 134) rfl rfl (by kernel_rfl) (by assumption) (by assumption) (by assumption) (by assumption) (by assumption) (by assumption) (by assumption) (by assumption) (by assumption) (by assumption) (by assumption) (by assumption) (by first | omega | (simp; omega)) ?_; simp only [Act.put, List.setIfInBounds_toArray, List.set_cons_succ, List.set_cons_zero]; go_big_quiet_on) | (go_big_quiet_want; refine quiet_min rfl rfl rfl (by first | assumption | rfl | omega) ?_; simp only [Act.put, List.setIfInBounds_toArray, List.set_cons_succ, List.set_cons_zero]; go_big_quiet_on) | (go_big_quiet_want; refine quiet_max rfl rfl rfl (by first | assumption | rfl | omega) ?_; simp only [Act.put, List.setIfInBounds_toArray, List.set_cons_succ, List.set_cons_zero]; go_big_quiet_on)))
        (try refine wpQuiet_nil ?_)
        rotate_left
        ((try simp only [pick, List.drop_succ_cons, List.drop_zero, List.head?_cons, Option.toList_some, List.cons_append, List.nil_append]); rw [wpSteps]; (go_wp2_with (fail); rw [contF]; refine ⟨?_, ?_⟩; (next => (repeat (with_reducible first | exact Below.refl _ _ | assumption | refine Below.drewN _ ?_ | refine Below.drew ?_ | refine Below_alloc ?_ _ | refine Below.alloc ?_ (by first | (simp; done) | (simp; omega) | omega) _ | refine Below.setCell ?_ (by first | (simp; done) | (simp; omega) | omega) _ | refine Below_call ?_ (by assumption) | refine Below.trans ?_ (by assumption))))); rw [wpSteps])
        (simp only [flat7, List.cons_append, List.nil_append])
        (rw [wpMixC])
        ((try simp only [pick, List.drop_succ_cons, List.drop_zero, List.head?_cons, Option.toList_some, List.cons_append, List.nil_append]); rw [wpSteps]; (go_wp2_with ((go_at_call 121; (first | (have hx14 := hb14; ((with_reducible refine (HSL.out _).mono ?_); rintro _ w15 ⟨rfl, hb15⟩); clear hx14; (first | (refine row_n2 hb15 (fun hrow => ?_); obtain ⟨f0', f1', ff0, ff1, hlf⟩ := two_cells hrow) | (have hrow' := (hb15.block _ hlf).trans hrow; clear hrow f0' f1' ff0 ff1; have hrow := hrow'; clear hrow'; have hlf2 := hlf; clear hlf; obtain ⟨f0', f1', ff0, ff1, hlf⟩ := two_cells hrow) | skip)) | (((with_reducible refine (HSL.out _).mono ?_); rintro _ w14 ⟨rfl, hb14⟩); have hz14 : Y.heap.size ≤ w14.heap.size := (by have := hb14.size; first | exact this | (simp at this; omega)); (first | (refine row_k hb14 (fun hrow => ?_); obtain ⟨f0', f1', ff0, ff1, hlf⟩ := two_cells hrow) | skip))))); rw [contF]; refine ⟨?_, ?_⟩; (next => (repeat (with_reducible first | exact Below.refl _ _ | assumption | refine Below.drewN _ ?_ | refine Below.drew ?_ | refine Below_alloc ?_ _ | refine Below.alloc ?_ (by first | (simp; done) | (simp; omega) | omega) _ | refine Below.setCell ?_ (by first | (simp; done) | (simp; omega) | omega) _ | refine Below_call ?_ (by assumption) | refine Below.trans ?_ (by assumption))))); rw [wpSteps])
        (rw [wpMixC])
        (try simp only [pick, List.drop_succ_cons, List.drop_zero, List.head?_cons, Option.toList_some, List.cons_append, List.nil_append])
        (repeat (first | go_big_quiet_skip | (go_big_quiet_want; refine quiet_simple rfl ?_; go_big_quiet_op; go_big_quiet_on) | (go_big_quiet_want; refine quiet_cellB (ty := 3) rfl rfl (by kernel_rfl) (by assumption) (by first | omega | (simp; omega)) ?_; simp only [Act.put, List.setIfInBounds_toArray, List.set_cons_succ, List.set_cons_zero]; go_big_quiet_on) | (go_big_quiet_want; refine quiet_agg12B (ty := 134) rfl rfl (by kernel_rfl) (by assumption) (by assumption) (by assumption) (by assumption) (by assumption) (by assumption) (by assumption) (by assumption) (by assumption) (by assumption) (by assumption) (by assumption) (by first | omega | (simp; omega)) ?_; simp only [Act.put, List.setIfInBounds_toArray, List.set_cons_succ, List.set_cons_zero]; go_big_quiet_on) | (go_big_quiet_want; refine quiet_min rfl rfl rfl (by first | assumption | rfl | omega) ?_; simp only [Act.put, List.setIfInBounds_toArray, List.set_cons_succ, List.set_cons_zero]; go_big_quiet_on) | (go_big_quiet_want; refine quiet_max rfl rfl rfl (by first | assumption | rfl | omega) ?_; simp only [Act.put, List.setIfInBounds_toArray, List.set_cons_succ, List.set_cons_zero]; go_big_quiet_on)))
        (try refine wpQuiet_nil ?_)
        rotate_right
        (rw [wpFl])
        ((try simp only [pick, List.drop_succ_cons, List.drop_zero, List.head?_cons, Option.toList_some, List.cons_append, List.nil_append]); rw [wpSteps]; (go_wp2_with (fail); rw [contF]; refine ⟨?_, ?_⟩; (next => (repeat (with_reducible first | exact Below.refl _ _ | assumption | refine Below.drewN _ ?_ | refine Below.drew ?_ | refine Below_alloc ?_ _ | refine Below.alloc ?_ (by first | (simp; done) | (simp; omega) | omega) _ | refine Below.setCell ?_ (by first | (simp; done) | (simp; omega) | omega) _ | refine Below_call ?_ (by assumption) | refine Below.trans ?_ (by assumption))))); rw [wpSteps])
        all_goals (rw [wpMixC])
        all_goals (rw [wpMix]; simp only [pick, List.drop_succ_cons, List.drop_zero, List.head?_cons, Option.toList_some, List.cons_append, List.nil_append])
        all_goals (go_wp2_with (fail); rw [contF])
        all_goals (rw [wpMix])
        all_goals (refine hQ' _ _ ?_)
        all_goals first
          | (have hb17 : Below Y.heap.size Y w15 := by (repeat (with_reducible first | exact Below.refl _ _ | assumption | refine Below.drewN _ ?_ | refine Below.drew ?_ | refine Below_alloc ?_ _ | refine Below.alloc ?_ (by first | (simp; done) | (simp; omega) | omega) _ | refine Below.setCell ?_ (by first | (simp; done) | (simp; omega) | omega) _ | refine Below_call ?_ (by assumption) | refine Below.trans ?_ (by assumption)))
             obtain ⟨Z, hZ⟩ : ∃ Z, Z = w15.alloc (.cells #[.int .i64 fl, .int .i64 fh] 157) := ⟨_, rfl⟩
             have R17 : Z.heap[w15.heap.size]? = some (.cells #[.int .i64 fl, .int .i64 fh] 157 (0, 0)) := by rw [hZ]; exact heap_alloc_new w15 _
             have hbYZ : Below Y.heap.size Y Z := by rw [hZ]; (repeat (with_reducible first | exact Below.refl _ _ | assumption | refine Below.drewN _ ?_ | refine Below.drew ?_ | refine Below_alloc ?_ _ | refine Below.alloc ?_ (by first | (simp; done) | (simp; omega) | omega) _ | refine Below.setCell ?_ (by first | (simp; done) | (simp; omega) | omega) _ | refine Below_call ?_ (by assumption) | refine Below.trans ?_ (by assumption)))
             rw [← hZ]
             obtain ⟨h17, hg⟩ : ∃ g, g = w15.heap.size := ⟨_, rfl⟩
             rw [← hg] at R17 ⊢
             clear hZ hg)
          | (have hb17 : Below Y.heap.size Y w15 := by (repeat (with_reducible first | exact Below.refl _ _ | assumption | refine Below.drewN _ ?_ | refine Below.drew ?_ | refine Below_alloc ?_ _ | refine Below.alloc ?_ (by first | (simp; done) | (simp; omega) | omega) _ | refine Below.setCell ?_ (by first | (simp; done) | (simp; omega) | omega) _ | refine Below_call ?_ (by assumption) | refine Below.trans ?_ (by assumption)))
             obtain ⟨Z, hZ⟩ : ∃ Z, Z = (w15.setCell ⟨w14.heap.size, 0, none⟩ (.int .i64 fl)).setCell ⟨w14.heap.size, 1, none⟩ (.int .i64 fh) := ⟨_, rfl⟩
             have R17 : Z.heap[w14.heap.size]? = some (.cells #[.int .i64 fl, .int .i64 fh] 157 (0, 0)) := by rw [hZ]; exact two_set hrow
             have hbYZ : Below Y.heap.size Y Z := by rw [hZ]; (repeat (with_reducible first | exact Below.refl _ _ | assumption | refine Below.drewN _ ?_ | refine Below.drew ?_ | refine Below_alloc ?_ _ | refine Below.alloc ?_ (by first | (simp; done) | (simp; omega) | omega) _ | refine Below.setCell ?_ (by first | (simp; done) | (simp; omega) | omega) _ | refine Below_call ?_ (by assumption) | refine Below.trans ?_ (by assumption)))
             rw [← hZ]
             obtain ⟨h17, hg⟩ : ∃ g, g = w14.heap.size := ⟨_, rfl⟩
             rw [← hg] at R17 ⊢
             clear hZ hg)
          | (have hb17 : Below Y.heap.size Y w15 := by (repeat (with_reducible first | exact Below.refl _ _ | assumption | refine Below.drewN _ ?_ | refine Below.drew ?_ | refine Below_alloc ?_ _ | refine Below.alloc ?_ (by first | (simp; done) | (simp; omega) | omega) _ | refine Below.setCell ?_ (by first | (simp; done) | (simp; omega) | omega) _ | refine Below_call ?_ (by assumption) | refine Below.trans ?_ (by assumption)))
             obtain ⟨Z, hZ⟩ : ∃ Z, Z = (w15.setCell ⟨Y.heap.size, 0, none⟩ (.int .i64 fl)).setCell ⟨Y.heap.size, 1, none⟩ (.int .i64 fh) := ⟨_, rfl⟩
             have R17 : Z.heap[Y.heap.size]? = some (.cells #[.int .i64 fl, .int .i64 fh] 157 (0, 0)) := by rw [hZ]; exact two_set hrow
             have hbYZ : Below Y.heap.size Y Z := by rw [hZ]; (repeat (with_reducible first | exact Below.refl _ _ | assumption | refine Below.drewN _ ?_ | refine Below.drew ?_ | refine Below_alloc ?_ _ | refine Below.alloc ?_ (by first | (simp; done) | (simp; omega) | omega) _ | refine Below.setCell ?_ (by first | (simp; done) | (simp; omega) | omega) _ | refine Below_call ?_ (by assumption) | refine Below.trans ?_ (by assumption)))
             rw [← hZ]
             obtain ⟨h17, hg⟩ : ∃ g, g = Y.heap.size := ⟨_, rfl⟩
             rw [← hg] at R17 ⊢
             clear hZ hg)
        all_goals
          have hbZ : Below w.heap.size w Z := HBY2.out.trans (hbYZ.mono HBY2.out.size)
          obtain ⟨u0, u1, fu0, fu1, hlu⟩ := two_cells ((hbYZ.block W.heap.size hl9Y).trans Y9.out)
          obtain ⟨z0, z1, fz0, fz1, hlz⟩ := two_cells ((hbYZ.block (W.heap.size + 1) hl10Y).trans Y10.out)
          obtain ⟨v0, v1, fv0, fv1, hlv⟩ := two_cells R17
          obtain ⟨⟨bp1, bp2⟩, ⟨bp3, bp4⟩⟩ := bP
          obtain ⟨⟨bq1, bq2⟩, ⟨bq3, bq4⟩⟩ := bL
          have g1 := mul_rg (x := ph) (y := ph) (A := 1214521200) (B := 1214521200) (C := 2000000000000000000) (by omega) (by omega) (by decide)
          have g2 := mul_rg (x := fh) (y := lh) (A := 1200) (B := 1229218121041200) (C := 2000000000000000000) (by omega) (by omega) (by decide)
          have g3 := mul_rg (x := pl) (y := pl) (A := 1214521200) (B := 1214521200) (C := 2000000000000000000) (by omega) (by omega) (by decide)
          have g4 := mul_rg (x := fl) (y := ll) (A := 1200) (B := 1229218121041200) (C := 2000000000000000000) (by omega) (by omega) (by decide)
          have HHV : Hid (ANS = if lh = 0 ∨ (ph ≤ 0 ∧ fh * lh ≤ ph * ph) then 2 else if 0 < ll ∧ (0 < pl ∨ pl * pl < fl * ll) then 0 else 1) := hid HV.out
          obtain ⟨X1, hX1⟩ : ∃ X, ph * ph = X := ⟨_, rfl⟩
          obtain ⟨X2, hX2⟩ : ∃ X, fh * lh = X := ⟨_, rfl⟩
          obtain ⟨X3, hX3⟩ : ∃ X, pl * pl = X := ⟨_, rfl⟩
          obtain ⟨X4, hX4⟩ : ∃ X, fl * ll = X := ⟨_, rfl⟩
          rw [hX1] at g1 HHV
          rw [hX2] at g2 HHV
          rw [hX3] at g3 HHV
          rw [hX4] at g4 HHV
          clear HV fu0 fu1 fz0 fz1 fv0 fv1 hbYZ m0 m1 m2 m3 m4 m5 m6 m7 m8 m9 m10 m11 ml s0 s1 hls hmx hmn f3 f4 R17 hb17 bl0 bl1
          (try clear hrow f0' f1' ff0 ff1 hlf)
          (try clear hlf2)
          (try clear hb15)
          (try clear hb14)
          by_cases e1 : lh = 0
          · have e1' : (lh == 0) = true := by simpa using e1
            go_wp2_with fail
            all_goals (go_ret; exact ⟨ret_int (by rw [HHV.out]; (repeat' split) <;> omega), by (repeat (with_reducible first | exact Below.refl _ _ | assumption | refine Below.drewN _ ?_ | refine Below.drew ?_ | refine Below_alloc ?_ _ | refine Below.alloc ?_ (by first | (simp; done) | (simp; omega) | omega) _ | refine Below.setCell ?_ (by first | (simp; done) | (simp; omega) | omega) _ | refine Below_call ?_ (by assumption) | refine Below.trans ?_ (by assumption)))⟩)
          · have e1' : (lh == 0) = false := by simpa using e1
            go_wp2_with fail
            all_goals (go_ret; exact ⟨ret_int (by rw [HHV.out]; (repeat' split) <;> omega), by (repeat (with_reducible first | exact Below.refl _ _ | assumption | refine Below.drewN _ ?_ | refine Below.drew ?_ | refine Below_alloc ?_ _ | refine Below.alloc ?_ (by first | (simp; done) | (simp; omega) | omega) _ | refine Below.setCell ?_ (by first | (simp; done) | (simp; omega) | omega) _ | refine Below_call ?_ (by assumption) | refine Below.trans ?_ (by assumption)))⟩)
end Go.Proofs.Ytlmdmpjfehpjeaa
