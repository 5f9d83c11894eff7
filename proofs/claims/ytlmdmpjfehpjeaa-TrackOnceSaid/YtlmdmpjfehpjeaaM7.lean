/- Tracks: the answer for a box by the program. -/
import Derived.Test.YtlmdmpjfehpjeaaM6
set_option linter.unusedVariables false
set_option linter.unusedSimpArgs false
namespace Go.Proofs.Ytlmdmpjfehpjeaa
open Go.RowKit

set_option maxRecDepth 100000 in
set_option maxHeartbeats 16000000 in
theorem track_answer (m : TMod) (b : TBox) (p : V3) (t : Int) (w : World) (ho : m.Ok) (hl : b.lo.inS 20 = true) (hh : b.hi.inS 20 = true) (hc : m.canBe b) (hp : p.inS 1000 = true) (ht : -1000101 ≤ t ∧ t ≤ 1000100) :
    Calls Try.prog 94 #[m.v, b.v, .agg #[.int .i64 p.x, .int .i64 p.y, .int .i64 p.z, .int .i64 t]] w fun e w' => e = .returned (.int .i64 (m.ans b p t)) ∧ Below w.heap.size w w' := by
  obtain ⟨P1, P2, L1, L2, K0, K1, K2, bP, bL, bl0, bl1⟩ := stg3 ho hl hh hp ht
  obtain ⟨f1, f2, f3, f4⟩ := fast_bd ho hl hh hc
  have hpl : m.pl.inS 100000000 = true := inS_iff.2 (by have h1 := ho.px; have h2 := ho.py; have h3 := ho.pz; unfold TMod.pl; simp only; omega)
  have hpp : p.inS 100000000 = true := inS_iff.2 (by have := inS_iff.1 hp; omega)
  have hA : -1010101 ≤ t - m.tm ∧ t - m.tm ≤ 1010101 := by have := ho.tm; omega
  have hat : IntKind.i64.wrap (t - m.tm) = t - m.tm := IntWalk.i64_in _ (by omega)
  have hng : IntKind.i64.wrap (-(t - m.tm)) = -(t - m.tm) := IntWalk.i64_in _ (by omega)
  have HMI : Hid (∀ W, Calls Try.prog 77 #[p.v, m.pl.v] W fun e w' => e = .returned (V3.v ⟨p.x - m.px, p.y - m.py, p.z - m.pz⟩) ∧ Below W.heap.size W w') := hid (fun W => track_minus p m.pl W hpp hpl)
  have HSL : Hid (∀ W, Calls Try.prog 121 #[m.v] W fun e w' => e = .returned (.int .i64 m.slow) ∧ Below W.heap.size W w') := hid (fun W => track_slow m W ho)
  have HSQ : Hid (∀ W, Calls Try.prog 93 #[m.v, b.v] W fun e w' => e = .returned (.tuple #[b.squares.v, .bool (m.canB b)]) ∧ Below W.heap.size W w') := hid (fun W => track_squares m b W hl hh)
  have HV : Hid (m.ans b p t = ansR (m.prodR b p t) (m.leftR b p t) (m.fast b)) := hid rfl
  have HK0 := hid K0
  have HK1 := hid K1
  have HK2 := hid K2
  clear K0 K1 K2 ho hc hp ht hpl hpp hA
  generalize m.ans b p t = ANS at HV ⊢
  generalize m.prodR b p t = P3 at HV HK2 bP
  generalize m.leftR b p t = L3 at HV HK2 bL bl0 bl1
  generalize m.fast b = FA at HV f1 f2 f3 f4
  generalize m.canB b = CB at HSQ
  generalize m.slow = SL at HSL f3 f4
  obtain ⟨px, py, pz, tm, tk, lo, hi, li, ea, la, no, mi⟩ := m
  obtain ⟨⟨lx, ly, lz⟩, ⟨hx, hy, hz⟩⟩ := b
  obtain ⟨qx, qy, qz⟩ := p
  simp only [TMod.pl, TBox.rx, TBox.ry, TBox.rz] at *
  generalize (⟨⟨lx, ly, lz⟩, ⟨hx, hy, hz⟩⟩ : TBox).squares = SQ at HSQ f3 f4
  generalize qx - px = dx at HMI HK0
  generalize qy - py = dy at HMI HK1
  generalize qz - pz = dz at HMI HK2
  generalize hAA : t - tm = A at *
  have hat' : IntKind.i64.wrap (t - tm) = A := by rw [hAA]; exact hat
  obtain ⟨sql, sqh⟩ := SQ
  obtain ⟨fl, fh⟩ := FA
  obtain ⟨p1l, p1h⟩ := P1
  obtain ⟨p2l, p2h⟩ := P2
  obtain ⟨p3l, p3h⟩ := P3
  obtain ⟨l1l, l1h⟩ := L1
  obtain ⟨l2l, l2h⟩ := L2
  obtain ⟨l3l, l3h⟩ := L3
  unfold TMod.v TBox.v V3.v Rg.v at *
  unfold Rg.bd at bP bL
  simp only at *
  obtain ⟨MX, hMX⟩ : ∃ MX, max sql lo = MX := ⟨_, rfl⟩
  obtain ⟨MN, hMN⟩ : ∃ MN, min sqh hi = MN := ⟨_, rfl⟩
  rw [hMX] at f3
  rw [hMN] at f4
  have HMX := hid hMX
  have HMN := hid hMN
  clear hat hAA hl hh hMX hMN
  obtain ⟨W0, hW0⟩ : ∃ W0, W0 = ((w.alloc (.cells #[.int .i64 px, .int .i64 py, .int .i64 pz, .int .i64 tm, .int .i64 tk, .int .i64 lo, .int .i64 hi, .int .i64 li, .int .i64 ea, .int .i64 la, .int .i64 no, .int .i64 mi] 134)).alloc (.cells #[.int .i64 lx, .int .i64 ly, .int .i64 lz, .int .i64 hx, .int .i64 hy, .int .i64 hz] 75)).alloc (.cells #[.int .i64 qx, .int .i64 qy, .int .i64 qz, .int .i64 t] 28) := ⟨_, rfl⟩
  have hbW0 : Below w.heap.size w W0 := by rw [hW0]; (repeat (with_reducible first | exact Below.refl _ _ | assumption | refine Below.drewN _ ?_ | refine Below.drew ?_ | refine Below_alloc ?_ _ | refine Below.alloc ?_ (by first | (simp; done) | (simp; omega) | omega) _ | refine Below.setCell ?_ (by first | (simp; done) | (simp; omega) | omega) _ | refine Below_call ?_ (by assumption) | refine Below.trans ?_ (by assumption)))
  obtain ⟨q0, q1, q2⟩ := al3 w _ _ _ _ _ _ W0 hW0
  have l0 := (Array.getElem?_eq_some_iff.1 q0).1
  have l1 := (Array.getElem?_eq_some_iff.1 q1).1
  have l2 := (Array.getElem?_eq_some_iff.1 q2).1
  have H0 := hid q0
  have H1 := hid q1
  have hzW0 := hbW0.size
  have c0 : W0.cell? ⟨w.heap.size, 0, none⟩ = some (.int .i64 px) := by rw [cell_of_row W0 _ 0 _ _ (0, 0) q0]; rfl
  have c1 : W0.cell? ⟨w.heap.size, 1, none⟩ = some (.int .i64 py) := by rw [cell_of_row W0 _ 1 _ _ (0, 0) q0]; rfl
  have c2 : W0.cell? ⟨w.heap.size, 2, none⟩ = some (.int .i64 pz) := by rw [cell_of_row W0 _ 2 _ _ (0, 0) q0]; rfl
  have c3 : W0.cell? ⟨w.heap.size, 3, none⟩ = some (.int .i64 tm) := by rw [cell_of_row W0 _ 3 _ _ (0, 0) q0]; rfl
  obtain ⟨e0, e1, e2, e3, hle⟩ := four_row q2
  clear q0 q1 q2
  go_enter Try.func94, Try.ntmps94
  go_wp2_with fail
  rw [← hW0]
  clear hW0
  refine wp_mixC (fun wc => Below (W0.heap.size) W0 wc) 14 [.q [0, 1, 2, 3, 4, 6, 7, 8, 9, 10, 11], .p 5 12, .f [13]] [.q [14]] (by kernel_rfl) (by kernel_rfl) ((Below.refl _ _).drew) ?_
  intro Q' hQ'
  (rw [wpMixC]; simp only [pick, List.drop_succ_cons, List.drop_zero, List.head?_cons, Option.toList_some, List.cons_append, List.nil_append])
  (repeat (first | go_big_quiet_skip | (go_big_quiet_want; refine quiet_simple rfl ?_; go_big_quiet_op; go_big_quiet_on) | (go_big_quiet_want; refine quiet_cellB (ty := 3) rfl rfl (by kernel_rfl) (by assumption) (by first | omega | (simp; omega)) ?_; simp only [Act.put, List.setIfInBounds_toArray, List.set_cons_succ, List.set_cons_zero]; go_big_quiet_on) | (go_big_quiet_want; refine quiet_agg3B (ty := 22) rfl rfl (by kernel_rfl) (by assumption) (by assumption) (by assumption) (by first | omega | (simp; omega)) ?_; simp only [Act.put, List.setIfInBounds_toArray, List.set_cons_succ, List.set_cons_zero]; go_big_quiet_on)))
  (try refine wpQuiet_nil ?_)
  (rw [wpMixC]; simp only [pick, List.drop_succ_cons, List.drop_zero, List.head?_cons, Option.toList_some, List.cons_append, List.nil_append])
  (refine ⟨?_, ?_⟩)
  all_goals (rw [wpSteps]; go_wp2_with ((go_at_call 77; refine (HMI.out _).mono ?_; rintro _ w1 ⟨rfl, hb1⟩; (try (refine row_k hb1 (fun hrow => ?_); obtain ⟨f0', f1', f2', ff0, ff1, ff2, hlf⟩ := three_cells hrow)))); rw [contF]; refine ⟨?_, ?_⟩; (next => (repeat (with_reducible first | exact Below.refl _ _ | assumption | refine Below.drewN _ ?_ | refine Below.drew ?_ | refine Below_alloc ?_ _ | refine Below.alloc ?_ (by first | (simp; done) | (simp; omega) | omega) _ | refine Below.setCell ?_ (by first | (simp; done) | (simp; omega) | omega) _ | refine Below_call ?_ (by assumption) | refine Below.trans ?_ (by assumption)))))
  all_goals (rw [wpSteps]; go_wp2_with ((go_at_call 77; refine (HMI.out _).mono ?_; rintro _ w1 ⟨rfl, hb1⟩; (try (refine row_k hb1 (fun hrow => ?_); obtain ⟨f0', f1', f2', ff0, ff1, ff2, hlf⟩ := three_cells hrow)))); rw [contF]; refine ⟨?_, ?_⟩; (next => (repeat (with_reducible first | exact Below.refl _ _ | assumption | refine Below.drewN _ ?_ | refine Below.drew ?_ | refine Below_alloc ?_ _ | refine Below.alloc ?_ (by first | (simp; done) | (simp; omega) | omega) _ | refine Below.setCell ?_ (by first | (simp; done) | (simp; omega) | omega) _ | refine Below_call ?_ (by assumption) | refine Below.trans ?_ (by assumption)))))
  all_goals (rw [wpSteps])
  all_goals (rw [wpMixC]; simp only [pick, List.drop_succ_cons, List.drop_zero, List.head?_cons, Option.toList_some, List.cons_append, List.nil_append])
  all_goals (rw [wpSteps]; go_wp2_with (fail); rw [contF]; refine ⟨?_, ?_⟩; (next => (repeat (with_reducible first | exact Below.refl _ _ | assumption | refine Below.drewN _ ?_ | refine Below.drew ?_ | refine Below_alloc ?_ _ | refine Below.alloc ?_ (by first | (simp; done) | (simp; omega) | omega) _ | refine Below.setCell ?_ (by first | (simp; done) | (simp; omega) | omega) _ | refine Below_call ?_ (by assumption) | refine Below.trans ?_ (by assumption)))))
  all_goals (rw [wpSteps])
  all_goals (rw [wpMixC])
  all_goals (rw [wpMix]; simp only [pick, List.drop_succ_cons, List.drop_zero, List.head?_cons, Option.toList_some, List.cons_append, List.nil_append])
  all_goals (repeat (first | (go_big_quiet_step (fail)) | (quiet_step (fail))))
  all_goals (try refine wpQuiet_nil ?_)
  all_goals (rw [wpMix])
  all_goals (refine hQ' _ _ ?_)
  all_goals first
    | (have hb2 : Below W0.heap.size W0 w1 := by (repeat (with_reducible first | exact Below.refl _ _ | assumption | refine Below.drewN _ ?_ | refine Below.drew ?_ | refine Below_alloc ?_ _ | refine Below.alloc ?_ (by first | (simp; done) | (simp; omega) | omega) _ | refine Below.setCell ?_ (by first | (simp; done) | (simp; omega) | omega) _ | refine Below_call ?_ (by assumption) | refine Below.trans ?_ (by assumption)))
       obtain ⟨W, hW⟩ : ∃ W, W = w1.alloc (.cells #[.int .i64 dx, .int .i64 dy, .int .i64 dz] 135) := ⟨_, rfl⟩
       have hrow : W.heap[w1.heap.size]? = some (.cells #[.int .i64 dx, .int .i64 dy, .int .i64 dz] 135 (0, 0)) := by rw [hW]; exact heap_alloc_new w1 _
       have hgg : W0.heap.size ≤ w1.heap.size := hb2.size
       have hbb : Below W0.heap.size W0 W := by rw [hW]; (repeat (with_reducible first | exact Below.refl _ _ | assumption | refine Below.drewN _ ?_ | refine Below.drew ?_ | refine Below_alloc ?_ _ | refine Below.alloc ?_ (by first | (simp; done) | (simp; omega) | omega) _ | refine Below.setCell ?_ (by first | (simp; done) | (simp; omega) | omega) _ | refine Below_call ?_ (by assumption) | refine Below.trans ?_ (by assumption)))
       rw [← hW]
       generalize w1.heap.size = g at hrow hgg ⊢
       clear hW hb1 hb2)
    | (have hb2 : Below W0.heap.size W0 w1 := by (repeat (with_reducible first | exact Below.refl _ _ | assumption | refine Below.drewN _ ?_ | refine Below.drew ?_ | refine Below_alloc ?_ _ | refine Below.alloc ?_ (by first | (simp; done) | (simp; omega) | omega) _ | refine Below.setCell ?_ (by first | (simp; done) | (simp; omega) | omega) _ | refine Below_call ?_ (by assumption) | refine Below.trans ?_ (by assumption)))
       obtain ⟨W, hW⟩ : ∃ W, W = ((w1.setCell ⟨W0.heap.size, 0, none⟩ (.int .i64 dx)).setCell ⟨W0.heap.size, 1, none⟩ (.int .i64 dy)).setCell ⟨W0.heap.size, 2, none⟩ (.int .i64 dz) := ⟨_, rfl⟩
       have hrow : W.heap[W0.heap.size]? = some (.cells #[.int .i64 dx, .int .i64 dy, .int .i64 dz] 135 (0, 0)) := by rw [hW]; exact heap_setCell_same _ _ 2 _ _ (.int .i64 dz) (heap_setCell_same _ _ 1 _ _ (.int .i64 dy) (heap_setCell_same _ _ 0 _ _ (.int .i64 dx) hrow))
       have hbb : Below W0.heap.size W0 W := by rw [hW]; (repeat (with_reducible first | exact Below.refl _ _ | assumption | refine Below.drewN _ ?_ | refine Below.drew ?_ | refine Below_alloc ?_ _ | refine Below.alloc ?_ (by first | (simp; done) | (simp; omega) | omega) _ | refine Below.setCell ?_ (by first | (simp; done) | (simp; omega) | omega) _ | refine Below_call ?_ (by assumption) | refine Below.trans ?_ (by assumption)))
       rw [← hW]
       obtain ⟨g, hg⟩ : ∃ g, g = W0.heap.size := ⟨_, rfl⟩
       have hgg : W0.heap.size ≤ g := by omega
       rw [← hg] at hrow ⊢
       clear hW hg hb1 hb2 f0' f1' f2' ff0 ff1 ff2 hlf)
  all_goals
    have hlg := (Array.getElem?_eq_some_iff.1 hrow).1
    have hzWW : W0.heap.size ≤ W.heap.size := hbb.size
    obtain ⟨W2, hW2⟩ : ∃ W2, W2 = (W.alloc (.cells #[.int .i64 0, .int .i64 0] 157)).alloc (.cells #[.int .i64 0, .int .i64 0] 157) := ⟨_, rfl⟩
    have hb2 : Below W.heap.size W W2 := by rw [hW2]; (repeat (with_reducible first | exact Below.refl _ _ | assumption | refine Below.drewN _ ?_ | refine Below.drew ?_ | refine Below_alloc ?_ _ | refine Below.alloc ?_ (by first | (simp; done) | (simp; omega) | omega) _ | refine Below.setCell ?_ (by first | (simp; done) | (simp; omega) | omega) _ | refine Below_call ?_ (by assumption) | refine Below.trans ?_ (by assumption)))
    obtain ⟨r9, r10, hl9, hl10⟩ := al2 W _ _ _ _ W2 hW2
    have R9 := hid r9
    have R10 := hid r10
    have R0 := hid ((hb2.block w.heap.size (by omega)).trans ((hbb.block w.heap.size l0).trans H0.out))
    have R1 := hid ((hb2.block (w.heap.size + 1) (by omega)).trans ((hbb.block (w.heap.size + 1) l1).trans H1.out))
    have RG := hid ((hb2.block g hlg).trans hrow)
    have hbx : Below w.heap.size w W2 := (hbW0.trans (hbb.mono (by omega))).trans (hb2.mono (by omega))
    have l0W : w.heap.size < W.heap.size := by omega
    have l1W : w.heap.size + 1 < W.heap.size := by omega
    have hzW2 : W.heap.size + 1 < W2.heap.size := hl10
    go_wp2_with fail
    rw [← hW2]
    clear hW2 hrow r9 r10 c0 c1 c2 c3 e0 e1 e2 e3 hle
    go_loopw [30] (fun i wr => ∃ (k : Nat) (pl ph ll lh : Int), k ≤ 3 ∧ i = .int .i64 k ∧ Hid (wr.heap[W.heap.size]? = some (.cells #[.int .i64 pl, .int .i64 ph] 157 (0, 0))) ∧ Hid (wr.heap[W.heap.size + 1]? = some (.cells #[.int .i64 ll, .int .i64 lh] 157 (0, 0))) ∧ Hid ((k = 0 → pl = 0 ∧ ph = 0 ∧ ll = 0 ∧ lh = 0) ∧ (k = 1 → pl = p1l ∧ ph = p1h ∧ ll = l1l ∧ lh = l1h) ∧ (k = 2 → pl = p2l ∧ ph = p2h ∧ ll = l2l ∧ lh = l2h) ∧ (k = 3 → pl = p3l ∧ ph = p3h ∧ ll = l3l ∧ lh = l3h)) ∧ Below W.heap.size W2 wr) (fun i _ => 3 - (intOf i).toNat)
    case atStart => exact ⟨0, 0, 0, 0, 0, by omega, rfl, R9, R10, hid ⟨fun _ => ⟨rfl, rfl, rfl, rfl⟩, by omega, by omega, by omega⟩, Below.refl _ _⟩
    case round =>
      obtain ⟨k, pl, ph, ll, lh, hk, rfl, HR9, HR10, HO, hbel⟩ := hrel
      have hzw := hbel.size
      have S0 := hid ((hbel.block w.heap.size l0W).trans R0.out)
      have S1 := hid ((hbel.block (w.heap.size + 1) l1W).trans R1.out)
      have SG := hid ((hbel.block g hlg).trans RG.out)
      have hby : Below w.heap.size w wr := hbx.trans (hbel.mono (by omega))
      have HBY := hid hby
      have hlr9 := (Array.getElem?_eq_some_iff.1 HR9.out).1
      have hlr10 := (Array.getElem?_eq_some_iff.1 HR10.out).1
      clear hby
      rcases (by omega : k = 0 ∨ k = 1 ∨ k = 2 ∨ k = 3) with rfl | rfl | rfl | rfl
      · obtain ⟨rfl, rfl, rfl, rfl⟩ := HO.out.1 rfl
        obtain ⟨⟨rl, rh⟩, ⟨sl, sh⟩, ⟨ul, uh⟩, ⟨vl, vh⟩, TD, kT, C1, C2, C3, C4, C5, C6⟩ := HK0.out
        unfold CR Rg.v at C1 C2 C3 C4 C5 C6
        simp only at C1 C2 C3 C4 C5 C6
        have D1 := hid C1
        have D2 := hid C2
        have D3 := hid C3
        have D4 := hid C4
        have D5 := hid C5
        have D6 := hid C6
        clear C1 C2 C3 C4 C5 C6
        obtain ⟨c0, c1, c2, c3, c4, c5, hlc⟩ := six_row S1.out
        go_wp2_with fail
        refine wp_mixC (fun wc => Below (wr.heap.size) wr wc) 10 [.q [0, 1, 2, 3, 4, 5, 6, 7, 8], .f [9]] [.f [10]] (by kernel_rfl) (by kernel_rfl) ((Below.refl _ _).drew) ?_
        intro Q' hQ'
        (rw [wpMixC]; simp only [pick, List.drop_succ_cons, List.drop_zero, List.head?_cons, Option.toList_some, List.cons_append, List.nil_append])
        (repeat (first | go_big_quiet_skip | (go_big_quiet_want; refine quiet_simple rfl ?_; go_big_quiet_op; go_big_quiet_on) | (go_big_quiet_want; refine quiet_cellB (ty := 3) rfl rfl (by kernel_rfl) (by assumption) (by first | omega | (simp; omega)) ?_; simp only [Act.put, List.setIfInBounds_toArray, List.set_cons_succ, List.set_cons_zero]; go_big_quiet_on)))
        (try refine wpQuiet_nil ?_)
        (rw [wpMixC]; simp only [pick, List.drop_succ_cons, List.drop_zero, List.head?_cons, Option.toList_some, List.cons_append, List.nil_append])
        (rw [wpSteps]; go_wp2_with (fail); rw [contF]; refine ⟨?_, ?_⟩; (next => (repeat (with_reducible first | exact Below.refl _ _ | assumption | refine Below.drewN _ ?_ | refine Below.drew ?_ | refine Below_alloc ?_ _ | refine Below.alloc ?_ (by first | (simp; done) | (simp; omega) | omega) _ | refine Below.setCell ?_ (by first | (simp; done) | (simp; omega) | omega) _ | refine Below_call ?_ (by assumption) | refine Below.trans ?_ (by assumption)))))
        (rw [wpSteps])
        (rw [wpMixC])
        (rw [wpMix]; simp only [pick, List.drop_succ_cons, List.drop_zero, List.head?_cons, Option.toList_some, List.cons_append, List.nil_append])
        (go_wp2_with ((first | fail)); rw [contF])
        (rw [wpMix])
        (refine hQ' _ _ ?_)
        obtain ⟨X6, hX6⟩ : ∃ X6, X6 = (wr.alloc (.cells #[.int .i64 lx, .int .i64 hx] 157)).drew := ⟨_, rfl⟩
        rw [← hX6]
        have hb6 : Below wr.heap.size wr X6 := by rw [hX6]; (repeat (with_reducible first | exact Below.refl _ _ | assumption | refine Below.drewN _ ?_ | refine Below.drew ?_ | refine Below_alloc ?_ _ | refine Below.alloc ?_ (by first | (simp; done) | (simp; omega) | omega) _ | refine Below.setCell ?_ (by first | (simp; done) | (simp; omega) | omega) _ | refine Below_call ?_ (by assumption) | refine Below.trans ?_ (by assumption)))
        have R12 : X6.heap[wr.heap.size]? = some (.cells #[.int .i64 lx, .int .i64 hx] 157 (0, 0)) := by rw [hX6]; exact heap_alloc_new wr _
        clear hX6
        obtain ⟨x0, x1, fx0, fx1, hlx⟩ := two_cells R12
        clear fx0 fx1 c0 c1 c2 c3 c4 c5 hlc
        go_wp2_with (go_at_call 131; ((with_reducible refine (D1.out _).mono ?_); rintro _ w7 ⟨rfl, hb7⟩))
        have hz7 : X6.heap.size ≤ w7.heap.size := hb7.size
        obtain ⟨X7, hX7⟩ : ∃ X7, X7 = w7.alloc (.cells #[.int .i64 rl, .int .i64 rh] 157) := ⟨_, rfl⟩
        rw [← hX7]
        have hb7' : Below w7.heap.size w7 X7 := by rw [hX7]; (repeat (with_reducible first | exact Below.refl _ _ | assumption | refine Below.drewN _ ?_ | refine Below.drew ?_ | refine Below_alloc ?_ _ | refine Below.alloc ?_ (by first | (simp; done) | (simp; omega) | omega) _ | refine Below.setCell ?_ (by first | (simp; done) | (simp; omega) | omega) _ | refine Below_call ?_ (by assumption) | refine Below.trans ?_ (by assumption)))
        have R13 : X7.heap[w7.heap.size]? = some (.cells #[.int .i64 rl, .int .i64 rh] 157 (0, 0)) := by rw [hX7]; exact heap_alloc_new w7 _
        clear hX7
        have hb67 : Below X6.heap.size X6 X7 := hb7.trans (hb7'.mono hz7)
        have HB7 : Hid (Below wr.heap.size wr X7) := hid (hb6.trans (hb67.mono hb6.size))
        have R12' := hid ((hb67.block wr.heap.size hlx).trans R12)
        have hlx7 := (Array.getElem?_eq_some_iff.1 R12'.out).1
        obtain ⟨y0, y1, fy0, fy1, hly⟩ := two_cells R13
        obtain ⟨g0, g1, g2, fg0, fg1, fg2, hlgx⟩ := three_cells ((HB7.out.block g (by omega)).trans SG.out)
        have a4 : X7.cell? ⟨w.heap.size, 4, none⟩ = some (.int .i64 tk) := by rw [cell_of_row X7 _ 4 _ _ (0, 0) ((HB7.out.block w.heap.size (by omega)).trans S0.out)]; rfl
        have hl0x : w.heap.size < X7.heap.size := by omega
        clear fy0 fy1 fg0 fg1 fg2 x0 x1 hlx R12 R13 hb7 hb7' hb67 hb6
        refine wp_mixC (fun wc => Below (X7.heap.size) X7 wc) 18 [.q [0, 1, 2, 3, 4, 5, 6, 7, 8, 9, 10, 11, 12, 13, 14, 15], .p 16 17] [.f [18]] (by kernel_rfl) (by kernel_rfl) ((Below.refl _ _).drew) ?_
        intro Q' hQ'
        (rw [wpMixC]; simp only [pick, List.drop_succ_cons, List.drop_zero, List.head?_cons, Option.toList_some, List.cons_append, List.nil_append])
        (repeat (first | go_big_quiet_skip | (go_big_quiet_want; refine quiet_simple rfl ?_; go_big_quiet_op; go_big_quiet_on) | (go_big_quiet_want; refine quiet_cellB (ty := 3) rfl rfl (by kernel_rfl) (by assumption) (by first | omega | (simp; omega)) ?_; simp only [Act.put, List.setIfInBounds_toArray, List.set_cons_succ, List.set_cons_zero]; go_big_quiet_on) | (go_big_quiet_want; refine quiet_agg2B (ty := 157) rfl rfl (by kernel_rfl) (by assumption) (by assumption) (by first | omega | (simp; omega)) ?_; simp only [Act.put, List.setIfInBounds_toArray, List.set_cons_succ, List.set_cons_zero]; go_big_quiet_on)))
        (try refine wpQuiet_nil ?_)
        (rw [wpMixC]; simp only [pick, List.drop_succ_cons, List.drop_zero, List.head?_cons, Option.toList_some, List.cons_append, List.nil_append])
        (refine ⟨?_, ?_⟩)
        all_goals (rw [wpSteps]; go_wp2_with ((go_at_call 129; ((with_reducible refine (D2.out _).mono ?_); rintro _ w8 ⟨rfl, hb8⟩); (try (refine row_k hb8 (fun hrow => ?_); obtain ⟨f0', f1', ff0, ff1, hlf⟩ := two_cells hrow)))); rw [contF]; refine ⟨?_, ?_⟩; (next => (repeat (with_reducible first | exact Below.refl _ _ | assumption | refine Below.drewN _ ?_ | refine Below.drew ?_ | refine Below_alloc ?_ _ | refine Below.alloc ?_ (by first | (simp; done) | (simp; omega) | omega) _ | refine Below.setCell ?_ (by first | (simp; done) | (simp; omega) | omega) _ | refine Below_call ?_ (by assumption) | refine Below.trans ?_ (by assumption)))))
        all_goals (rw [wpSteps]; go_wp2_with ((go_at_call 129; ((with_reducible refine (D2.out _).mono ?_); rintro _ w8 ⟨rfl, hb8⟩); (try (refine row_k hb8 (fun hrow => ?_); obtain ⟨f0', f1', ff0, ff1, hlf⟩ := two_cells hrow)))); rw [contF]; refine ⟨?_, ?_⟩; (next => (repeat (with_reducible first | exact Below.refl _ _ | assumption | refine Below.drewN _ ?_ | refine Below.drew ?_ | refine Below_alloc ?_ _ | refine Below.alloc ?_ (by first | (simp; done) | (simp; omega) | omega) _ | refine Below.setCell ?_ (by first | (simp; done) | (simp; omega) | omega) _ | refine Below_call ?_ (by assumption) | refine Below.trans ?_ (by assumption)))))
        all_goals (rw [wpSteps])
        all_goals (rw [wpMixC])
        all_goals (rw [wpMix]; simp only [pick, List.drop_succ_cons, List.drop_zero, List.head?_cons, Option.toList_some, List.cons_append, List.nil_append])
        all_goals (go_wp2_with ((first | fail)); rw [contF])
        all_goals (rw [wpMix])
        all_goals (refine hQ' _ _ ?_)
        all_goals first
          | (have hb9 : Below X7.heap.size X7 w8 := by (repeat (with_reducible first | exact Below.refl _ _ | assumption | refine Below.drewN _ ?_ | refine Below.drew ?_ | refine Below_alloc ?_ _ | refine Below.alloc ?_ (by first | (simp; done) | (simp; omega) | omega) _ | refine Below.setCell ?_ (by first | (simp; done) | (simp; omega) | omega) _ | refine Below_call ?_ (by assumption) | refine Below.trans ?_ (by assumption)))
             obtain ⟨X8, hX8⟩ : ∃ X8, X8 = w8.alloc (.cells #[.int .i64 sl, .int .i64 sh] 157) := ⟨_, rfl⟩
             have R14 : X8.heap[w8.heap.size]? = some (.cells #[.int .i64 sl, .int .i64 sh] 157 (0, 0)) := by rw [hX8]; exact heap_alloc_new w8 _
             have hgh : X7.heap.size ≤ w8.heap.size := hb9.size
             have hb78 : Below X7.heap.size X7 X8 := by rw [hX8]; (repeat (with_reducible first | exact Below.refl _ _ | assumption | refine Below.drewN _ ?_ | refine Below.drew ?_ | refine Below_alloc ?_ _ | refine Below.alloc ?_ (by first | (simp; done) | (simp; omega) | omega) _ | refine Below.setCell ?_ (by first | (simp; done) | (simp; omega) | omega) _ | refine Below_call ?_ (by assumption) | refine Below.trans ?_ (by assumption)))
             rw [← hX8]
             generalize w8.heap.size = h14 at R14 hgh ⊢
             clear hX8 hb8 hb9)
          | (have hb9 : Below X7.heap.size X7 w8 := by (repeat (with_reducible first | exact Below.refl _ _ | assumption | refine Below.drewN _ ?_ | refine Below.drew ?_ | refine Below_alloc ?_ _ | refine Below.alloc ?_ (by first | (simp; done) | (simp; omega) | omega) _ | refine Below.setCell ?_ (by first | (simp; done) | (simp; omega) | omega) _ | refine Below_call ?_ (by assumption) | refine Below.trans ?_ (by assumption)))
             obtain ⟨X8, hX8⟩ : ∃ X8, X8 = (w8.setCell ⟨X7.heap.size, 0, none⟩ (.int .i64 sl)).setCell ⟨X7.heap.size, 1, none⟩ (.int .i64 sh) := ⟨_, rfl⟩
             have R14 : X8.heap[X7.heap.size]? = some (.cells #[.int .i64 sl, .int .i64 sh] 157 (0, 0)) := by rw [hX8]; exact two_set hrow
             have hb78 : Below X7.heap.size X7 X8 := by rw [hX8]; (repeat (with_reducible first | exact Below.refl _ _ | assumption | refine Below.drewN _ ?_ | refine Below.drew ?_ | refine Below_alloc ?_ _ | refine Below.alloc ?_ (by first | (simp; done) | (simp; omega) | omega) _ | refine Below.setCell ?_ (by first | (simp; done) | (simp; omega) | omega) _ | refine Below_call ?_ (by assumption) | refine Below.trans ?_ (by assumption)))
             rw [← hX8]
             obtain ⟨h14, hg⟩ : ∃ g, g = X7.heap.size := ⟨_, rfl⟩
             have hgh : X7.heap.size ≤ h14 := by omega
             rw [← hg] at R14 ⊢
             clear hX8 hg hb8 hb9 f0' f1' ff0 ff1 hlf hrow)
        all_goals
          clear y0 y1 hly g0 g1 g2 hlgx a4 hl0x
          have hb8 : Below wr.heap.size wr X8 := HB7.out.trans (hb78.mono HB7.out.size)
          have hz8 := hb8.size
          obtain ⟨s0, s1, fs0, fs1, hls⟩ := two_cells R14
          obtain ⟨x0, x1, fx0, fx1, hlx⟩ := two_cells ((hb78.block wr.heap.size hlx7).trans R12'.out)
          have T9 := hid ((hb8.block W.heap.size hlr9).trans HR9.out)
          have T10 := hid ((hb8.block (W.heap.size + 1) hlr10).trans HR10.out)
          obtain ⟨u0, u1, fu0, fu1, hlu⟩ := two_cells T9.out
          obtain ⟨z0, z1, fz0, fz1, hlz⟩ := two_cells T10.out
          have HB8 := hid hb8
          clear fs0 fs1 fx0 fx1 hb8 hb78 fu0 fu1 fz0 fz1
          go_wp2_with fail
          refine wp_mixC (KeepB [wr.heap.size, h14, W.heap.size + 1] X8) 10 [.q [1, 2, 5, 6], .p 0 3, .f [4, 7, 8, 9]] [.f [10]] (by kernel_rfl) (by kernel_rfl) ((KeepB.refl (by first | (simp; done) | (simp; omega))).drew) ?_
          intro Q' hQ'
          (rw [wpMixC]; simp only [pick, List.drop_succ_cons, List.drop_zero, List.head?_cons, Option.toList_some, List.cons_append, List.nil_append])
          (repeat (first | go_big_quiet_skip | (go_big_quiet_want; refine quiet_simple rfl ?_; go_big_quiet_op; go_big_quiet_on) | (go_big_quiet_want; refine quiet_agg2K (ty := 157) rfl rfl (by kernel_rfl) (by assumption) (by assumption) (by simp) ?_; simp only [Act.put, List.setIfInBounds_toArray, List.set_cons_succ, List.set_cons_zero]; go_big_quiet_on)))
          (try refine wpQuiet_nil ?_)
          (rw [wpMixC]; simp only [pick, List.drop_succ_cons, List.drop_zero, List.head?_cons, Option.toList_some, List.cons_append, List.nil_append])
          (refine ⟨?_, ?_⟩)
          all_goals (rw [wpSteps]; go_wp2_with ((first | (go_at_call 131; ((with_reducible refine (D3.out _).mono ?_); rintro _ w9 ⟨rfl, hb9⟩); have hb9' : Below X8.heap.size X8 w9 := (by (repeat (with_reducible first | exact Below.refl _ _ | assumption | refine Below.drewN _ ?_ | refine Below.drew ?_ | refine Below_alloc ?_ _ | refine Below.alloc ?_ (by first | (simp; done) | (simp; omega) | omega) _ | refine Below.setCell ?_ (by first | (simp; done) | (simp; omega) | omega) _ | refine Below_call ?_ (by assumption) | refine Below.trans ?_ (by assumption)))); have HB9 := hid hb9'; clear hb9'; obtain ⟨u0, u1, fu0, fu1, hlu⟩ := two_cells ((HB9.out.block W.heap.size (Array.getElem?_eq_some_iff.1 T9.out).1).trans T9.out)) | (go_at_call 129; ((with_reducible refine (D4.out _).mono ?_); rintro _ w10 ⟨rfl, hb10⟩); have HB10 := hid hb10) | (go_at_call 130; ((with_reducible refine (D5.out _).mono ?_); rintro _ w11 ⟨rfl, hb11⟩); have HB11 := hid hb11) | (go_at_call 129; ((with_reducible refine (D6.out _).mono ?_); rintro _ w12 ⟨rfl, hb12⟩); have HB12 : Hid (Below X8.heap.size X8 w12) := hid (((HB9.out.trans (HB10.out.mono HB9.out.size)).trans (HB11.out.mono (Nat.le_trans HB9.out.size HB10.out.size))).trans (hb12.mono (Nat.le_trans (Nat.le_trans HB9.out.size HB10.out.size) HB11.out.size))); have V9 := hid ((HB12.out.block W.heap.size (Array.getElem?_eq_some_iff.1 T9.out).1).trans T9.out); have V10 := hid ((HB12.out.block (W.heap.size + 1) (Array.getElem?_eq_some_iff.1 T10.out).1).trans T10.out); obtain ⟨i0, i1, fi0, fi1, hli⟩ := two_cells V9.out; obtain ⟨j0, j1, fj0, fj1, hlj⟩ := two_cells V10.out))); rw [contF]; refine ⟨?_, ?_⟩; (next => (repeat (with_reducible first | assumption | exact KeepB.refl (by first | (simp; done) | (simp; omega)) | refine KeepB.drew ?_ | refine KeepB.alloc ?_ _ | refine KeepB.setCell ?_ (by first | (simp; done) | (simp; omega)) | refine KeepB.below ?_ (by assumption)))))
          all_goals (rw [wpSteps]; go_wp2_with ((first | (go_at_call 131; ((with_reducible refine (D3.out _).mono ?_); rintro _ w9 ⟨rfl, hb9⟩); have hb9' : Below X8.heap.size X8 w9 := (by (repeat (with_reducible first | exact Below.refl _ _ | assumption | refine Below.drewN _ ?_ | refine Below.drew ?_ | refine Below_alloc ?_ _ | refine Below.alloc ?_ (by first | (simp; done) | (simp; omega) | omega) _ | refine Below.setCell ?_ (by first | (simp; done) | (simp; omega) | omega) _ | refine Below_call ?_ (by assumption) | refine Below.trans ?_ (by assumption)))); have HB9 := hid hb9'; clear hb9'; obtain ⟨u0, u1, fu0, fu1, hlu⟩ := two_cells ((HB9.out.block W.heap.size (Array.getElem?_eq_some_iff.1 T9.out).1).trans T9.out)) | (go_at_call 129; ((with_reducible refine (D4.out _).mono ?_); rintro _ w10 ⟨rfl, hb10⟩); have HB10 := hid hb10) | (go_at_call 130; ((with_reducible refine (D5.out _).mono ?_); rintro _ w11 ⟨rfl, hb11⟩); have HB11 := hid hb11) | (go_at_call 129; ((with_reducible refine (D6.out _).mono ?_); rintro _ w12 ⟨rfl, hb12⟩); have HB12 : Hid (Below X8.heap.size X8 w12) := hid (((HB9.out.trans (HB10.out.mono HB9.out.size)).trans (HB11.out.mono (Nat.le_trans HB9.out.size HB10.out.size))).trans (hb12.mono (Nat.le_trans (Nat.le_trans HB9.out.size HB10.out.size) HB11.out.size))); have V9 := hid ((HB12.out.block W.heap.size (Array.getElem?_eq_some_iff.1 T9.out).1).trans T9.out); have V10 := hid ((HB12.out.block (W.heap.size + 1) (Array.getElem?_eq_some_iff.1 T10.out).1).trans T10.out); obtain ⟨i0, i1, fi0, fi1, hli⟩ := two_cells V9.out; obtain ⟨j0, j1, fj0, fj1, hlj⟩ := two_cells V10.out))); rw [contF]; refine ⟨?_, ?_⟩; (next => (repeat (with_reducible first | assumption | exact KeepB.refl (by first | (simp; done) | (simp; omega)) | refine KeepB.drew ?_ | refine KeepB.alloc ?_ _ | refine KeepB.setCell ?_ (by first | (simp; done) | (simp; omega)) | refine KeepB.below ?_ (by assumption)))))
          all_goals (rw [wpSteps])
          all_goals (rw [wpMixC]; simp only [pick, List.drop_succ_cons, List.drop_zero, List.head?_cons, Option.toList_some, List.cons_append, List.nil_append])
          all_goals (rw [wpSteps]; go_wp2_with ((first | (go_at_call 129; ((with_reducible refine (D4.out _).mono ?_); rintro _ w10 ⟨rfl, hb10⟩); have HB10 := hid hb10) | (go_at_call 129; ((with_reducible refine (D6.out _).mono ?_); rintro _ w12 ⟨rfl, hb12⟩); have HB12 : Hid (Below X8.heap.size X8 w12) := hid (((HB9.out.trans (HB10.out.mono HB9.out.size)).trans (HB11.out.mono (Nat.le_trans HB9.out.size HB10.out.size))).trans (hb12.mono (Nat.le_trans (Nat.le_trans HB9.out.size HB10.out.size) HB11.out.size))); have V9 := hid ((HB12.out.block W.heap.size (Array.getElem?_eq_some_iff.1 T9.out).1).trans T9.out); have V10 := hid ((HB12.out.block (W.heap.size + 1) (Array.getElem?_eq_some_iff.1 T10.out).1).trans T10.out); obtain ⟨i0, i1, fi0, fi1, hli⟩ := two_cells V9.out; obtain ⟨j0, j1, fj0, fj1, hlj⟩ := two_cells V10.out))); rw [contF]; refine ⟨?_, ?_⟩; (next => (repeat (with_reducible first | assumption | exact KeepB.refl (by first | (simp; done) | (simp; omega)) | refine KeepB.drew ?_ | refine KeepB.alloc ?_ _ | refine KeepB.setCell ?_ (by first | (simp; done) | (simp; omega)) | refine KeepB.below ?_ (by assumption)))))
          all_goals (rw [wpSteps]; go_wp2_with ((go_at_call 130; ((with_reducible refine (D5.out _).mono ?_); rintro _ w11 ⟨rfl, hb11⟩); have HB11 := hid hb11)); rw [contF]; refine ⟨?_, ?_⟩; (next => (repeat (with_reducible first | assumption | exact KeepB.refl (by first | (simp; done) | (simp; omega)) | refine KeepB.drew ?_ | refine KeepB.alloc ?_ _ | refine KeepB.setCell ?_ (by first | (simp; done) | (simp; omega)) | refine KeepB.below ?_ (by assumption)))))
          all_goals (rw [wpSteps]; go_wp2_with ((first | (go_at_call 129; ((with_reducible refine (D4.out _).mono ?_); rintro _ w10 ⟨rfl, hb10⟩); have HB10 := hid hb10) | (go_at_call 129; ((with_reducible refine (D6.out _).mono ?_); rintro _ w12 ⟨rfl, hb12⟩); have HB12 : Hid (Below X8.heap.size X8 w12) := hid (((HB9.out.trans (HB10.out.mono HB9.out.size)).trans (HB11.out.mono (Nat.le_trans HB9.out.size HB10.out.size))).trans (hb12.mono (Nat.le_trans (Nat.le_trans HB9.out.size HB10.out.size) HB11.out.size))); have V9 := hid ((HB12.out.block W.heap.size (Array.getElem?_eq_some_iff.1 T9.out).1).trans T9.out); have V10 := hid ((HB12.out.block (W.heap.size + 1) (Array.getElem?_eq_some_iff.1 T10.out).1).trans T10.out); obtain ⟨i0, i1, fi0, fi1, hli⟩ := two_cells V9.out; obtain ⟨j0, j1, fj0, fj1, hlj⟩ := two_cells V10.out))); rw [contF]; refine ⟨?_, ?_⟩; (next => (repeat (with_reducible first | assumption | exact KeepB.refl (by first | (simp; done) | (simp; omega)) | refine KeepB.drew ?_ | refine KeepB.alloc ?_ _ | refine KeepB.setCell ?_ (by first | (simp; done) | (simp; omega)) | refine KeepB.below ?_ (by assumption)))))
          all_goals (rw [wpSteps]; go_wp2_with (fail); rw [contF]; refine ⟨?_, ?_⟩; (next => (repeat (with_reducible first | assumption | exact KeepB.refl (by first | (simp; done) | (simp; omega)) | refine KeepB.drew ?_ | refine KeepB.alloc ?_ _ | refine KeepB.setCell ?_ (by first | (simp; done) | (simp; omega)) | refine KeepB.below ?_ (by assumption)))))
          all_goals (rw [wpSteps])
          all_goals (rw [wpMixC])
          all_goals (rw [wpMix]; simp only [pick, List.drop_succ_cons, List.drop_zero, List.head?_cons, Option.toList_some, List.cons_append, List.nil_append])
          all_goals (go_wp2_with ((first | fail)); rw [contF])
          all_goals (rw [wpMix])
          all_goals (refine hQ' _ _ ?_)
          all_goals
            go_wp2_with fail
            go_roundw
            case rel =>
              obtain ⟨t1, t2⟩ := two_set2 (x' := .int .i64 p1l) (y' := .int .i64 p1h) (u' := .int .i64 l1l) (v' := .int .i64 l1h) V9.out V10.out (by omega)
              exact ⟨1, p1l, p1h, l1l, l1h, by omega, by go_num, hid t1, hid t2, hid ⟨by omega, fun _ => ⟨rfl, rfl, rfl, rfl⟩, by omega, by omega⟩, ((hbel.trans (HB8.out.mono (by omega))).trans (HB12.out.mono (by omega))).trans (((((Below.refl _ _).setCell (by simp) _).setCell (by simp) _).setCell (by simp) _).setCell (by simp) _)⟩
            case measure => simp [intOf]
      · obtain ⟨rfl, rfl, rfl, rfl⟩ := HO.out.2.1 rfl
        obtain ⟨⟨rl, rh⟩, ⟨sl, sh⟩, ⟨ul, uh⟩, ⟨vl, vh⟩, TD, kT, C1, C2, C3, C4, C5, C6⟩ := HK1.out
        unfold CR Rg.v at C1 C2 C3 C4 C5 C6
        simp only at C1 C2 C3 C4 C5 C6
        have D1 := hid C1
        have D2 := hid C2
        have D3 := hid C3
        have D4 := hid C4
        have D5 := hid C5
        have D6 := hid C6
        clear C1 C2 C3 C4 C5 C6
        obtain ⟨c0, c1, c2, c3, c4, c5, hlc⟩ := six_row S1.out
        go_wp2_with fail
        refine wp_mixC (fun wc => Below (wr.heap.size) wr wc) 10 [.q [0, 1, 2, 3, 4, 5, 6, 7, 8], .f [9]] [.f [10]] (by kernel_rfl) (by kernel_rfl) ((Below.refl _ _).drew) ?_
        intro Q' hQ'
        (rw [wpMixC]; simp only [pick, List.drop_succ_cons, List.drop_zero, List.head?_cons, Option.toList_some, List.cons_append, List.nil_append])
        (repeat (first | go_big_quiet_skip | (go_big_quiet_want; refine quiet_simple rfl ?_; go_big_quiet_op; go_big_quiet_on) | (go_big_quiet_want; refine quiet_cellB (ty := 3) rfl rfl (by kernel_rfl) (by assumption) (by first | omega | (simp; omega)) ?_; simp only [Act.put, List.setIfInBounds_toArray, List.set_cons_succ, List.set_cons_zero]; go_big_quiet_on)))
        (try refine wpQuiet_nil ?_)
        (rw [wpMixC]; simp only [pick, List.drop_succ_cons, List.drop_zero, List.head?_cons, Option.toList_some, List.cons_append, List.nil_append])
        (rw [wpSteps]; go_wp2_with (fail); rw [contF]; refine ⟨?_, ?_⟩; (next => (repeat (with_reducible first | exact Below.refl _ _ | assumption | refine Below.drewN _ ?_ | refine Below.drew ?_ | refine Below_alloc ?_ _ | refine Below.alloc ?_ (by first | (simp; done) | (simp; omega) | omega) _ | refine Below.setCell ?_ (by first | (simp; done) | (simp; omega) | omega) _ | refine Below_call ?_ (by assumption) | refine Below.trans ?_ (by assumption)))))
        (rw [wpSteps])
        (rw [wpMixC])
        (rw [wpMix]; simp only [pick, List.drop_succ_cons, List.drop_zero, List.head?_cons, Option.toList_some, List.cons_append, List.nil_append])
        (go_wp2_with ((first | fail)); rw [contF])
        (rw [wpMix])
        (refine hQ' _ _ ?_)
        obtain ⟨X6, hX6⟩ : ∃ X6, X6 = (wr.alloc (.cells #[.int .i64 ly, .int .i64 hy] 157)).drew := ⟨_, rfl⟩
        rw [← hX6]
        have hb6 : Below wr.heap.size wr X6 := by rw [hX6]; (repeat (with_reducible first | exact Below.refl _ _ | assumption | refine Below.drewN _ ?_ | refine Below.drew ?_ | refine Below_alloc ?_ _ | refine Below.alloc ?_ (by first | (simp; done) | (simp; omega) | omega) _ | refine Below.setCell ?_ (by first | (simp; done) | (simp; omega) | omega) _ | refine Below_call ?_ (by assumption) | refine Below.trans ?_ (by assumption)))
        have R12 : X6.heap[wr.heap.size]? = some (.cells #[.int .i64 ly, .int .i64 hy] 157 (0, 0)) := by rw [hX6]; exact heap_alloc_new wr _
        clear hX6
        obtain ⟨x0, x1, fx0, fx1, hlx⟩ := two_cells R12
        clear fx0 fx1 c0 c1 c2 c3 c4 c5 hlc
        go_wp2_with (go_at_call 131; ((with_reducible refine (D1.out _).mono ?_); rintro _ w7 ⟨rfl, hb7⟩))
        have hz7 : X6.heap.size ≤ w7.heap.size := hb7.size
        obtain ⟨X7, hX7⟩ : ∃ X7, X7 = w7.alloc (.cells #[.int .i64 rl, .int .i64 rh] 157) := ⟨_, rfl⟩
        rw [← hX7]
        have hb7' : Below w7.heap.size w7 X7 := by rw [hX7]; (repeat (with_reducible first | exact Below.refl _ _ | assumption | refine Below.drewN _ ?_ | refine Below.drew ?_ | refine Below_alloc ?_ _ | refine Below.alloc ?_ (by first | (simp; done) | (simp; omega) | omega) _ | refine Below.setCell ?_ (by first | (simp; done) | (simp; omega) | omega) _ | refine Below_call ?_ (by assumption) | refine Below.trans ?_ (by assumption)))
        have R13 : X7.heap[w7.heap.size]? = some (.cells #[.int .i64 rl, .int .i64 rh] 157 (0, 0)) := by rw [hX7]; exact heap_alloc_new w7 _
        clear hX7
        have hb67 : Below X6.heap.size X6 X7 := hb7.trans (hb7'.mono hz7)
        have HB7 : Hid (Below wr.heap.size wr X7) := hid (hb6.trans (hb67.mono hb6.size))
        have R12' := hid ((hb67.block wr.heap.size hlx).trans R12)
        have hlx7 := (Array.getElem?_eq_some_iff.1 R12'.out).1
        obtain ⟨y0, y1, fy0, fy1, hly⟩ := two_cells R13
        obtain ⟨g0, g1, g2, fg0, fg1, fg2, hlgx⟩ := three_cells ((HB7.out.block g (by omega)).trans SG.out)
        have a4 : X7.cell? ⟨w.heap.size, 4, none⟩ = some (.int .i64 tk) := by rw [cell_of_row X7 _ 4 _ _ (0, 0) ((HB7.out.block w.heap.size (by omega)).trans S0.out)]; rfl
        have hl0x : w.heap.size < X7.heap.size := by omega
        clear fy0 fy1 fg0 fg1 fg2 x0 x1 hlx R12 R13 hb7 hb7' hb67 hb6
        refine wp_mixC (fun wc => Below (X7.heap.size) X7 wc) 18 [.q [0, 1, 2, 3, 4, 5, 6, 7, 8, 9, 10, 11, 12, 13, 14, 15], .p 16 17] [.f [18]] (by kernel_rfl) (by kernel_rfl) ((Below.refl _ _).drew) ?_
        intro Q' hQ'
        (rw [wpMixC]; simp only [pick, List.drop_succ_cons, List.drop_zero, List.head?_cons, Option.toList_some, List.cons_append, List.nil_append])
        (repeat (first | go_big_quiet_skip | (go_big_quiet_want; refine quiet_simple rfl ?_; go_big_quiet_op; go_big_quiet_on) | (go_big_quiet_want; refine quiet_cellB (ty := 3) rfl rfl (by kernel_rfl) (by assumption) (by first | omega | (simp; omega)) ?_; simp only [Act.put, List.setIfInBounds_toArray, List.set_cons_succ, List.set_cons_zero]; go_big_quiet_on) | (go_big_quiet_want; refine quiet_agg2B (ty := 157) rfl rfl (by kernel_rfl) (by assumption) (by assumption) (by first | omega | (simp; omega)) ?_; simp only [Act.put, List.setIfInBounds_toArray, List.set_cons_succ, List.set_cons_zero]; go_big_quiet_on)))
        (try refine wpQuiet_nil ?_)
        (rw [wpMixC]; simp only [pick, List.drop_succ_cons, List.drop_zero, List.head?_cons, Option.toList_some, List.cons_append, List.nil_append])
        (refine ⟨?_, ?_⟩)
        all_goals (rw [wpSteps]; go_wp2_with ((go_at_call 129; ((with_reducible refine (D2.out _).mono ?_); rintro _ w8 ⟨rfl, hb8⟩); (try (refine row_k hb8 (fun hrow => ?_); obtain ⟨f0', f1', ff0, ff1, hlf⟩ := two_cells hrow)))); rw [contF]; refine ⟨?_, ?_⟩; (next => (repeat (with_reducible first | exact Below.refl _ _ | assumption | refine Below.drewN _ ?_ | refine Below.drew ?_ | refine Below_alloc ?_ _ | refine Below.alloc ?_ (by first | (simp; done) | (simp; omega) | omega) _ | refine Below.setCell ?_ (by first | (simp; done) | (simp; omega) | omega) _ | refine Below_call ?_ (by assumption) | refine Below.trans ?_ (by assumption)))))
        all_goals (rw [wpSteps]; go_wp2_with ((go_at_call 129; ((with_reducible refine (D2.out _).mono ?_); rintro _ w8 ⟨rfl, hb8⟩); (try (refine row_k hb8 (fun hrow => ?_); obtain ⟨f0', f1', ff0, ff1, hlf⟩ := two_cells hrow)))); rw [contF]; refine ⟨?_, ?_⟩; (next => (repeat (with_reducible first | exact Below.refl _ _ | assumption | refine Below.drewN _ ?_ | refine Below.drew ?_ | refine Below_alloc ?_ _ | refine Below.alloc ?_ (by first | (simp; done) | (simp; omega) | omega) _ | refine Below.setCell ?_ (by first | (simp; done) | (simp; omega) | omega) _ | refine Below_call ?_ (by assumption) | refine Below.trans ?_ (by assumption)))))
        all_goals (rw [wpSteps])
        all_goals (rw [wpMixC])
        all_goals (rw [wpMix]; simp only [pick, List.drop_succ_cons, List.drop_zero, List.head?_cons, Option.toList_some, List.cons_append, List.nil_append])
        all_goals (go_wp2_with ((first | fail)); rw [contF])
        all_goals (rw [wpMix])
        all_goals (refine hQ' _ _ ?_)
        all_goals first
          | (have hb9 : Below X7.heap.size X7 w8 := by (repeat (with_reducible first | exact Below.refl _ _ | assumption | refine Below.drewN _ ?_ | refine Below.drew ?_ | refine Below_alloc ?_ _ | refine Below.alloc ?_ (by first | (simp; done) | (simp; omega) | omega) _ | refine Below.setCell ?_ (by first | (simp; done) | (simp; omega) | omega) _ | refine Below_call ?_ (by assumption) | refine Below.trans ?_ (by assumption)))
             obtain ⟨X8, hX8⟩ : ∃ X8, X8 = w8.alloc (.cells #[.int .i64 sl, .int .i64 sh] 157) := ⟨_, rfl⟩
             have R14 : X8.heap[w8.heap.size]? = some (.cells #[.int .i64 sl, .int .i64 sh] 157 (0, 0)) := by rw [hX8]; exact heap_alloc_new w8 _
             have hgh : X7.heap.size ≤ w8.heap.size := hb9.size
             have hb78 : Below X7.heap.size X7 X8 := by rw [hX8]; (repeat (with_reducible first | exact Below.refl _ _ | assumption | refine Below.drewN _ ?_ | refine Below.drew ?_ | refine Below_alloc ?_ _ | refine Below.alloc ?_ (by first | (simp; done) | (simp; omega) | omega) _ | refine Below.setCell ?_ (by first | (simp; done) | (simp; omega) | omega) _ | refine Below_call ?_ (by assumption) | refine Below.trans ?_ (by assumption)))
             rw [← hX8]
             generalize w8.heap.size = h14 at R14 hgh ⊢
             clear hX8 hb8 hb9)
          | (have hb9 : Below X7.heap.size X7 w8 := by (repeat (with_reducible first | exact Below.refl _ _ | assumption | refine Below.drewN _ ?_ | refine Below.drew ?_ | refine Below_alloc ?_ _ | refine Below.alloc ?_ (by first | (simp; done) | (simp; omega) | omega) _ | refine Below.setCell ?_ (by first | (simp; done) | (simp; omega) | omega) _ | refine Below_call ?_ (by assumption) | refine Below.trans ?_ (by assumption)))
             obtain ⟨X8, hX8⟩ : ∃ X8, X8 = (w8.setCell ⟨X7.heap.size, 0, none⟩ (.int .i64 sl)).setCell ⟨X7.heap.size, 1, none⟩ (.int .i64 sh) := ⟨_, rfl⟩
             have R14 : X8.heap[X7.heap.size]? = some (.cells #[.int .i64 sl, .int .i64 sh] 157 (0, 0)) := by rw [hX8]; exact two_set hrow
             have hb78 : Below X7.heap.size X7 X8 := by rw [hX8]; (repeat (with_reducible first | exact Below.refl _ _ | assumption | refine Below.drewN _ ?_ | refine Below.drew ?_ | refine Below_alloc ?_ _ | refine Below.alloc ?_ (by first | (simp; done) | (simp; omega) | omega) _ | refine Below.setCell ?_ (by first | (simp; done) | (simp; omega) | omega) _ | refine Below_call ?_ (by assumption) | refine Below.trans ?_ (by assumption)))
             rw [← hX8]
             obtain ⟨h14, hg⟩ : ∃ g, g = X7.heap.size := ⟨_, rfl⟩
             have hgh : X7.heap.size ≤ h14 := by omega
             rw [← hg] at R14 ⊢
             clear hX8 hg hb8 hb9 f0' f1' ff0 ff1 hlf hrow)
        all_goals
          clear y0 y1 hly g0 g1 g2 hlgx a4 hl0x
          have hb8 : Below wr.heap.size wr X8 := HB7.out.trans (hb78.mono HB7.out.size)
          have hz8 := hb8.size
          obtain ⟨s0, s1, fs0, fs1, hls⟩ := two_cells R14
          obtain ⟨x0, x1, fx0, fx1, hlx⟩ := two_cells ((hb78.block wr.heap.size hlx7).trans R12'.out)
          have T9 := hid ((hb8.block W.heap.size hlr9).trans HR9.out)
          have T10 := hid ((hb8.block (W.heap.size + 1) hlr10).trans HR10.out)
          obtain ⟨u0, u1, fu0, fu1, hlu⟩ := two_cells T9.out
          obtain ⟨z0, z1, fz0, fz1, hlz⟩ := two_cells T10.out
          have HB8 := hid hb8
          clear fs0 fs1 fx0 fx1 hb8 hb78 fu0 fu1 fz0 fz1
          go_wp2_with fail
          refine wp_mixC (KeepB [wr.heap.size, h14, W.heap.size + 1] X8) 10 [.q [1, 2, 5, 6], .p 0 3, .f [4, 7, 8, 9]] [.f [10]] (by kernel_rfl) (by kernel_rfl) ((KeepB.refl (by first | (simp; done) | (simp; omega))).drew) ?_
          intro Q' hQ'
          (rw [wpMixC]; simp only [pick, List.drop_succ_cons, List.drop_zero, List.head?_cons, Option.toList_some, List.cons_append, List.nil_append])
          (repeat (first | go_big_quiet_skip | (go_big_quiet_want; refine quiet_simple rfl ?_; go_big_quiet_op; go_big_quiet_on) | (go_big_quiet_want; refine quiet_agg2K (ty := 157) rfl rfl (by kernel_rfl) (by assumption) (by assumption) (by simp) ?_; simp only [Act.put, List.setIfInBounds_toArray, List.set_cons_succ, List.set_cons_zero]; go_big_quiet_on)))
          (try refine wpQuiet_nil ?_)
          (rw [wpMixC]; simp only [pick, List.drop_succ_cons, List.drop_zero, List.head?_cons, Option.toList_some, List.cons_append, List.nil_append])
          (refine ⟨?_, ?_⟩)
          all_goals (rw [wpSteps]; go_wp2_with ((first | (go_at_call 131; ((with_reducible refine (D3.out _).mono ?_); rintro _ w9 ⟨rfl, hb9⟩); have hb9' : Below X8.heap.size X8 w9 := (by (repeat (with_reducible first | exact Below.refl _ _ | assumption | refine Below.drewN _ ?_ | refine Below.drew ?_ | refine Below_alloc ?_ _ | refine Below.alloc ?_ (by first | (simp; done) | (simp; omega) | omega) _ | refine Below.setCell ?_ (by first | (simp; done) | (simp; omega) | omega) _ | refine Below_call ?_ (by assumption) | refine Below.trans ?_ (by assumption)))); have HB9 := hid hb9'; clear hb9'; obtain ⟨u0, u1, fu0, fu1, hlu⟩ := two_cells ((HB9.out.block W.heap.size (Array.getElem?_eq_some_iff.1 T9.out).1).trans T9.out)) | (go_at_call 129; ((with_reducible refine (D4.out _).mono ?_); rintro _ w10 ⟨rfl, hb10⟩); have HB10 := hid hb10) | (go_at_call 130; ((with_reducible refine (D5.out _).mono ?_); rintro _ w11 ⟨rfl, hb11⟩); have HB11 := hid hb11) | (go_at_call 129; ((with_reducible refine (D6.out _).mono ?_); rintro _ w12 ⟨rfl, hb12⟩); have HB12 : Hid (Below X8.heap.size X8 w12) := hid (((HB9.out.trans (HB10.out.mono HB9.out.size)).trans (HB11.out.mono (Nat.le_trans HB9.out.size HB10.out.size))).trans (hb12.mono (Nat.le_trans (Nat.le_trans HB9.out.size HB10.out.size) HB11.out.size))); have V9 := hid ((HB12.out.block W.heap.size (Array.getElem?_eq_some_iff.1 T9.out).1).trans T9.out); have V10 := hid ((HB12.out.block (W.heap.size + 1) (Array.getElem?_eq_some_iff.1 T10.out).1).trans T10.out); obtain ⟨i0, i1, fi0, fi1, hli⟩ := two_cells V9.out; obtain ⟨j0, j1, fj0, fj1, hlj⟩ := two_cells V10.out))); rw [contF]; refine ⟨?_, ?_⟩; (next => (repeat (with_reducible first | assumption | exact KeepB.refl (by first | (simp; done) | (simp; omega)) | refine KeepB.drew ?_ | refine KeepB.alloc ?_ _ | refine KeepB.setCell ?_ (by first | (simp; done) | (simp; omega)) | refine KeepB.below ?_ (by assumption)))))
          all_goals (rw [wpSteps]; go_wp2_with ((first | (go_at_call 131; ((with_reducible refine (D3.out _).mono ?_); rintro _ w9 ⟨rfl, hb9⟩); have hb9' : Below X8.heap.size X8 w9 := (by (repeat (with_reducible first | exact Below.refl _ _ | assumption | refine Below.drewN _ ?_ | refine Below.drew ?_ | refine Below_alloc ?_ _ | refine Below.alloc ?_ (by first | (simp; done) | (simp; omega) | omega) _ | refine Below.setCell ?_ (by first | (simp; done) | (simp; omega) | omega) _ | refine Below_call ?_ (by assumption) | refine Below.trans ?_ (by assumption)))); have HB9 := hid hb9'; clear hb9'; obtain ⟨u0, u1, fu0, fu1, hlu⟩ := two_cells ((HB9.out.block W.heap.size (Array.getElem?_eq_some_iff.1 T9.out).1).trans T9.out)) | (go_at_call 129; ((with_reducible refine (D4.out _).mono ?_); rintro _ w10 ⟨rfl, hb10⟩); have HB10 := hid hb10) | (go_at_call 130; ((with_reducible refine (D5.out _).mono ?_); rintro _ w11 ⟨rfl, hb11⟩); have HB11 := hid hb11) | (go_at_call 129; ((with_reducible refine (D6.out _).mono ?_); rintro _ w12 ⟨rfl, hb12⟩); have HB12 : Hid (Below X8.heap.size X8 w12) := hid (((HB9.out.trans (HB10.out.mono HB9.out.size)).trans (HB11.out.mono (Nat.le_trans HB9.out.size HB10.out.size))).trans (hb12.mono (Nat.le_trans (Nat.le_trans HB9.out.size HB10.out.size) HB11.out.size))); have V9 := hid ((HB12.out.block W.heap.size (Array.getElem?_eq_some_iff.1 T9.out).1).trans T9.out); have V10 := hid ((HB12.out.block (W.heap.size + 1) (Array.getElem?_eq_some_iff.1 T10.out).1).trans T10.out); obtain ⟨i0, i1, fi0, fi1, hli⟩ := two_cells V9.out; obtain ⟨j0, j1, fj0, fj1, hlj⟩ := two_cells V10.out))); rw [contF]; refine ⟨?_, ?_⟩; (next => (repeat (with_reducible first | assumption | exact KeepB.refl (by first | (simp; done) | (simp; omega)) | refine KeepB.drew ?_ | refine KeepB.alloc ?_ _ | refine KeepB.setCell ?_ (by first | (simp; done) | (simp; omega)) | refine KeepB.below ?_ (by assumption)))))
          all_goals (rw [wpSteps])
          all_goals (rw [wpMixC]; simp only [pick, List.drop_succ_cons, List.drop_zero, List.head?_cons, Option.toList_some, List.cons_append, List.nil_append])
          all_goals (rw [wpSteps]; go_wp2_with ((first | (go_at_call 129; ((with_reducible refine (D4.out _).mono ?_); rintro _ w10 ⟨rfl, hb10⟩); have HB10 := hid hb10) | (go_at_call 129; ((with_reducible refine (D6.out _).mono ?_); rintro _ w12 ⟨rfl, hb12⟩); have HB12 : Hid (Below X8.heap.size X8 w12) := hid (((HB9.out.trans (HB10.out.mono HB9.out.size)).trans (HB11.out.mono (Nat.le_trans HB9.out.size HB10.out.size))).trans (hb12.mono (Nat.le_trans (Nat.le_trans HB9.out.size HB10.out.size) HB11.out.size))); have V9 := hid ((HB12.out.block W.heap.size (Array.getElem?_eq_some_iff.1 T9.out).1).trans T9.out); have V10 := hid ((HB12.out.block (W.heap.size + 1) (Array.getElem?_eq_some_iff.1 T10.out).1).trans T10.out); obtain ⟨i0, i1, fi0, fi1, hli⟩ := two_cells V9.out; obtain ⟨j0, j1, fj0, fj1, hlj⟩ := two_cells V10.out))); rw [contF]; refine ⟨?_, ?_⟩; (next => (repeat (with_reducible first | assumption | exact KeepB.refl (by first | (simp; done) | (simp; omega)) | refine KeepB.drew ?_ | refine KeepB.alloc ?_ _ | refine KeepB.setCell ?_ (by first | (simp; done) | (simp; omega)) | refine KeepB.below ?_ (by assumption)))))
          all_goals (rw [wpSteps]; go_wp2_with ((go_at_call 130; ((with_reducible refine (D5.out _).mono ?_); rintro _ w11 ⟨rfl, hb11⟩); have HB11 := hid hb11)); rw [contF]; refine ⟨?_, ?_⟩; (next => (repeat (with_reducible first | assumption | exact KeepB.refl (by first | (simp; done) | (simp; omega)) | refine KeepB.drew ?_ | refine KeepB.alloc ?_ _ | refine KeepB.setCell ?_ (by first | (simp; done) | (simp; omega)) | refine KeepB.below ?_ (by assumption)))))
          all_goals (rw [wpSteps]; go_wp2_with ((first | (go_at_call 129; ((with_reducible refine (D4.out _).mono ?_); rintro _ w10 ⟨rfl, hb10⟩); have HB10 := hid hb10) | (go_at_call 129; ((with_reducible refine (D6.out _).mono ?_); rintro _ w12 ⟨rfl, hb12⟩); have HB12 : Hid (Below X8.heap.size X8 w12) := hid (((HB9.out.trans (HB10.out.mono HB9.out.size)).trans (HB11.out.mono (Nat.le_trans HB9.out.size HB10.out.size))).trans (hb12.mono (Nat.le_trans (Nat.le_trans HB9.out.size HB10.out.size) HB11.out.size))); have V9 := hid ((HB12.out.block W.heap.size (Array.getElem?_eq_some_iff.1 T9.out).1).trans T9.out); have V10 := hid ((HB12.out.block (W.heap.size + 1) (Array.getElem?_eq_some_iff.1 T10.out).1).trans T10.out); obtain ⟨i0, i1, fi0, fi1, hli⟩ := two_cells V9.out; obtain ⟨j0, j1, fj0, fj1, hlj⟩ := two_cells V10.out))); rw [contF]; refine ⟨?_, ?_⟩; (next => (repeat (with_reducible first | assumption | exact KeepB.refl (by first | (simp; done) | (simp; omega)) | refine KeepB.drew ?_ | refine KeepB.alloc ?_ _ | refine KeepB.setCell ?_ (by first | (simp; done) | (simp; omega)) | refine KeepB.below ?_ (by assumption)))))
          all_goals (rw [wpSteps]; go_wp2_with (fail); rw [contF]; refine ⟨?_, ?_⟩; (next => (repeat (with_reducible first | assumption | exact KeepB.refl (by first | (simp; done) | (simp; omega)) | refine KeepB.drew ?_ | refine KeepB.alloc ?_ _ | refine KeepB.setCell ?_ (by first | (simp; done) | (simp; omega)) | refine KeepB.below ?_ (by assumption)))))
          all_goals (rw [wpSteps])
          all_goals (rw [wpMixC])
          all_goals (rw [wpMix]; simp only [pick, List.drop_succ_cons, List.drop_zero, List.head?_cons, Option.toList_some, List.cons_append, List.nil_append])
          all_goals (go_wp2_with ((first | fail)); rw [contF])
          all_goals (rw [wpMix])
          all_goals (refine hQ' _ _ ?_)
          all_goals
            go_wp2_with fail
            go_roundw
            case rel =>
              obtain ⟨t1, t2⟩ := two_set2 (x' := .int .i64 p2l) (y' := .int .i64 p2h) (u' := .int .i64 l2l) (v' := .int .i64 l2h) V9.out V10.out (by omega)
              exact ⟨2, p2l, p2h, l2l, l2h, by omega, by go_num, hid t1, hid t2, hid ⟨by omega, by omega, fun _ => ⟨rfl, rfl, rfl, rfl⟩, by omega⟩, ((hbel.trans (HB8.out.mono (by omega))).trans (HB12.out.mono (by omega))).trans (((((Below.refl _ _).setCell (by simp) _).setCell (by simp) _).setCell (by simp) _).setCell (by simp) _)⟩
            case measure => simp [intOf]
      · obtain ⟨rfl, rfl, rfl, rfl⟩ := HO.out.2.2.1 rfl
        obtain ⟨⟨rl, rh⟩, ⟨sl, sh⟩, ⟨ul, uh⟩, ⟨vl, vh⟩, TD, kT, C1, C2, C3, C4, C5, C6⟩ := HK2.out
        unfold CR Rg.v at C1 C2 C3 C4 C5 C6
        simp only at C1 C2 C3 C4 C5 C6
        have D1 := hid C1
        have D2 := hid C2
        have D3 := hid C3
        have D4 := hid C4
        have D5 := hid C5
        have D6 := hid C6
        clear C1 C2 C3 C4 C5 C6
        obtain ⟨c0, c1, c2, c3, c4, c5, hlc⟩ := six_row S1.out
        go_wp2_with fail
        refine wp_mixC (fun wc => Below (wr.heap.size) wr wc) 10 [.q [0, 1, 2, 3, 4, 5, 6, 7, 8], .f [9]] [.f [10]] (by kernel_rfl) (by kernel_rfl) ((Below.refl _ _).drew) ?_
        intro Q' hQ'
        (rw [wpMixC]; simp only [pick, List.drop_succ_cons, List.drop_zero, List.head?_cons, Option.toList_some, List.cons_append, List.nil_append])
        (repeat (first | go_big_quiet_skip | (go_big_quiet_want; refine quiet_simple rfl ?_; go_big_quiet_op; go_big_quiet_on) | (go_big_quiet_want; refine quiet_cellB (ty := 3) rfl rfl (by kernel_rfl) (by assumption) (by first | omega | (simp; omega)) ?_; simp only [Act.put, List.setIfInBounds_toArray, List.set_cons_succ, List.set_cons_zero]; go_big_quiet_on)))
        (try refine wpQuiet_nil ?_)
        (rw [wpMixC]; simp only [pick, List.drop_succ_cons, List.drop_zero, List.head?_cons, Option.toList_some, List.cons_append, List.nil_append])
        (rw [wpSteps]; go_wp2_with (fail); rw [contF]; refine ⟨?_, ?_⟩; (next => (repeat (with_reducible first | exact Below.refl _ _ | assumption | refine Below.drewN _ ?_ | refine Below.drew ?_ | refine Below_alloc ?_ _ | refine Below.alloc ?_ (by first | (simp; done) | (simp; omega) | omega) _ | refine Below.setCell ?_ (by first | (simp; done) | (simp; omega) | omega) _ | refine Below_call ?_ (by assumption) | refine Below.trans ?_ (by assumption)))))
        (rw [wpSteps])
        (rw [wpMixC])
        (rw [wpMix]; simp only [pick, List.drop_succ_cons, List.drop_zero, List.head?_cons, Option.toList_some, List.cons_append, List.nil_append])
        (go_wp2_with ((first | fail)); rw [contF])
        (rw [wpMix])
        (refine hQ' _ _ ?_)
        obtain ⟨X6, hX6⟩ : ∃ X6, X6 = (wr.alloc (.cells #[.int .i64 lz, .int .i64 hz] 157)).drew := ⟨_, rfl⟩
        rw [← hX6]
        have hb6 : Below wr.heap.size wr X6 := by rw [hX6]; (repeat (with_reducible first | exact Below.refl _ _ | assumption | refine Below.drewN _ ?_ | refine Below.drew ?_ | refine Below_alloc ?_ _ | refine Below.alloc ?_ (by first | (simp; done) | (simp; omega) | omega) _ | refine Below.setCell ?_ (by first | (simp; done) | (simp; omega) | omega) _ | refine Below_call ?_ (by assumption) | refine Below.trans ?_ (by assumption)))
        have R12 : X6.heap[wr.heap.size]? = some (.cells #[.int .i64 lz, .int .i64 hz] 157 (0, 0)) := by rw [hX6]; exact heap_alloc_new wr _
        clear hX6
        obtain ⟨x0, x1, fx0, fx1, hlx⟩ := two_cells R12
        clear fx0 fx1 c0 c1 c2 c3 c4 c5 hlc
        go_wp2_with (go_at_call 131; ((with_reducible refine (D1.out _).mono ?_); rintro _ w7 ⟨rfl, hb7⟩))
        have hz7 : X6.heap.size ≤ w7.heap.size := hb7.size
        obtain ⟨X7, hX7⟩ : ∃ X7, X7 = w7.alloc (.cells #[.int .i64 rl, .int .i64 rh] 157) := ⟨_, rfl⟩
        rw [← hX7]
        have hb7' : Below w7.heap.size w7 X7 := by rw [hX7]; (repeat (with_reducible first | exact Below.refl _ _ | assumption | refine Below.drewN _ ?_ | refine Below.drew ?_ | refine Below_alloc ?_ _ | refine Below.alloc ?_ (by first | (simp; done) | (simp; omega) | omega) _ | refine Below.setCell ?_ (by first | (simp; done) | (simp; omega) | omega) _ | refine Below_call ?_ (by assumption) | refine Below.trans ?_ (by assumption)))
        have R13 : X7.heap[w7.heap.size]? = some (.cells #[.int .i64 rl, .int .i64 rh] 157 (0, 0)) := by rw [hX7]; exact heap_alloc_new w7 _
        clear hX7
        have hb67 : Below X6.heap.size X6 X7 := hb7.trans (hb7'.mono hz7)
        have HB7 : Hid (Below wr.heap.size wr X7) := hid (hb6.trans (hb67.mono hb6.size))
        have R12' := hid ((hb67.block wr.heap.size hlx).trans R12)
        have hlx7 := (Array.getElem?_eq_some_iff.1 R12'.out).1
        obtain ⟨y0, y1, fy0, fy1, hly⟩ := two_cells R13
        obtain ⟨g0, g1, g2, fg0, fg1, fg2, hlgx⟩ := three_cells ((HB7.out.block g (by omega)).trans SG.out)
        have a4 : X7.cell? ⟨w.heap.size, 4, none⟩ = some (.int .i64 tk) := by rw [cell_of_row X7 _ 4 _ _ (0, 0) ((HB7.out.block w.heap.size (by omega)).trans S0.out)]; rfl
        have hl0x : w.heap.size < X7.heap.size := by omega
        clear fy0 fy1 fg0 fg1 fg2 x0 x1 hlx R12 R13 hb7 hb7' hb67 hb6
        refine wp_mixC (fun wc => Below (X7.heap.size) X7 wc) 18 [.q [0, 1, 2, 3, 4, 5, 6, 7, 8, 9, 10, 11, 12, 13, 14, 15], .p 16 17] [.f [18]] (by kernel_rfl) (by kernel_rfl) ((Below.refl _ _).drew) ?_
        intro Q' hQ'
        (rw [wpMixC]; simp only [pick, List.drop_succ_cons, List.drop_zero, List.head?_cons, Option.toList_some, List.cons_append, List.nil_append])
        (repeat (first | go_big_quiet_skip | (go_big_quiet_want; refine quiet_simple rfl ?_; go_big_quiet_op; go_big_quiet_on) | (go_big_quiet_want; refine quiet_cellB (ty := 3) rfl rfl (by kernel_rfl) (by assumption) (by first | omega | (simp; omega)) ?_; simp only [Act.put, List.setIfInBounds_toArray, List.set_cons_succ, List.set_cons_zero]; go_big_quiet_on) | (go_big_quiet_want; refine quiet_agg2B (ty := 157) rfl rfl (by kernel_rfl) (by assumption) (by assumption) (by first | omega | (simp; omega)) ?_; simp only [Act.put, List.setIfInBounds_toArray, List.set_cons_succ, List.set_cons_zero]; go_big_quiet_on)))
        (try refine wpQuiet_nil ?_)
        (rw [wpMixC]; simp only [pick, List.drop_succ_cons, List.drop_zero, List.head?_cons, Option.toList_some, List.cons_append, List.nil_append])
        (refine ⟨?_, ?_⟩)
        all_goals (rw [wpSteps]; go_wp2_with ((go_at_call 129; ((with_reducible refine (D2.out _).mono ?_); rintro _ w8 ⟨rfl, hb8⟩); (try (refine row_k hb8 (fun hrow => ?_); obtain ⟨f0', f1', ff0, ff1, hlf⟩ := two_cells hrow)))); rw [contF]; refine ⟨?_, ?_⟩; (next => (repeat (with_reducible first | exact Below.refl _ _ | assumption | refine Below.drewN _ ?_ | refine Below.drew ?_ | refine Below_alloc ?_ _ | refine Below.alloc ?_ (by first | (simp; done) | (simp; omega) | omega) _ | refine Below.setCell ?_ (by first | (simp; done) | (simp; omega) | omega) _ | refine Below_call ?_ (by assumption) | refine Below.trans ?_ (by assumption)))))
        all_goals (rw [wpSteps]; go_wp2_with ((go_at_call 129; ((with_reducible refine (D2.out _).mono ?_); rintro _ w8 ⟨rfl, hb8⟩); (try (refine row_k hb8 (fun hrow => ?_); obtain ⟨f0', f1', ff0, ff1, hlf⟩ := two_cells hrow)))); rw [contF]; refine ⟨?_, ?_⟩; (next => (repeat (with_reducible first | exact Below.refl _ _ | assumption | refine Below.drewN _ ?_ | refine Below.drew ?_ | refine Below_alloc ?_ _ | refine Below.alloc ?_ (by first | (simp; done) | (simp; omega) | omega) _ | refine Below.setCell ?_ (by first | (simp; done) | (simp; omega) | omega) _ | refine Below_call ?_ (by assumption) | refine Below.trans ?_ (by assumption)))))
        all_goals (rw [wpSteps])
        all_goals (rw [wpMixC])
        all_goals (rw [wpMix]; simp only [pick, List.drop_succ_cons, List.drop_zero, List.head?_cons, Option.toList_some, List.cons_append, List.nil_append])
        all_goals (go_wp2_with ((first | fail)); rw [contF])
        all_goals (rw [wpMix])
        all_goals (refine hQ' _ _ ?_)
        all_goals first
          | (have hb9 : Below X7.heap.size X7 w8 := by (repeat (with_reducible first | exact Below.refl _ _ | assumption | refine Below.drewN _ ?_ | refine Below.drew ?_ | refine Below_alloc ?_ _ | refine Below.alloc ?_ (by first | (simp; done) | (simp; omega) | omega) _ | refine Below.setCell ?_ (by first | (simp; done) | (simp; omega) | omega) _ | refine Below_call ?_ (by assumption) | refine Below.trans ?_ (by assumption)))
             obtain ⟨X8, hX8⟩ : ∃ X8, X8 = w8.alloc (.cells #[.int .i64 sl, .int .i64 sh] 157) := ⟨_, rfl⟩
             have R14 : X8.heap[w8.heap.size]? = some (.cells #[.int .i64 sl, .int .i64 sh] 157 (0, 0)) := by rw [hX8]; exact heap_alloc_new w8 _
             have hgh : X7.heap.size ≤ w8.heap.size := hb9.size
             have hb78 : Below X7.heap.size X7 X8 := by rw [hX8]; (repeat (with_reducible first | exact Below.refl _ _ | assumption | refine Below.drewN _ ?_ | refine Below.drew ?_ | refine Below_alloc ?_ _ | refine Below.alloc ?_ (by first | (simp; done) | (simp; omega) | omega) _ | refine Below.setCell ?_ (by first | (simp; done) | (simp; omega) | omega) _ | refine Below_call ?_ (by assumption) | refine Below.trans ?_ (by assumption)))
             rw [← hX8]
             generalize w8.heap.size = h14 at R14 hgh ⊢
             clear hX8 hb8 hb9)
          | (have hb9 : Below X7.heap.size X7 w8 := by (repeat (with_reducible first | exact Below.refl _ _ | assumption | refine Below.drewN _ ?_ | refine Below.drew ?_ | refine Below_alloc ?_ _ | refine Below.alloc ?_ (by first | (simp; done) | (simp; omega) | omega) _ | refine Below.setCell ?_ (by first | (simp; done) | (simp; omega) | omega) _ | refine Below_call ?_ (by assumption) | refine Below.trans ?_ (by assumption)))
             obtain ⟨X8, hX8⟩ : ∃ X8, X8 = (w8.setCell ⟨X7.heap.size, 0, none⟩ (.int .i64 sl)).setCell ⟨X7.heap.size, 1, none⟩ (.int .i64 sh) := ⟨_, rfl⟩
             have R14 : X8.heap[X7.heap.size]? = some (.cells #[.int .i64 sl, .int .i64 sh] 157 (0, 0)) := by rw [hX8]; exact two_set hrow
             have hb78 : Below X7.heap.size X7 X8 := by rw [hX8]; (repeat (with_reducible first | exact Below.refl _ _ | assumption | refine Below.drewN _ ?_ | refine Below.drew ?_ | refine Below_alloc ?_ _ | refine Below.alloc ?_ (by first | (simp; done) | (simp; omega) | omega) _ | refine Below.setCell ?_ (by first | (simp; done) | (simp; omega) | omega) _ | refine Below_call ?_ (by assumption) | refine Below.trans ?_ (by assumption)))
             rw [← hX8]
             obtain ⟨h14, hg⟩ : ∃ g, g = X7.heap.size := ⟨_, rfl⟩
             have hgh : X7.heap.size ≤ h14 := by omega
             rw [← hg] at R14 ⊢
             clear hX8 hg hb8 hb9 f0' f1' ff0 ff1 hlf hrow)
        all_goals
          clear y0 y1 hly g0 g1 g2 hlgx a4 hl0x
          have hb8 : Below wr.heap.size wr X8 := HB7.out.trans (hb78.mono HB7.out.size)
          have hz8 := hb8.size
          obtain ⟨s0, s1, fs0, fs1, hls⟩ := two_cells R14
          obtain ⟨x0, x1, fx0, fx1, hlx⟩ := two_cells ((hb78.block wr.heap.size hlx7).trans R12'.out)
          have T9 := hid ((hb8.block W.heap.size hlr9).trans HR9.out)
          have T10 := hid ((hb8.block (W.heap.size + 1) hlr10).trans HR10.out)
          obtain ⟨u0, u1, fu0, fu1, hlu⟩ := two_cells T9.out
          obtain ⟨z0, z1, fz0, fz1, hlz⟩ := two_cells T10.out
          have HB8 := hid hb8
          clear fs0 fs1 fx0 fx1 hb8 hb78 fu0 fu1 fz0 fz1
          go_wp2_with fail
          refine wp_mixC (KeepB [wr.heap.size, h14, W.heap.size + 1] X8) 10 [.q [1, 2, 5, 6], .p 0 3, .f [4, 7, 8, 9]] [.f [10]] (by kernel_rfl) (by kernel_rfl) ((KeepB.refl (by first | (simp; done) | (simp; omega))).drew) ?_
          intro Q' hQ'
          (rw [wpMixC]; simp only [pick, List.drop_succ_cons, List.drop_zero, List.head?_cons, Option.toList_some, List.cons_append, List.nil_append])
          (repeat (first | go_big_quiet_skip | (go_big_quiet_want; refine quiet_simple rfl ?_; go_big_quiet_op; go_big_quiet_on) | (go_big_quiet_want; refine quiet_agg2K (ty := 157) rfl rfl (by kernel_rfl) (by assumption) (by assumption) (by simp) ?_; simp only [Act.put, List.setIfInBounds_toArray, List.set_cons_succ, List.set_cons_zero]; go_big_quiet_on)))
          (try refine wpQuiet_nil ?_)
          (rw [wpMixC]; simp only [pick, List.drop_succ_cons, List.drop_zero, List.head?_cons, Option.toList_some, List.cons_append, List.nil_append])
          (refine ⟨?_, ?_⟩)
          all_goals (rw [wpSteps]; go_wp2_with ((first | (go_at_call 131; ((with_reducible refine (D3.out _).mono ?_); rintro _ w9 ⟨rfl, hb9⟩); have hb9' : Below X8.heap.size X8 w9 := (by (repeat (with_reducible first | exact Below.refl _ _ | assumption | refine Below.drewN _ ?_ | refine Below.drew ?_ | refine Below_alloc ?_ _ | refine Below.alloc ?_ (by first | (simp; done) | (simp; omega) | omega) _ | refine Below.setCell ?_ (by first | (simp; done) | (simp; omega) | omega) _ | refine Below_call ?_ (by assumption) | refine Below.trans ?_ (by assumption)))); have HB9 := hid hb9'; clear hb9'; obtain ⟨u0, u1, fu0, fu1, hlu⟩ := two_cells ((HB9.out.block W.heap.size (Array.getElem?_eq_some_iff.1 T9.out).1).trans T9.out)) | (go_at_call 129; ((with_reducible refine (D4.out _).mono ?_); rintro _ w10 ⟨rfl, hb10⟩); have HB10 := hid hb10) | (go_at_call 130; ((with_reducible refine (D5.out _).mono ?_); rintro _ w11 ⟨rfl, hb11⟩); have HB11 := hid hb11) | (go_at_call 129; ((with_reducible refine (D6.out _).mono ?_); rintro _ w12 ⟨rfl, hb12⟩); have HB12 : Hid (Below X8.heap.size X8 w12) := hid (((HB9.out.trans (HB10.out.mono HB9.out.size)).trans (HB11.out.mono (Nat.le_trans HB9.out.size HB10.out.size))).trans (hb12.mono (Nat.le_trans (Nat.le_trans HB9.out.size HB10.out.size) HB11.out.size))); have V9 := hid ((HB12.out.block W.heap.size (Array.getElem?_eq_some_iff.1 T9.out).1).trans T9.out); have V10 := hid ((HB12.out.block (W.heap.size + 1) (Array.getElem?_eq_some_iff.1 T10.out).1).trans T10.out); obtain ⟨i0, i1, fi0, fi1, hli⟩ := two_cells V9.out; obtain ⟨j0, j1, fj0, fj1, hlj⟩ := two_cells V10.out))); rw [contF]; refine ⟨?_, ?_⟩; (next => (repeat (with_reducible first | assumption | exact KeepB.refl (by first | (simp; done) | (simp; omega)) | refine KeepB.drew ?_ | refine KeepB.alloc ?_ _ | refine KeepB.setCell ?_ (by first | (simp; done) | (simp; omega)) | refine KeepB.below ?_ (by assumption)))))
          all_goals (rw [wpSteps]; go_wp2_with ((first | (go_at_call 131; ((with_reducible refine (D3.out _).mono ?_); rintro _ w9 ⟨rfl, hb9⟩); have hb9' : Below X8.heap.size X8 w9 := (by (repeat (with_reducible first | exact Below.refl _ _ | assumption | refine Below.drewN _ ?_ | refine Below.drew ?_ | refine Below_alloc ?_ _ | refine Below.alloc ?_ (by first | (simp; done) | (simp; omega) | omega) _ | refine Below.setCell ?_ (by first | (simp; done) | (simp; omega) | omega) _ | refine Below_call ?_ (by assumption) | refine Below.trans ?_ (by assumption)))); have HB9 := hid hb9'; clear hb9'; obtain ⟨u0, u1, fu0, fu1, hlu⟩ := two_cells ((HB9.out.block W.heap.size (Array.getElem?_eq_some_iff.1 T9.out).1).trans T9.out)) | (go_at_call 129; ((with_reducible refine (D4.out _).mono ?_); rintro _ w10 ⟨rfl, hb10⟩); have HB10 := hid hb10) | (go_at_call 130; ((with_reducible refine (D5.out _).mono ?_); rintro _ w11 ⟨rfl, hb11⟩); have HB11 := hid hb11) | (go_at_call 129; ((with_reducible refine (D6.out _).mono ?_); rintro _ w12 ⟨rfl, hb12⟩); have HB12 : Hid (Below X8.heap.size X8 w12) := hid (((HB9.out.trans (HB10.out.mono HB9.out.size)).trans (HB11.out.mono (Nat.le_trans HB9.out.size HB10.out.size))).trans (hb12.mono (Nat.le_trans (Nat.le_trans HB9.out.size HB10.out.size) HB11.out.size))); have V9 := hid ((HB12.out.block W.heap.size (Array.getElem?_eq_some_iff.1 T9.out).1).trans T9.out); have V10 := hid ((HB12.out.block (W.heap.size + 1) (Array.getElem?_eq_some_iff.1 T10.out).1).trans T10.out); obtain ⟨i0, i1, fi0, fi1, hli⟩ := two_cells V9.out; obtain ⟨j0, j1, fj0, fj1, hlj⟩ := two_cells V10.out))); rw [contF]; refine ⟨?_, ?_⟩; (next => (repeat (with_reducible first | assumption | exact KeepB.refl (by first | (simp; done) | (simp; omega)) | refine KeepB.drew ?_ | refine KeepB.alloc ?_ _ | refine KeepB.setCell ?_ (by first | (simp; done) | (simp; omega)) | refine KeepB.below ?_ (by assumption)))))
          all_goals (rw [wpSteps])
          all_goals (rw [wpMixC]; simp only [pick, List.drop_succ_cons, List.drop_zero, List.head?_cons, Option.toList_some, List.cons_append, List.nil_append])
          all_goals (rw [wpSteps]; go_wp2_with ((first | (go_at_call 129; ((with_reducible refine (D4.out _).mono ?_); rintro _ w10 ⟨rfl, hb10⟩); have HB10 := hid hb10) | (go_at_call 129; ((with_reducible refine (D6.out _).mono ?_); rintro _ w12 ⟨rfl, hb12⟩); have HB12 : Hid (Below X8.heap.size X8 w12) := hid (((HB9.out.trans (HB10.out.mono HB9.out.size)).trans (HB11.out.mono (Nat.le_trans HB9.out.size HB10.out.size))).trans (hb12.mono (Nat.le_trans (Nat.le_trans HB9.out.size HB10.out.size) HB11.out.size))); have V9 := hid ((HB12.out.block W.heap.size (Array.getElem?_eq_some_iff.1 T9.out).1).trans T9.out); have V10 := hid ((HB12.out.block (W.heap.size + 1) (Array.getElem?_eq_some_iff.1 T10.out).1).trans T10.out); obtain ⟨i0, i1, fi0, fi1, hli⟩ := two_cells V9.out; obtain ⟨j0, j1, fj0, fj1, hlj⟩ := two_cells V10.out))); rw [contF]; refine ⟨?_, ?_⟩; (next => (repeat (with_reducible first | assumption | exact KeepB.refl (by first | (simp; done) | (simp; omega)) | refine KeepB.drew ?_ | refine KeepB.alloc ?_ _ | refine KeepB.setCell ?_ (by first | (simp; done) | (simp; omega)) | refine KeepB.below ?_ (by assumption)))))
          all_goals (rw [wpSteps]; go_wp2_with ((go_at_call 130; ((with_reducible refine (D5.out _).mono ?_); rintro _ w11 ⟨rfl, hb11⟩); have HB11 := hid hb11)); rw [contF]; refine ⟨?_, ?_⟩; (next => (repeat (with_reducible first | assumption | exact KeepB.refl (by first | (simp; done) | (simp; omega)) | refine KeepB.drew ?_ | refine KeepB.alloc ?_ _ | refine KeepB.setCell ?_ (by first | (simp; done) | (simp; omega)) | refine KeepB.below ?_ (by assumption)))))
          all_goals (rw [wpSteps]; go_wp2_with ((first | (go_at_call 129; ((with_reducible refine (D4.out _).mono ?_); rintro _ w10 ⟨rfl, hb10⟩); have HB10 := hid hb10) | (go_at_call 129; ((with_reducible refine (D6.out _).mono ?_); rintro _ w12 ⟨rfl, hb12⟩); have HB12 : Hid (Below X8.heap.size X8 w12) := hid (((HB9.out.trans (HB10.out.mono HB9.out.size)).trans (HB11.out.mono (Nat.le_trans HB9.out.size HB10.out.size))).trans (hb12.mono (Nat.le_trans (Nat.le_trans HB9.out.size HB10.out.size) HB11.out.size))); have V9 := hid ((HB12.out.block W.heap.size (Array.getElem?_eq_some_iff.1 T9.out).1).trans T9.out); have V10 := hid ((HB12.out.block (W.heap.size + 1) (Array.getElem?_eq_some_iff.1 T10.out).1).trans T10.out); obtain ⟨i0, i1, fi0, fi1, hli⟩ := two_cells V9.out; obtain ⟨j0, j1, fj0, fj1, hlj⟩ := two_cells V10.out))); rw [contF]; refine ⟨?_, ?_⟩; (next => (repeat (with_reducible first | assumption | exact KeepB.refl (by first | (simp; done) | (simp; omega)) | refine KeepB.drew ?_ | refine KeepB.alloc ?_ _ | refine KeepB.setCell ?_ (by first | (simp; done) | (simp; omega)) | refine KeepB.below ?_ (by assumption)))))
          all_goals (rw [wpSteps]; go_wp2_with (fail); rw [contF]; refine ⟨?_, ?_⟩; (next => (repeat (with_reducible first | assumption | exact KeepB.refl (by first | (simp; done) | (simp; omega)) | refine KeepB.drew ?_ | refine KeepB.alloc ?_ _ | refine KeepB.setCell ?_ (by first | (simp; done) | (simp; omega)) | refine KeepB.below ?_ (by assumption)))))
          all_goals (rw [wpSteps])
          all_goals (rw [wpMixC])
          all_goals (rw [wpMix]; simp only [pick, List.drop_succ_cons, List.drop_zero, List.head?_cons, Option.toList_some, List.cons_append, List.nil_append])
          all_goals (go_wp2_with ((first | fail)); rw [contF])
          all_goals (rw [wpMix])
          all_goals (refine hQ' _ _ ?_)
          all_goals
            go_wp2_with fail
            go_roundw
            case rel =>
              obtain ⟨t1, t2⟩ := two_set2 (x' := .int .i64 p3l) (y' := .int .i64 p3h) (u' := .int .i64 l3l) (v' := .int .i64 l3h) V9.out V10.out (by omega)
              exact ⟨3, p3l, p3h, l3l, l3h, by omega, by go_num, hid t1, hid t2, hid ⟨by omega, by omega, by omega, fun _ => ⟨rfl, rfl, rfl, rfl⟩⟩, ((hbel.trans (HB8.out.mono (by omega))).trans (HB12.out.mono (by omega))).trans (((((Below.refl _ _).setCell (by simp) _).setCell (by simp) _).setCell (by simp) _).setCell (by simp) _)⟩
            case measure => simp [intOf]
      · obtain ⟨rfl, rfl, rfl, rfl⟩ := HO.out.2.2.2 rfl
        obtain ⟨m0, m1, m2, m3, m4, m5, m6, m7, m8, m9, m10, m11, ml⟩ := tw_cells (S0.out)
        obtain ⟨c0, c1, c2, c3, c4, c5, hlc⟩ := six_row S1.out
        go_wp2_with (go_at_call 93; ((with_reducible refine (HSQ.out _).mono ?_); rintro _ w13 ⟨rfl, hb13⟩))
        have hz13 : wr.heap.size ≤ w13.heap.size := hb13.size
        obtain ⟨Y, hY⟩ : ∃ Y, Y = w13.alloc (.cells #[.int .i64 sql, .int .i64 sqh] 157) := ⟨_, rfl⟩
        rw [← hY]
        have hbY : Below w13.heap.size w13 Y := by rw [hY]; (repeat (with_reducible first | exact Below.refl _ _ | assumption | refine Below.drewN _ ?_ | refine Below.drew ?_ | refine Below_alloc ?_ _ | refine Below.alloc ?_ (by first | (simp; done) | (simp; omega) | omega) _ | refine Below.setCell ?_ (by first | (simp; done) | (simp; omega) | omega) _ | refine Below_call ?_ (by assumption) | refine Below.trans ?_ (by assumption)))
        have R15 : Y.heap[w13.heap.size]? = some (.cells #[.int .i64 sql, .int .i64 sqh] 157 (0, 0)) := by rw [hY]; exact heap_alloc_new w13 _
        clear hY m0 m1 m2 m3 m4 m5 m6 m7 m8 m9 m10 m11 ml c0 c1 c2 c3 c4 c5 hlc
        have hbrY : Below wr.heap.size wr Y := hb13.trans (hbY.mono hz13)
        have HBY2 : Hid (Below w.heap.size w Y) := hid (HBY.out.trans (hbrY.mono HBY.out.size))
        have Y9 := hid ((hbrY.block W.heap.size hlr9).trans HR9.out)
        have Y10 := hid ((hbrY.block (W.heap.size + 1) hlr10).trans HR10.out)
        obtain ⟨m0, m1, m2, m3, m4, m5, m6, m7, m8, m9, m10, m11, ml⟩ := tw_cells ((hbrY.block w.heap.size (by omega)).trans S0.out)
        obtain ⟨s0, s1, fs0, fs1, hls⟩ := two_cells R15
        have hmx := HMX.out
        have hmn := HMN.out
        have hl9Y := (Array.getElem?_eq_some_iff.1 Y9.out).1
        have hl10Y := (Array.getElem?_eq_some_iff.1 Y10.out).1
        clear fs0 fs1 R15 hb13 hbY hbrY
        refine wp_mixH (fun wc => Below (Y.heap.size) Y wc) 22 [0, 1, 2, 3, 4, 5, 6, 7, 10, 11, 12, 13, 14, 15, 16, 17] [(8, [9]), (18, [19, 20])] 21 [] [.f [22]] (by kernel_rfl) (by kernel_rfl) ((Below.refl _ _).drew) ?_
        intro Q' hQ'
        simp only [pick, List.drop_succ_cons, List.drop_zero, List.head?_cons, Option.toList_some, List.cons_append, List.nil_append]
        (repeat (first | go_big_quiet_skip | (go_big_quiet_want; refine quiet_simple rfl ?_; go_big_quiet_op; go_big_quiet_on) | (go_big_quiet_want; refine quiet_cellB (ty := 3) rfl rfl (by kernel_rfl) (by assumption) (by first | omega | (simp; omega)) ?_; simp only [Act.put, List.setIfInBounds_toArray, List.set_cons_succ, List.set_cons_zero]; go_big_quiet_on) | (go_big_quiet_want; refine quiet_agg12B (ty := 134) rfl rfl (by kernel_rfl) (by assumption) (by assumption) (by assumption) (by assumption) (by assumption) (by assumption) (by assumption) (by assumption) (by assumption) (by assumption) (by assumption) (by assumption) (by first | omega | (simp; omega)) ?_; simp only [Act.put, List.setIfInBounds_toArray, List.set_cons_succ, List.set_cons_zero]; go_big_quiet_on) | (go_big_quiet_want; refine quiet_min rfl rfl rfl (by first | assumption | rfl | omega) ?_; simp only [Act.put, List.setIfInBounds_toArray, List.set_cons_succ, List.set_cons_zero]; go_big_quiet_on) | (go_big_quiet_want; refine quiet_max rfl rfl rfl (by first | assumption | rfl | omega) ?_; simp only [Act.put, List.setIfInBounds_toArray, List.set_cons_succ, List.set_cons_zero]; go_big_quiet_on)))
        (try refine wpQuiet_nil ?_)
        (rw [wpFl])
        (refine ⟨?_, ?_⟩)
        ((try simp only [pick, List.drop_succ_cons, List.drop_zero, List.head?_cons, Option.toList_some, List.cons_append, List.nil_append]); rw [wpSteps]; (go_wp2_with ((go_at_call 121; (first | (have hx14 := hb14; ((with_reducible refine (HSL.out _).mono ?_); rintro _ w15 ⟨rfl, hb15⟩); clear hx14; (first | (refine row_n2 hb15 (fun hrow => ?_); obtain ⟨f0', f1', ff0, ff1, hlf⟩ := two_cells hrow) | (have hrow' := (hb15.block _ hlf).trans hrow; clear hrow f0' f1' ff0 ff1; have hrow := hrow'; clear hrow'; have hlf2 := hlf; clear hlf; obtain ⟨f0', f1', ff0, ff1, hlf⟩ := two_cells hrow) | skip)) | (((with_reducible refine (HSL.out _).mono ?_); rintro _ w14 ⟨rfl, hb14⟩); have hz14 : Y.heap.size ≤ w14.heap.size := (by have := hb14.size; first | exact this | (simp at this; omega)); (first | (refine row_k hb14 (fun hrow => ?_); obtain ⟨f0', f1', ff0, ff1, hlf⟩ := two_cells hrow) | skip))))); rw [contF]; refine ⟨?_, ?_⟩; (next => (repeat (with_reducible first | exact Below.refl _ _ | assumption | refine Below.drewN _ ?_ | refine Below.drew ?_ | refine Below_alloc ?_ _ | refine Below.alloc ?_ (by first | (simp; done) | (simp; omega) | omega) _ | refine Below.setCell ?_ (by first | (simp; done) | (simp; omega) | omega) _ | refine Below_call ?_ (by assumption) | refine Below.trans ?_ (by assumption))))); rw [wpSteps])
        (try simp only [pick, List.drop_succ_cons, List.drop_zero, List.head?_cons, Option.toList_some, List.cons_append, List.nil_append])
        (repeat (first | go_big_quiet_skip | (go_big_quiet_want; refine quiet_simple rfl ?_; go_big_quiet_op; go_big_quiet_on) | (go_big_quiet_want; refine quiet_cellB (ty := 3) rfl rfl (by kernel_rfl) (by assumption) (by first | omega | (simp; omega)) ?_; simp only [Act.put, List.setIfInBounds_toArray, List.set_cons_succ, List.set_cons_zero]; go_big_quiet_on) | (go_big_quiet_want; refine quiet_agg12B (ty := 134) rfl rfl (by kernel_rfl) (by assumption) (by assumption) (by assumption) (by assumption) (by assumption) (by assumption) (by assumption) (by assumption) (by assumption) (by assumption) (by assumption) (by assumption) (by first | omega | (simp; omega)) ?_; simp only [Act.put, List.setIfInBounds_toArray, List.set_cons_succ, List.set_cons_zero]; go_big_quiet_on) | (go_big_quiet_want; refine quiet_min rfl rfl rfl (by first | assumption | rfl | omega) ?_; simp only [Act.put, List.setIfInBounds_toArray, List.set_cons_succ, List.set_cons_zero]; go_big_quiet_on) | (go_big_quiet_want; refine quiet_max rfl rfl rfl (by first | assumption | rfl | omega) ?_; simp only [Act.put, List.setIfInBounds_toArray, List.set_cons_succ, List.set_cons_zero]; go_big_quiet_on)))
        (try refine wpQuiet_nil ?_)
        rotate_left
        ((try simp only [pick, List.drop_succ_cons, List.drop_zero, List.head?_cons, Option.toList_some, List.cons_append, List.nil_append]); rw [wpSteps]; (go_wp2_with (fail); rw [contF]; refine ⟨?_, ?_⟩; (next => (repeat (with_reducible first | exact Below.refl _ _ | assumption | refine Below.drewN _ ?_ | refine Below.drew ?_ | refine Below_alloc ?_ _ | refine Below.alloc ?_ (by first | (simp; done) | (simp; omega) | omega) _ | refine Below.setCell ?_ (by first | (simp; done) | (simp; omega) | omega) _ | refine Below_call ?_ (by assumption) | refine Below.trans ?_ (by assumption))))); rw [wpSteps])
        (simp only [flat7, List.cons_append, List.nil_append])
        (rw [wpMixC])
        ((try simp only [pick, List.drop_succ_cons, List.drop_zero, List.head?_cons, Option.toList_some, List.cons_append, List.nil_append]); rw [wpSteps]; (go_wp2_with ((go_at_call 121; (first | (have hx14 := hb14; ((with_reducible refine (HSL.out _).mono ?_); rintro _ w15 ⟨rfl, hb15⟩); clear hx14; (first | (refine row_n2 hb15 (fun hrow => ?_); obtain ⟨f0', f1', ff0, ff1, hlf⟩ := two_cells hrow) | (have hrow' := (hb15.block _ hlf).trans hrow; clear hrow f0' f1' ff0 ff1; have hrow := hrow'; clear hrow'; have hlf2 := hlf; clear hlf; obtain ⟨f0', f1', ff0, ff1, hlf⟩ := two_cells hrow) | skip)) | (((with_reducible refine (HSL.out _).mono ?_); rintro _ w14 ⟨rfl, hb14⟩); have hz14 : Y.heap.size ≤ w14.heap.size := (by have := hb14.size; first | exact this | (simp at this; omega)); (first | (refine row_k hb14 (fun hrow => ?_); obtain ⟨f0', f1', ff0, ff1, hlf⟩ := two_cells hrow) | skip))))); rw [contF]; refine ⟨?_, ?_⟩; (next => (repeat (with_reducible first | exact Below.refl _ _ | assumption | refine Below.drewN _ ?_ | refine Below.drew ?_ | refine Below_alloc ?_ _ | refine Below.alloc ?_ (by first | (simp; done) | (simp; omega) | omega) _ | refine Below.setCell ?_ (by first | (simp; done) | (simp; omega) | omega) _ | refine Below_call ?_ (by assumption) | refine Below.trans ?_ (by assumption))))); rw [wpSteps])
        (rw [wpMixC])
        (try simp only [pick, List.drop_succ_cons, List.drop_zero, List.head?_cons, Option.toList_some, List.cons_append, List.nil_append])
        (repeat (first | go_big_quiet_skip | (go_big_quiet_want; refine quiet_simple rfl ?_; go_big_quiet_op; go_big_quiet_on) | (go_big_quiet_want; refine quiet_cellB (ty := 3) rfl rfl (by kernel_rfl) (by assumption) (by first | omega | (simp; omega)) ?_; simp only [Act.put, List.setIfInBounds_toArray, List.set_cons_succ, List.set_cons_zero]; go_big_quiet_on) | (go_big_quiet_want; refine quiet_agg12B (ty := 134) rfl rfl (by kernel_rfl) (by assumption) (by assumption) (by assumption) (by assumption) (by assumption) (by assumption) (by assumption) (by assumption) (by assumption) (by assumption) (by assumption) (by assumption) (by first | omega | (simp; omega)) ?_; simp only [Act.put, List.setIfInBounds_toArray, List.set_cons_succ, List.set_cons_zero]; go_big_quiet_on) | (go_big_quiet_want; refine quiet_min rfl rfl rfl (by first | assumption | rfl | omega) ?_; simp only [Act.put, List.setIfInBounds_toArray, List.set_cons_succ, List.set_cons_zero]; go_big_quiet_on) | (go_big_quiet_want; refine quiet_max rfl rfl rfl (by first | assumption | rfl | omega) ?_; simp only [Act.put, List.setIfInBounds_toArray, List.set_cons_succ, List.set_cons_zero]; go_big_quiet_on)))
        (try refine wpQuiet_nil ?_)
        (rw [wpMixC])
        ((try simp only [pick, List.drop_succ_cons, List.drop_zero, List.head?_cons, Option.toList_some, List.cons_append, List.nil_append]); rw [wpSteps]; (go_wp2_with ((go_at_call 121; (first | (have hx14 := hb14; ((with_reducible refine (HSL.out _).mono ?_); rintro _ w15 ⟨rfl, hb15⟩); clear hx14; (first | (refine row_n2 hb15 (fun hrow => ?_); obtain ⟨f0', f1', ff0, ff1, hlf⟩ := two_cells hrow) | (have hrow' := (hb15.block _ hlf).trans hrow; clear hrow f0' f1' ff0 ff1; have hrow := hrow'; clear hrow'; have hlf2 := hlf; clear hlf; obtain ⟨f0', f1', ff0, ff1, hlf⟩ := two_cells hrow) | skip)) | (((with_reducible refine (HSL.out _).mono ?_); rintro _ w14 ⟨rfl, hb14⟩); have hz14 : Y.heap.size ≤ w14.heap.size := (by have := hb14.size; first | exact this | (simp at this; omega)); (first | (refine row_k hb14 (fun hrow => ?_); obtain ⟨f0', f1', ff0, ff1, hlf⟩ := two_cells hrow) | skip))))); rw [contF]; refine ⟨?_, ?_⟩; (next => (repeat (with_reducible first | exact Below.refl _ _ | assumption | refine Below.drewN _ ?_ | refine Below.drew ?_ | refine Below_alloc ?_ _ | refine Below.alloc ?_ (by first | (simp; done) | (simp; omega) | omega) _ | refine Below.setCell ?_ (by first | (simp; done) | (simp; omega) | omega) _ | refine Below_call ?_ (by assumption) | refine Below.trans ?_ (by assumption))))); rw [wpSteps])
        (rw [wpMixC])
        (try simp only [pick, List.drop_succ_cons, List.drop_zero, List.head?_cons, Option.toList_some, List.cons_append, List.nil_append])
        (repeat (first | go_big_quiet_skip | (go_big_quiet_want; refine quiet_simple rfl ?_; go_big_quiet_op; go_big_quiet_on) | (go_big_quiet_want; refine quiet_cellB (ty := 3) rfl rfl (by kernel_rfl) (by assumption) (by first | omega | (simp; omega)) ?_; simp only [Act.put, List.setIfInBounds_toArray, List.set_cons_succ, List.set_cons_zero]; go_big_quiet_on) | (go_big_quiet_want; refine quiet_agg12B (ty := 134) rfl rfl (by kernel_rfl) (by assumption) (by assumption) (by assumption) (by assumption) (by assumption) (by assumption) (by assumption) (by assumption) (by assumption) (by assumption) (by assumption) (by assumption) (by first | omega | (simp; omega)) ?_; simp only [Act.put, List.setIfInBounds_toArray, List.set_cons_succ, List.set_cons_zero]; go_big_quiet_on) | (go_big_quiet_want; refine quiet_min rfl rfl rfl (by first | assumption | rfl | omega) ?_; simp only [Act.put, List.setIfInBounds_toArray, List.set_cons_succ, List.set_cons_zero]; go_big_quiet_on) | (go_big_quiet_want; refine quiet_max rfl rfl rfl (by first | assumption | rfl | omega) ?_; simp only [Act.put, List.setIfInBounds_toArray, List.set_cons_succ, List.set_cons_zero]; go_big_quiet_on)))
        (try refine wpQuiet_nil ?_)
        rotate_right
        (rw [wpFl])
        (refine ⟨?_, ?_⟩)
        ((try simp only [pick, List.drop_succ_cons, List.drop_zero, List.head?_cons, Option.toList_some, List.cons_append, List.nil_append]); rw [wpSteps]; (go_wp2_with ((go_at_call 121; (first | (have hx14 := hb14; ((with_reducible refine (HSL.out _).mono ?_); rintro _ w15 ⟨rfl, hb15⟩); clear hx14; (first | (refine row_n2 hb15 (fun hrow => ?_); obtain ⟨f0', f1', ff0, ff1, hlf⟩ := two_cells hrow) | (have hrow' := (hb15.block _ hlf).trans hrow; clear hrow f0' f1' ff0 ff1; have hrow := hrow'; clear hrow'; have hlf2 := hlf; clear hlf; obtain ⟨f0', f1', ff0, ff1, hlf⟩ := two_cells hrow) | skip)) | (((with_reducible refine (HSL.out _).mono ?_); rintro _ w14 ⟨rfl, hb14⟩); have hz14 : Y.heap.size ≤ w14.heap.size := (by have := hb14.size; first | exact this | (simp at this; omega)); (first | (refine row_k hb14 (fun hrow => ?_); obtain ⟨f0', f1', ff0, ff1, hlf⟩ := two_cells hrow) | skip))))); rw [contF]; refine ⟨?_, ?_⟩; (next => (repeat (with_reducible first | exact Below.refl _ _ | assumption | refine Below.drewN _ ?_ | refine Below.drew ?_ | refine Below_alloc ?_ _ | refine Below.alloc ?_ (by first | (simp; done) | (simp; omega) | omega) _ | refine Below.setCell ?_ (by first | (simp; done) | (simp; omega) | omega) _ | refine Below_call ?_ (by assumption) | refine Below.trans ?_ (by assumption))))); rw [wpSteps])
        (try simp only [pick, List.drop_succ_cons, List.drop_zero, List.head?_cons, Option.toList_some, List.cons_append, List.nil_append])
        (repeat (first | go_big_quiet_skip | (go_big_quiet_want; refine quiet_simple rfl ?_; go_big_quiet_op; go_big_quiet_on) | (go_big_quiet_want; refine quiet_cellB (ty := 3) rfl rfl (by kernel_rfl) (by assumption) (by first | omega | (simp; omega)) ?_; simp only [Act.put, List.setIfInBounds_toArray, List.set_cons_succ, List.set_cons_zero]; go_big_quiet_on) | (go_big_quiet_want; refine quiet_agg12B (ty := 134) rfl rfl (by kernel_rfl) (by assumption) (by assumption) (by assumption) (by assumption) (by assumption) (by assumption) (by assumption) (by assumption) (by assumption) (by assumption) (by assumption) (by assumption) (by first | omega | (simp; omega)) ?_; simp only [Act.put, List.setIfInBounds_toArray, List.set_cons_succ, List.set_cons_zero]; go_big_quiet_on) | (go_big_quiet_want; refine quiet_min rfl rfl rfl (by first | assumption | rfl | omega) ?_; simp only [Act.put, List.setIfInBounds_toArray, List.set_cons_succ, List.set_cons_zero]; go_big_quiet_on) | (go_big_quiet_want; refine quiet_max rfl rfl rfl (by first | assumption | rfl | omega) ?_; simp only [Act.put, List.setIfInBounds_toArray, List.set_cons_succ, List.set_cons_zero]; go_big_quiet_on)))
        (try refine wpQuiet_nil ?_)
        rotate_left
        ((try simp only [pick, List.drop_succ_cons, List.drop_zero, List.head?_cons, Option.toList_some, List.cons_append, List.nil_append]); rw [wpSteps]; (go_wp2_with (fail); rw [contF]; refine ⟨?_, ?_⟩; (next => (repeat (with_reducible first | exact Below.refl _ _ | assumption | refine Below.drewN _ ?_ | refine Below.drew ?_ | refine Below_alloc ?_ _ | refine Below.alloc ?_ (by first | (simp; done) | (simp; omega) | omega) _ | refine Below.setCell ?_ (by first | (simp; done) | (simp; omega) | omega) _ | refine Below_call ?_ (by assumption) | refine Below.trans ?_ (by assumption))))); rw [wpSteps])
        (simp only [flat7, List.cons_append, List.nil_append])
        (rw [wpMixC])
        ((try simp only [pick, List.drop_succ_cons, List.drop_zero, List.head?_cons, Option.toList_some, List.cons_append, List.nil_append]); rw [wpSteps]; (go_wp2_with ((go_at_call 121; (first | (have hx14 := hb14; ((with_reducible refine (HSL.out _).mono ?_); rintro _ w15 ⟨rfl, hb15⟩); clear hx14; (first | (refine row_n2 hb15 (fun hrow => ?_); obtain ⟨f0', f1', ff0, ff1, hlf⟩ := two_cells hrow) | (have hrow' := (hb15.block _ hlf).trans hrow; clear hrow f0' f1' ff0 ff1; have hrow := hrow'; clear hrow'; have hlf2 := hlf; clear hlf; obtain ⟨f0', f1', ff0, ff1, hlf⟩ := two_cells hrow) | skip)) | (((with_reducible refine (HSL.out _).mono ?_); rintro _ w14 ⟨rfl, hb14⟩); have hz14 : Y.heap.size ≤ w14.heap.size := (by have := hb14.size; first | exact this | (simp at this; omega)); (first | (refine row_k hb14 (fun hrow => ?_); obtain ⟨f0', f1', ff0, ff1, hlf⟩ := two_cells hrow) | skip))))); rw [contF]; refine ⟨?_, ?_⟩; (next => (repeat (with_reducible first | exact Below.refl _ _ | assumption | refine Below.drewN _ ?_ | refine Below.drew ?_ | refine Below_alloc ?_ _ | refine Below.alloc ?_ (by first | (simp; done) | (simp; omega) | omega) _ | refine Below.setCell ?_ (by first | (simp; done) | (simp; omega) | omega) _ | refine Below_call ?_ (by assumption) | refine Below.trans ?_ (by assumption))))); rw [wpSteps])
        (rw [wpMixC])
        (try simp only [pick, List.drop_succ_cons, List.drop_zero, List.head?_cons, Option.toList_some, List.cons_append, List.nil_append])
        (repeat (first | go_big_quiet_skip | (go_big_quiet_want; refine quiet_simple rfl ?_; go_big_quiet_op; go_big_quiet_on) | (go_big_quiet_want; refine quiet_cellB (ty := 3) rfl rfl (by kernel_rfl) (by assumption) (by first | omega | (simp; omega)) ?_; simp only [Act.put, List.setIfInBounds_toArray, List.set_cons_succ, List.set_cons_zero]; go_big_quiet_on) | (go_big_quiet_want; refine quiet_agg12B (ty := 134) rfl rfl (by kernel_rfl) (by assumption) (by assumption) (by assumption) (by assumption) (by assumption) (by assumption) (by assumption) (by assumption) (by assumption) (by assumption) (by assumption) (by assumption) (by first | omega | (simp; omega)) ?_; simp only [Act.put, List.setIfInBounds_toArray, List.set_cons_succ, List.set_cons_zero]; go_big_quiet_on) | (go_big_quiet_want; refine quiet_min rfl rfl rfl (by first | assumption | rfl | omega) ?_; simp only [Act.put, List.setIfInBounds_toArray, List.set_cons_succ, List.set_cons_zero]; go_big_quiet_on) | (go_big_quiet_want; refine quiet_max rfl rfl rfl (by first | assumption | rfl | omega) ?_; simp only [Act.put, List.setIfInBounds_toArray, List.set_cons_succ, List.set_cons_zero]; go_big_quiet_on)))
        (try refine wpQuiet_nil ?_)
        rotate_right
        (rw [wpFl])
        ((try simp only [pick, List.drop_succ_cons, List.drop_zero, List.head?_cons, Option.toList_some, List.cons_append, List.nil_append]); rw [wpSteps]; (go_wp2_with (fail); rw [contF]; refine ⟨?_, ?_⟩; (next => (repeat (with_reducible first | exact Below.refl _ _ | assumption | refine Below.drewN _ ?_ | refine Below.drew ?_ | refine Below_alloc ?_ _ | refine Below.alloc ?_ (by first | (simp; done) | (simp; omega) | omega) _ | refine Below.setCell ?_ (by first | (simp; done) | (simp; omega) | omega) _ | refine Below_call ?_ (by assumption) | refine Below.trans ?_ (by assumption))))); rw [wpSteps])
        all_goals (rw [wpMixC])
        all_goals (rw [wpMix]; simp only [pick, List.drop_succ_cons, List.drop_zero, List.head?_cons, Option.toList_some, List.cons_append, List.nil_append])
        all_goals (go_wp2_with (fail); rw [contF])
        all_goals (rw [wpMix])
        all_goals (refine hQ' _ _ ?_)
        all_goals first
          | (have hb17 : Below Y.heap.size Y w15 := by (repeat (with_reducible first | exact Below.refl _ _ | assumption | refine Below.drewN _ ?_ | refine Below.drew ?_ | refine Below_alloc ?_ _ | refine Below.alloc ?_ (by first | (simp; done) | (simp; omega) | omega) _ | refine Below.setCell ?_ (by first | (simp; done) | (simp; omega) | omega) _ | refine Below_call ?_ (by assumption) | refine Below.trans ?_ (by assumption)))
             obtain ⟨Z, hZ⟩ : ∃ Z, Z = w15.alloc (.cells #[.int .i64 fl, .int .i64 fh] 157) := ⟨_, rfl⟩
             have R17 : Z.heap[w15.heap.size]? = some (.cells #[.int .i64 fl, .int .i64 fh] 157 (0, 0)) := by rw [hZ]; exact heap_alloc_new w15 _
             have hbYZ : Below Y.heap.size Y Z := by rw [hZ]; (repeat (with_reducible first | exact Below.refl _ _ | assumption | refine Below.drewN _ ?_ | refine Below.drew ?_ | refine Below_alloc ?_ _ | refine Below.alloc ?_ (by first | (simp; done) | (simp; omega) | omega) _ | refine Below.setCell ?_ (by first | (simp; done) | (simp; omega) | omega) _ | refine Below_call ?_ (by assumption) | refine Below.trans ?_ (by assumption)))
             rw [← hZ]
             obtain ⟨h17, hg⟩ : ∃ g, g = w15.heap.size := ⟨_, rfl⟩
             rw [← hg] at R17 ⊢
             clear hZ hg)
          | (have hb17 : Below Y.heap.size Y w15 := by (repeat (with_reducible first | exact Below.refl _ _ | assumption | refine Below.drewN _ ?_ | refine Below.drew ?_ | refine Below_alloc ?_ _ | refine Below.alloc ?_ (by first | (simp; done) | (simp; omega) | omega) _ | refine Below.setCell ?_ (by first | (simp; done) | (simp; omega) | omega) _ | refine Below_call ?_ (by assumption) | refine Below.trans ?_ (by assumption)))
             obtain ⟨Z, hZ⟩ : ∃ Z, Z = (w15.setCell ⟨w14.heap.size, 0, none⟩ (.int .i64 fl)).setCell ⟨w14.heap.size, 1, none⟩ (.int .i64 fh) := ⟨_, rfl⟩
             have R17 : Z.heap[w14.heap.size]? = some (.cells #[.int .i64 fl, .int .i64 fh] 157 (0, 0)) := by rw [hZ]; exact two_set hrow
             have hbYZ : Below Y.heap.size Y Z := by rw [hZ]; (repeat (with_reducible first | exact Below.refl _ _ | assumption | refine Below.drewN _ ?_ | refine Below.drew ?_ | refine Below_alloc ?_ _ | refine Below.alloc ?_ (by first | (simp; done) | (simp; omega) | omega) _ | refine Below.setCell ?_ (by first | (simp; done) | (simp; omega) | omega) _ | refine Below_call ?_ (by assumption) | refine Below.trans ?_ (by assumption)))
             rw [← hZ]
             obtain ⟨h17, hg⟩ : ∃ g, g = w14.heap.size := ⟨_, rfl⟩
             rw [← hg] at R17 ⊢
             clear hZ hg)
          | (have hb17 : Below Y.heap.size Y w15 := by (repeat (with_reducible first | exact Below.refl _ _ | assumption | refine Below.drewN _ ?_ | refine Below.drew ?_ | refine Below_alloc ?_ _ | refine Below.alloc ?_ (by first | (simp; done) | (simp; omega) | omega) _ | refine Below.setCell ?_ (by first | (simp; done) | (simp; omega) | omega) _ | refine Below_call ?_ (by assumption) | refine Below.trans ?_ (by assumption)))
             obtain ⟨Z, hZ⟩ : ∃ Z, Z = (w15.setCell ⟨Y.heap.size, 0, none⟩ (.int .i64 fl)).setCell ⟨Y.heap.size, 1, none⟩ (.int .i64 fh) := ⟨_, rfl⟩
             have R17 : Z.heap[Y.heap.size]? = some (.cells #[.int .i64 fl, .int .i64 fh] 157 (0, 0)) := by rw [hZ]; exact two_set hrow
             have hbYZ : Below Y.heap.size Y Z := by rw [hZ]; (repeat (with_reducible first | exact Below.refl _ _ | assumption | refine Below.drewN _ ?_ | refine Below.drew ?_ | refine Below_alloc ?_ _ | refine Below.alloc ?_ (by first | (simp; done) | (simp; omega) | omega) _ | refine Below.setCell ?_ (by first | (simp; done) | (simp; omega) | omega) _ | refine Below_call ?_ (by assumption) | refine Below.trans ?_ (by assumption)))
             rw [← hZ]
             obtain ⟨h17, hg⟩ : ∃ g, g = Y.heap.size := ⟨_, rfl⟩
             rw [← hg] at R17 ⊢
             clear hZ hg)
        all_goals
          have hbZ : Below w.heap.size w Z := HBY2.out.trans (hbYZ.mono HBY2.out.size)
          obtain ⟨u0, u1, fu0, fu1, hlu⟩ := two_cells ((hbYZ.block W.heap.size hl9Y).trans Y9.out)
          obtain ⟨z0, z1, fz0, fz1, hlz⟩ := two_cells ((hbYZ.block (W.heap.size + 1) hl10Y).trans Y10.out)
          obtain ⟨v0, v1, fv0, fv1, hlv⟩ := two_cells R17
          obtain ⟨⟨bp1, bp2⟩, ⟨bp3, bp4⟩⟩ := bP
          obtain ⟨⟨bq1, bq2⟩, ⟨bq3, bq4⟩⟩ := bL
          have g1 := mul_rg (x := ph) (y := ph) (A := 1214521200) (B := 1214521200) (C := 2000000000000000000) (by omega) (by omega) (by decide)
          have g2 := mul_rg (x := fh) (y := lh) (A := 1200) (B := 1229218121041200) (C := 2000000000000000000) (by omega) (by omega) (by decide)
          have g3 := mul_rg (x := pl) (y := pl) (A := 1214521200) (B := 1214521200) (C := 2000000000000000000) (by omega) (by omega) (by decide)
          have g4 := mul_rg (x := fl) (y := ll) (A := 1200) (B := 1229218121041200) (C := 2000000000000000000) (by omega) (by omega) (by decide)
          have HHV : Hid (ANS = if lh = 0 ∨ (ph ≤ 0 ∧ fh * lh ≤ ph * ph) then 2 else if 0 < ll ∧ (0 < pl ∨ pl * pl < fl * ll) then 0 else 1) := hid HV.out
          obtain ⟨X1, hX1⟩ : ∃ X, ph * ph = X := ⟨_, rfl⟩
          obtain ⟨X2, hX2⟩ : ∃ X, fh * lh = X := ⟨_, rfl⟩
          obtain ⟨X3, hX3⟩ : ∃ X, pl * pl = X := ⟨_, rfl⟩
          obtain ⟨X4, hX4⟩ : ∃ X, fl * ll = X := ⟨_, rfl⟩
          rw [hX1] at g1 HHV
          rw [hX2] at g2 HHV
          rw [hX3] at g3 HHV
          rw [hX4] at g4 HHV
          clear HV fu0 fu1 fz0 fz1 fv0 fv1 hbYZ m0 m1 m2 m3 m4 m5 m6 m7 m8 m9 m10 m11 ml s0 s1 hls hmx hmn f3 f4 R17 hb17 bl0 bl1
          (try clear hrow f0' f1' ff0 ff1 hlf)
          (try clear hlf2)
          (try clear hb15)
          (try clear hb14)
          by_cases e1 : lh = 0
          · have e1' : (lh == 0) = true := by simpa using e1
            go_wp2_with fail
            all_goals (go_ret; exact ⟨ret_int (by rw [HHV.out]; (repeat' split) <;> omega), by (repeat (with_reducible first | exact Below.refl _ _ | assumption | refine Below.drewN _ ?_ | refine Below.drew ?_ | refine Below_alloc ?_ _ | refine Below.alloc ?_ (by first | (simp; done) | (simp; omega) | omega) _ | refine Below.setCell ?_ (by first | (simp; done) | (simp; omega) | omega) _ | refine Below_call ?_ (by assumption) | refine Below.trans ?_ (by assumption)))⟩)
          · have e1' : (lh == 0) = false := by simpa using e1
            go_wp2_with fail
            all_goals (go_ret; exact ⟨ret_int (by rw [HHV.out]; (repeat' split) <;> omega), by (repeat (with_reducible first | exact Below.refl _ _ | assumption | refine Below.drewN _ ?_ | refine Below.drew ?_ | refine Below_alloc ?_ _ | refine Below.alloc ?_ (by first | (simp; done) | (simp; omega) | omega) _ | refine Below.setCell ?_ (by first | (simp; done) | (simp; omega) | omega) _ | refine Below_call ?_ (by assumption) | refine Below.trans ?_ (by assumption)))⟩)
end Go.Proofs.Ytlmdmpjfehpjeaa

/- Tracks: the scores in a box by the program. -/
set_option linter.unusedVariables false
set_option linter.unusedSimpArgs false
namespace Go.Proofs.Ytlmdmpjfehpjeaa
open Go.RowKit

theorem ans_val (m : TMod) (b : TBox) (p : V3) (t : Int) : m.ans b p t = 0 ∨ m.ans b p t = 1 ∨ m.ans b p t = 2 := by
  unfold TMod.ans ansR
  split
  · omega
  · split <;> omega
theorem ownR_bd {e l a b : Int} (ha : 0 ≤ a ∧ a ≤ 10000) (hb : 0 ≤ b ∧ b ≤ 10000) : (0 ≤ (ownR e l a b).lo ∧ (ownR e l a b).lo ≤ 10000) ∧ (0 ≤ (ownR e l a b).hi ∧ (ownR e l a b).hi ≤ 10000) := by
  unfold ownR
  simp only
  constructor
  · (repeat' split) <;> omega
  · (repeat' split) <;> omega
theorem scores_take (m : TMod) (b : TBox) {l : List THit} {k : Nat} (h : k < l.length) : m.scores b (l.take (k + 1)) = (m.scores b (l.take k)).plus (m.hitR b (hitAt l k)) := by
  rw [hitAt_take h]; unfold TMod.scores; rw [List.foldl_append]; rfl
theorem hit_prod {m : TMod} {h : THit} (ho : m.Ok) (hh : h.Ok) : (0 ≤ h.w * m.mi ∧ h.w * m.mi ≤ 10000) ∧ (0 ≤ h.w * m.no ∧ h.w * m.no ≤ 10000) := by
  have h1 := mul_rg (x := h.w) (y := m.mi) (A := 100) (B := 100) (C := 10000) (by have := hh.w; omega) (by have := ho.mi; omega) (by decide)
  have h2 := mul_rg (x := h.w) (y := m.no) (A := 100) (B := 100) (C := 10000) (by have := hh.w; omega) (by have := ho.no; omega) (by decide)
  have h3 := Int.mul_nonneg hh.w.1 ho.mi.1
  have h4 := Int.mul_nonneg hh.w.1 ho.no.1
  omega
theorem scores_bd {m : TMod} {b : TBox} {l : List THit} (ho : m.Ok) (hok : ∀ i, i < l.length → (hitAt l i).Ok) : ∀ k, k ≤ l.length → (0 ≤ (m.scores b (l.take k)).lo ∧ (m.scores b (l.take k)).lo ≤ 10000 * k) ∧ (0 ≤ (m.scores b (l.take k)).hi ∧ (m.scores b (l.take k)).hi ≤ 10000 * k) := by
  intro k
  induction k with
  | zero => intro _; simp [TMod.scores]
  | succ k ih =>
    intro hk
    have h1 := ih (by omega)
    obtain ⟨g1, g2⟩ := hit_prod ho (hok k (by omega))
    have h2 := ownR_bd (e := m.ans b (hitAt l k).p ((hitAt l k).t + m.ea)) (l := m.ans b (hitAt l k).p ((hitAt l k).t - m.la - 1)) g1 g2
    rw [scores_take m b (by omega)]
    unfold TMod.hitR Rg.plus
    simp only
    push_cast
    omega

set_option maxRecDepth 100000 in
set_option maxHeartbeats 16000000 in
theorem track_scores (m : TMod) (b : TBox) (l : List THit) (v : Value) (w : World) (h : HitsAt w v l) (hl : l.length ≤ 12) (hok : ∀ i, i < l.length → (hitAt l i).Ok) (ho : m.Ok) (hlo : b.lo.inS 20 = true) (hhi : b.hi.inS 20 = true) (hc : m.canBe b) :
    Calls Try.prog 96 #[m.v, b.v, v] w fun e w' => e = .returned (m.scores b l).v ∧ Below w.heap.size w w' := by
  obtain ⟨ao, cap, rfl, h1, h2, h3⟩ := h.opn
  unfold maxLen at h2
  have HEN : Hid (∀ k, k < l.length → ∀ W, Calls Try.prog 128 #[m.v, (hitAt l k).v] W fun e w' => e = .returned (.tuple #[.agg #[.int .i64 (hitAt l k).p.x, .int .i64 (hitAt l k).p.y, .int .i64 (hitAt l k).p.z, .int .i64 ((hitAt l k).t + m.ea)], .agg #[.int .i64 (hitAt l k).p.x, .int .i64 (hitAt l k).p.y, .int .i64 (hitAt l k).p.z, .int .i64 ((hitAt l k).t - m.la - 1)]]) ∧ Below W.heap.size W w') := hid (fun k hk W => track_ends m _ W ho (hok k hk))
  have HA1 : Hid (∀ k, k < l.length → ∀ W, Calls Try.prog 94 #[m.v, b.v, .agg #[.int .i64 (hitAt l k).p.x, .int .i64 (hitAt l k).p.y, .int .i64 (hitAt l k).p.z, .int .i64 ((hitAt l k).t + m.ea)]] W fun e w' => e = .returned (.int .i64 (m.ans b (hitAt l k).p ((hitAt l k).t + m.ea))) ∧ Below W.heap.size W w') := hid (fun k hk W => track_answer m b _ _ W ho hlo hhi hc (hok k hk).p (by have h1 := (hok k hk).t; have h2 := ho.ea; omega))
  have HA2 : Hid (∀ k, k < l.length → ∀ W, Calls Try.prog 94 #[m.v, b.v, .agg #[.int .i64 (hitAt l k).p.x, .int .i64 (hitAt l k).p.y, .int .i64 (hitAt l k).p.z, .int .i64 ((hitAt l k).t - m.la - 1)]] W fun e w' => e = .returned (.int .i64 (m.ans b (hitAt l k).p ((hitAt l k).t - m.la - 1))) ∧ Below W.heap.size W w') := hid (fun k hk W => track_answer m b _ _ W ho hlo hhi hc (hok k hk).p (by have h1 := (hok k hk).t; have h2 := ho.la; omega))
  have HST : Hid (∀ k, k < l.length → m.scores b (l.take (k + 1)) = (m.scores b (l.take k)).plus (m.hitR b (hitAt l k))) := hid (fun k hk => scores_take m b hk)
  have HBD : Hid (∀ k, k ≤ l.length → (0 ≤ (m.scores b (l.take k)).lo ∧ (m.scores b (l.take k)).lo ≤ 10000 * k) ∧ (0 ≤ (m.scores b (l.take k)).hi ∧ (m.scores b (l.take k)).hi ≤ 10000 * k)) := hid (scores_bd ho hok)
  have HPR : Hid (∀ k, k < l.length → (0 ≤ (hitAt l k).w * m.mi ∧ (hitAt l k).w * m.mi ≤ 10000) ∧ (0 ≤ (hitAt l k).w * m.no ∧ (hitAt l k).w * m.no ≤ 10000)) := hid (fun k hk => hit_prod ho (hok k hk))
  have HS0 : Hid (m.scores b (l.take 0) = ⟨0, 0⟩) := hid (by simp [TMod.scores])
  have HSN : Hid (m.scores b (l.take l.length) = m.scores b l) := hid (by rw [List.take_length])
  have HHR : Hid (∀ k, m.hitR b (hitAt l k) = ownR (m.ans b (hitAt l k).p ((hitAt l k).t + m.ea)) (m.ans b (hitAt l k).p ((hitAt l k).t - m.la - 1)) ((hitAt l k).w * m.mi) ((hitAt l k).w * m.no)) := hid (fun k => rfl)
  have HAV : Hid (∀ p t, m.ans b p t = 0 ∨ m.ans b p t = 1 ∨ m.ans b p t = 2) := hid (ans_val m b)
  generalize hSC : m.scores b l = SC at HSN ⊢
  clear hSC
  generalize hFK : (fun k => m.scores b (l.take k)) = FK
  have HFK : Hid (∀ k, m.scores b (l.take k) = FK k) := hid (fun k => by rw [← hFK])
  simp only [HFK.out] at HST HBD HS0 HSN
  clear hFK HFK
  generalize hHK : (fun k => m.hitR b (hitAt l k)) = HK
  have HHK : Hid (∀ k, m.hitR b (hitAt l k) = HK k) := hid (fun k => by rw [← hHK])
  simp only [HHK.out] at HST HHR
  clear hHK HHK
  generalize hAN : m.ans b = AN at HA1 HA2 HHR HAV
  clear hAN h hok ho hlo hhi hc
  obtain ⟨px, py, pz, tm, tk, lo, hi, li, ea, la, no, mi⟩ := m
  obtain ⟨⟨lx, ly, lz⟩, ⟨hx, hy, hz⟩⟩ := b
  unfold TMod.v TBox.v at *
  simp only at *
  obtain ⟨W0, hW0⟩ : ∃ W0, W0 = (((w.alloc (.cells #[.int .i64 px, .int .i64 py, .int .i64 pz, .int .i64 tm, .int .i64 tk, .int .i64 lo, .int .i64 hi, .int .i64 li, .int .i64 ea, .int .i64 la, .int .i64 no, .int .i64 mi] 134)).alloc (.cells #[.int .i64 lx, .int .i64 ly, .int .i64 lz, .int .i64 hx, .int .i64 hy, .int .i64 hz] 75)).alloc (.cells #[.int .i64 0, .int .i64 0] 157)).alloc (.cells #[.int .i64 0, .int .i64 0] 157) := ⟨_, rfl⟩
  have hbW0 : Below w.heap.size w W0 := by rw [hW0]; (repeat (with_reducible first | exact Below.refl _ _ | assumption | refine Below.drewN _ ?_ | refine Below.drew ?_ | refine Below_alloc ?_ _ | refine Below.alloc ?_ (by first | (simp; done) | (simp; omega) | omega) _ | refine Below.setCell ?_ (by first | (simp; done) | (simp; omega) | omega) _ | refine Below_call ?_ (by assumption) | refine Below.trans ?_ (by assumption)))
  obtain ⟨hz0, q0, q1, q2, q3⟩ := al4 w _ _ _ _ _ _ _ _ W0 hW0
  have Q0 := hid q0
  have Q1 := hid q1
  have Q2 := hid q2
  have Q3 := hid q3
  have hzW0 := hbW0.size
  clear q0 q1 q2 q3
  go_enter Try.func96, Try.ntmps96
  go_wp2_with fail
  rw [← hW0]
  clear hW0
  go_loopw [19] (fun i wr => ∃ (k : Nat) (ol oh : Int), k ≤ l.length ∧ i = .int .i64 k ∧ Hid (wr.heap[w.heap.size + 1 + 1 + 1]? = some (.cells #[.int .i64 ol, .int .i64 oh] 157 (0, 0))) ∧ Hid (FK k = ⟨ol, oh⟩) ∧ Below (w.heap.size + 1 + 1 + 1) W0 wr) (fun i _ => l.length - (intOf i).toNat)
  case atStart => exact ⟨0, 0, 0, Nat.zero_le _, rfl, Q3, HS0, Below.refl _ _⟩
  case round =>
    obtain ⟨k, ol, oh, hk, rfl, HR, HF, hbel⟩ := hrel
    have hzr := hbel.size
    have R0 := hid ((hbel.block w.heap.size (by omega)).trans Q0.out)
    have R1 := hid ((hbel.block (w.heap.size + 1) (by omega)).trans Q1.out)
    have R2 := hid ((hbel.block (w.heap.size + 1 + 1) (by omega)).trans Q2.out)
    have hbx : Below w.heap.size w wr := hbW0.trans (hbel.mono (by omega))
    have HBX := hid hbx
    by_cases hlt : k < l.length
    · obtain ⟨bb, off, rfl, hb, hcc⟩ := h3 k hlt
      obtain ⟨c0, c1, c2, c3, c4⟩ := hcc k hlt
      have hcb : ∀ o, wr.cell? ⟨bb, o, none⟩ = w.cell? ⟨bb, o, none⟩ := fun o => hbx.cell (p := ⟨bb, o, none⟩) hb
      rw [← hcb] at c0 c1 c2 c3 c4
      have hbw : bb < wr.heap.size := by omega
      have HE := hid (HEN.out k hlt)
      have HC1 := hid (HA1.out k hlt)
      have HC2 := hid (HA2.out k hlt)
      have HP := HPR.out k hlt
      have HN : Hid (FK (k + 1) = (⟨ol, oh⟩ : Rg).plus (HK k)) := hid (by rw [HST.out k hlt, HF.out])
      have HB := HBD.out k hk
      rw [HF.out] at HB
      simp only at HB
      have HO := hid (HHR.out k)
      have hE1 := HAV.out (hitAt l k).p ((hitAt l k).t + ea)
      have hE2 := HAV.out (hitAt l k).p ((hitAt l k).t - la - 1)
      generalize hitAt l k = x at *
      generalize AN x.p (x.t + ea) = E1 at *
      generalize AN x.p (x.t - la - 1) = E2 at *
      generalize x.t + ea = TE at *
      generalize x.t - la - 1 = TL at *
      obtain ⟨MI, hMI⟩ : ∃ MI, x.w * mi = MI := ⟨_, rfl⟩
      obtain ⟨NO, hNO⟩ : ∃ NO, x.w * no = NO := ⟨_, rfl⟩
      have kM : IntKind.i64.wrap (x.w * mi) = MI := by rw [hMI]; exact IntWalk.i64_in _ (by rw [hMI] at HP; omega)
      have kN : IntKind.i64.wrap (x.w * no) = NO := by rw [hNO]; exact IntWalk.i64_in _ (by rw [hNO] at HP; omega)
      rw [hMI, hNO] at HP HO
      have hOB := ownR_bd (e := E1) (l := E2) HP.1 HP.2
      rw [← HO.out] at hOB
      generalize HK k = OW at HO HN hOB
      obtain ⟨NX, hNX⟩ : ∃ NX, FK (k + 1) = NX := ⟨_, rfl⟩
      rw [hNX] at HN
      have HNX := hid hNX
      clear hNX
      have HPL : Hid (∀ x y, x = OW.lo → y = OW.hi → ∀ W, Calls Try.prog 129 #[.agg #[.int .i64 ol, .int .i64 oh], .agg #[.int .i64 x, .int .i64 y]] W fun e w' => e = .returned NX.v ∧ Below W.heap.size W w') := hid (fun x y h1 h2 W => by rw [h1, h2, HN.out]; exact track_plus ⟨ol, oh⟩ OW W (by simp only; omega) (by simp only; omega) (by omega) (by omega))
      have HOL : Hid (OW.lo = if E1 = 0 ∧ E2 = 2 then min MI NO else if E1 = 0 then MI else if E2 = 2 then NO else 0) := hid (by rw [HO.out]; rfl)
      have HOH : Hid (OW.hi = if E2 ≠ 0 then max (if E1 ≠ 2 then MI else 0) NO else if E1 ≠ 2 then MI else 0) := hid (by rw [HO.out]; rfl)
      obtain ⟨⟨x0, x1, x2⟩, t, u⟩ := x
      obtain ⟨nl, nh⟩ := NX
      simp only [THit.v, Rg.v] at *
      clear hcc h3 hcb HEN HA1 HA2 HST HBD HPR HHR HAV HO HN hMI hNO hOB HB
      obtain ⟨m0, m1, m2, m3, m4, m5, m6, m7, m8, m9, m10, m11, ml⟩ := tw_cells (R0.out)
      obtain ⟨b0, b1, b2, b3, b4, b5, hlb⟩ := six_row R1.out
      go_wp2_with (go_at_call 128; ((with_reducible refine (HE.out _).mono ?_); rintro _ w2 ⟨rfl, hb2⟩))
      have hz2 : wr.heap.size < w2.heap.size := Nat.lt_of_lt_of_le (by simp) hb2.size
      have hbr2 : Below wr.heap.size wr w2 := by (repeat (with_reducible first | exact Below.refl _ _ | assumption | refine Below.drewN _ ?_ | refine Below.drew ?_ | refine Below_alloc ?_ _ | refine Below.alloc ?_ (by first | (simp; done) | (simp; omega) | omega) _ | refine Below.setCell ?_ (by first | (simp; done) | (simp; omega) | omega) _ | refine Below_call ?_ (by assumption) | refine Below.trans ?_ (by assumption)))
      have RH := hid ((hb2.block wr.heap.size (by simp)).trans (heap_alloc_new wr _))
      obtain ⟨X, hX⟩ : ∃ X, X = (w2.alloc (.cells #[.int .i64 x0, .int .i64 x1, .int .i64 x2, .int .i64 TE] 28)).alloc (.cells #[.int .i64 x0, .int .i64 x1, .int .i64 x2, .int .i64 TL] 28) := ⟨_, rfl⟩
      have hb2X : Below w2.heap.size w2 X := by rw [hX]; (repeat (with_reducible first | exact Below.refl _ _ | assumption | refine Below.drewN _ ?_ | refine Below.drew ?_ | refine Below_alloc ?_ _ | refine Below.alloc ?_ (by first | (simp; done) | (simp; omega) | omega) _ | refine Below.setCell ?_ (by first | (simp; done) | (simp; omega) | omega) _ | refine Below_call ?_ (by assumption) | refine Below.trans ?_ (by assumption)))
      obtain ⟨rA, rB, hlA, hlB⟩ := al2 w2 _ _ _ _ X hX
      rw [← hX]
      clear hX m0 m1 m2 m3 m4 m5 m6 m7 m8 m9 m10 m11 ml b0 b1 b2 b3 b4 b5 hlb c0 c1 c2 c3 c4
      have hbrX : Below wr.heap.size wr X := hbr2.trans (hb2X.mono hbr2.size)
      have XA := hid rA
      have XB := hid rB
      have XH := hid ((hb2X.block wr.heap.size hz2).trans RH.out)
      have X0 := hid ((hbrX.block w.heap.size (by omega)).trans R0.out)
      have X1 := hid ((hbrX.block (w.heap.size + 1) (by omega)).trans R1.out)
      obtain ⟨m0, m1, m2, m3, m4, m5, m6, m7, m8, m9, m10, m11, ml⟩ := tw_cells (X0.out)
      obtain ⟨y0, y1, y2, y3, y4, hly⟩ := five_row XH.out
      clear rA rB
      refine wp_mixC (fun wc => Below (X.heap.size) X wc) 13 [.q [0, 1, 2, 3, 4, 5, 6, 7, 8, 9, 10, 11, 12]] [.q [13]] (by kernel_rfl) (by kernel_rfl) ((Below.refl _ _).drew) ?_
      intro Q' hQ'
      (rw [wpMixC]; simp only [pick, List.drop_succ_cons, List.drop_zero, List.head?_cons, Option.toList_some, List.cons_append, List.nil_append])
      (repeat (first | go_big_quiet_skip | (go_big_quiet_want; refine quiet_simple rfl ?_; go_big_quiet_op; go_big_quiet_on) | (go_big_quiet_want; refine quiet_cellB (ty := 3) rfl rfl (by kernel_rfl) (by assumption) (by first | omega | (simp; omega)) ?_; simp only [Act.put, List.setIfInBounds_toArray, List.set_cons_succ, List.set_cons_zero]; go_big_quiet_on)))
      (try refine wpQuiet_nil ?_)
      (rw [wpMixC])
      (rw [wpMix]; simp only [pick, List.drop_succ_cons, List.drop_zero, List.head?_cons, Option.toList_some, List.cons_append, List.nil_append])
      (repeat (first | (go_big_quiet_step (fail)) | (quiet_step (fail))))
      (try refine wpQuiet_nil ?_)
      (rw [wpMix])
      (refine hQ' _ _ ?_)
      go_wp2_with fail
      obtain ⟨X', hX'⟩ : ∃ X', X' = X.drew := ⟨_, rfl⟩
      have hbXX : Below X.heap.size X X' := by rw [hX']; (repeat (with_reducible first | exact Below.refl _ _ | assumption | refine Below.drewN _ ?_ | refine Below.drew ?_ | refine Below_alloc ?_ _ | refine Below.alloc ?_ (by first | (simp; done) | (simp; omega) | omega) _ | refine Below.setCell ?_ (by first | (simp; done) | (simp; omega) | omega) _ | refine Below_call ?_ (by assumption) | refine Below.trans ?_ (by assumption)))
      have hzXX : X'.heap.size = X.heap.size := by rw [hX']; rfl
      rw [← hX']
      clear hX' m0 m1 m2 m3 m4 m5 m6 m7 m8 m9 m10 m11 ml y0 y1 y2 y3 y4 hly
      obtain ⟨m0, m1, m2, m3, m4, m5, m6, m7, m8, m9, m10, m11, ml⟩ := tw_cells ((hbXX.block w.heap.size (Array.getElem?_eq_some_iff.1 X0.out).1).trans X0.out)
      obtain ⟨b0, b1, b2, b3, b4, b5, hlb⟩ := six_row ((hbXX.block (w.heap.size + 1) (Array.getElem?_eq_some_iff.1 X1.out).1).trans X1.out)
      obtain ⟨n0, n1, n2, n3, hln⟩ := four_row ((hbXX.block w2.heap.size hlA).trans XA.out)
      obtain ⟨o0, o1, o2, o3, hlo⟩ := four_row ((hbXX.block (w2.heap.size + 1) hlB).trans XB.out)
      have hbrX' : Below wr.heap.size wr X' := hbrX.trans (hbXX.mono hbrX.size)
      have HBX' := hid hbrX'
      have hzX' := hbrX'.size
      clear hb2 hbr2 hb2X hbrX hbXX hbrX' hbx
      refine wp_mixC (fun wc => Below (X'.heap.size) X' wc) 9 [.q [0, 1, 2, 4, 5, 6], .f [3, 7], .q [8]] [.q [9]] (by kernel_rfl) (by kernel_rfl) ((Below.refl _ _).drew) ?_
      intro Q' hQ'
      (rw [wpMixC]; simp only [pick, List.drop_succ_cons, List.drop_zero, List.head?_cons, Option.toList_some, List.cons_append, List.nil_append])
      (repeat (first | go_big_quiet_skip | (go_big_quiet_want; refine quiet_simple rfl ?_; go_big_quiet_op; go_big_quiet_on) | (go_big_quiet_want; refine quiet_agg4B (ty := 28) rfl rfl (by kernel_rfl) (by assumption) (by assumption) (by assumption) (by assumption) (by first | omega | (simp; omega)) ?_; simp only [Act.put, List.setIfInBounds_toArray, List.set_cons_succ, List.set_cons_zero]; go_big_quiet_on) | (go_big_quiet_want; refine quiet_agg6B (ty := 75) rfl rfl (by kernel_rfl) (by assumption) (by assumption) (by assumption) (by assumption) (by assumption) (by assumption) (by first | omega | (simp; omega)) ?_; simp only [Act.put, List.setIfInBounds_toArray, List.set_cons_succ, List.set_cons_zero]; go_big_quiet_on) | (go_big_quiet_want; refine quiet_agg12B (ty := 134) rfl rfl (by kernel_rfl) (by assumption) (by assumption) (by assumption) (by assumption) (by assumption) (by assumption) (by assumption) (by assumption) (by assumption) (by assumption) (by assumption) (by assumption) (by first | omega | (simp; omega)) ?_; simp only [Act.put, List.setIfInBounds_toArray, List.set_cons_succ, List.set_cons_zero]; go_big_quiet_on)))
      (try refine wpQuiet_nil ?_)
      (rw [wpMixC]; simp only [pick, List.drop_succ_cons, List.drop_zero, List.head?_cons, Option.toList_some, List.cons_append, List.nil_append])
      (rw [wpSteps]; go_wp2_with ((first | (go_at_call 94; ((with_reducible refine (HC1.out _).mono ?_); rintro _ w3 ⟨rfl, hb3⟩)) | (go_at_call 94; ((with_reducible refine (HC2.out _).mono ?_); rintro _ w4 ⟨rfl, hb4⟩)))); rw [contF]; refine ⟨?_, ?_⟩; (next => (repeat (with_reducible first | exact Below.refl _ _ | assumption | refine Below.drewN _ ?_ | refine Below.drew ?_ | refine Below_alloc ?_ _ | refine Below.alloc ?_ (by first | (simp; done) | (simp; omega) | omega) _ | refine Below.setCell ?_ (by first | (simp; done) | (simp; omega) | omega) _ | refine Below_call ?_ (by assumption) | refine Below.trans ?_ (by assumption)))))
      (rw [wpSteps]; go_wp2_with ((first | (go_at_call 94; ((with_reducible refine (HC1.out _).mono ?_); rintro _ w3 ⟨rfl, hb3⟩)) | (go_at_call 94; ((with_reducible refine (HC2.out _).mono ?_); rintro _ w4 ⟨rfl, hb4⟩)))); rw [contF]; refine ⟨?_, ?_⟩; (next => (repeat (with_reducible first | exact Below.refl _ _ | assumption | refine Below.drewN _ ?_ | refine Below.drew ?_ | refine Below_alloc ?_ _ | refine Below.alloc ?_ (by first | (simp; done) | (simp; omega) | omega) _ | refine Below.setCell ?_ (by first | (simp; done) | (simp; omega) | omega) _ | refine Below_call ?_ (by assumption) | refine Below.trans ?_ (by assumption)))))
      (rw [wpSteps])
      (rw [wpMixC]; simp only [pick, List.drop_succ_cons, List.drop_zero, List.head?_cons, Option.toList_some, List.cons_append, List.nil_append])
      (repeat (first | go_big_quiet_skip | (go_big_quiet_want; refine quiet_simple rfl ?_; go_big_quiet_op; go_big_quiet_on) | (go_big_quiet_want; refine quiet_agg4B (ty := 28) rfl rfl (by kernel_rfl) (by assumption) (by assumption) (by assumption) (by assumption) (by first | omega | (simp; omega)) ?_; simp only [Act.put, List.setIfInBounds_toArray, List.set_cons_succ, List.set_cons_zero]; go_big_quiet_on) | (go_big_quiet_want; refine quiet_agg6B (ty := 75) rfl rfl (by kernel_rfl) (by assumption) (by assumption) (by assumption) (by assumption) (by assumption) (by assumption) (by first | omega | (simp; omega)) ?_; simp only [Act.put, List.setIfInBounds_toArray, List.set_cons_succ, List.set_cons_zero]; go_big_quiet_on) | (go_big_quiet_want; refine quiet_agg12B (ty := 134) rfl rfl (by kernel_rfl) (by assumption) (by assumption) (by assumption) (by assumption) (by assumption) (by assumption) (by assumption) (by assumption) (by assumption) (by assumption) (by assumption) (by assumption) (by first | omega | (simp; omega)) ?_; simp only [Act.put, List.setIfInBounds_toArray, List.set_cons_succ, List.set_cons_zero]; go_big_quiet_on)))
      (try refine wpQuiet_nil ?_)
      (rw [wpMixC])
      (rw [wpMix]; simp only [pick, List.drop_succ_cons, List.drop_zero, List.head?_cons, Option.toList_some, List.cons_append, List.nil_append])
      (repeat (first | (go_big_quiet_step (fail)) | (quiet_step (fail))))
      (try refine wpQuiet_nil ?_)
      (rw [wpMix])
      (refine hQ' _ _ ?_)
      have hbX4 : Below X'.heap.size X' w4 := by (repeat (with_reducible first | exact Below.refl _ _ | assumption | refine Below.drewN _ ?_ | refine Below.drew ?_ | refine Below_alloc ?_ _ | refine Below.alloc ?_ (by first | (simp; done) | (simp; omega) | omega) _ | refine Below.setCell ?_ (by first | (simp; done) | (simp; omega) | omega) _ | refine Below_call ?_ (by assumption) | refine Below.trans ?_ (by assumption)))
      have hbr4 : Below wr.heap.size wr w4 := HBX'.out.trans (hbX4.mono HBX'.out.size)
      have hz4 := hbr4.size
      obtain ⟨s0, s1, fs0, fs1, hls⟩ := two_cells ((hbr4.block (w.heap.size + 1 + 1 + 1) (by omega)).trans HR.out)
      clear fs0 fs1 hb3 hb4 hbX4 m0 m1 m2 m3 m4 m5 m6 m7 m8 m9 m10 m11 ml b0 b1 b2 b3 b4 b5 hlb n0 n1 n2 n3 hln o0 o1 o2 o3 hlo
      rcases hE1 with rfl | rfl | rfl
      all_goals rcases hE2 with rfl | rfl | rfl
      all_goals
        go_wp2_with (go_at_call 129; refine (HPL.out _ _ (by have h := HOL.out; simp at h; omega) (by have h := HOH.out; simp at h; omega) _).mono ?_; rintro _ w5 ⟨rfl, hb5⟩; have hb05 : Below wr.heap.size wr w5 := (by (repeat (with_reducible first | exact Below.refl _ _ | assumption | refine Below.drewN _ ?_ | refine Below.drew ?_ | refine Below_alloc ?_ _ | refine Below.alloc ?_ (by first | (simp; done) | (simp; omega) | omega) _ | refine Below.setCell ?_ (by first | (simp; done) | (simp; omega) | omega) _ | refine Below_call ?_ (by assumption) | refine Below.trans ?_ (by assumption)))); have HB05 := hid hb05; have HR5 := hid ((hb05.block (w.heap.size + 1 + 1 + 1) (by omega)).trans HR.out); obtain ⟨g0, g1, fg0, fg1, hlg⟩ := two_cells HR5.out)
        all_goals
          go_roundw
          case rel => exact ⟨k + 1, nl, nh, by omega, by go_num, hid (two_set HR5.out), HNX, (hbel.trans (HB05.out.mono (by omega))).trans (((Below.refl _ _).setCell (by simp) _).setCell (by simp) _)⟩
          case measure => simp [intOf]; omega
    · have hkl : k = l.length := by omega
      subst hkl
      have HV : Hid (SC = ⟨ol, oh⟩) := hid (by rw [← HSN.out]; exact HF.out)
      obtain ⟨g0, g1, fg0, fg1, hlg⟩ := two_cells R2.out
      have hro := HR.out
      obtain ⟨s0, s1, fs0, fs1, hls⟩ := two_cells hro
      clear hro
      go_wp2_with fail
      ((try simp only [Exit.inBlock, Exit.then]); refine bodyPost_ret (v := .agg #[.int .i64 ol, .int .i64 oh]) ?_ rfl ?_; (next => simp [results, Try.results96, go_sem, hlg, g0, g1]))
      exact ⟨by rw [HV.out]; rfl, by (repeat (with_reducible first | exact Below.refl _ _ | assumption | refine Below.drewN _ ?_ | refine Below.drew ?_ | refine Below_alloc ?_ _ | refine Below.alloc ?_ (by first | (simp; done) | (simp; omega) | omega) _ | refine Below.setCell ?_ (by first | (simp; done) | (simp; omega) | omega) _ | refine Below_call ?_ (by assumption) | refine Below.trans ?_ (by assumption)))⟩
end Go.Proofs.Ytlmdmpjfehpjeaa

