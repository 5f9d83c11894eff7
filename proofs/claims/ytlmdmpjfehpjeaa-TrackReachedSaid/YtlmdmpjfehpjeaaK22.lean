/- Tracks: the nearest distance by the reference. -/
import Derived.Test.YtlmdmpjfehpjeaaK17
import Derived.Test.YtlmdmpjfehpjeaaK21
set_option linter.unusedVariables false
set_option linter.unusedSimpArgs false
namespace Go.Proofs.Ytlmdmpjfehpjeaa
open Go.RowKit

theorem off_steps {m : TMod} {p : V3} (ho : m.Ok) (hp : p.inS 1000 = true) : IntKind.i64.wrap (p.x - m.px) = (m.off p).x ∧ IntKind.i64.wrap (p.y - m.py) = (m.off p).y ∧ IntKind.i64.wrap (p.z - m.pz) = (m.off p).z := by
  have h := inS_iff.1 hp
  have h1 := ho.px; have h2 := ho.py; have h3 := ho.pz
  exact ⟨IntWalk.i64_in _ (by omega), IntWalk.i64_in _ (by omega), IntWalk.i64_in _ (by omega)⟩
theorem near_eq2 {dd al S n : Int} (hS : 0 < S) (h : n = dd * S - al * al) : rN (dd * rD (al * al) S + -rN (al * al) S * 1) (1 * rD (al * al) S) = rN n S ∧ rD (dd * rD (al * al) S + -rN (al * al) S * 1) (1 * rD (al * al) S) = rD n S := by
  rw [h]; exact near_eq hS

set_option maxRecDepth 100000 in
set_option maxHeartbeats 8000000 in
theorem ref_Nearest (m : TMod) (s p : V3) (w : World) (ho : m.Ok) (hs : s.inS 20 = true) (hpm : m.permit s) (hp : p.inS 1000 = true) :
    Calls Try.prog 25 #[m.v, s.v, p.v] w (RetRat w (rN (m.num s p) (s.dot s)) (rD (m.num s p) (s.dot s)) (fun _ => True)) := by
  obtain ⟨n1, n2, n3, nS, nd, na, nds, naa, nn⟩ := near_nums ho hs hpm hp
  obtain ⟨k0, k1, k2⟩ := off_steps ho hp
  have HK := hid (And.intro k0 (And.intro k1 k2))
  clear k0 k1 k2
  have HD1 : Hid (∀ W, Calls Try.prog 82 #[s.v, s.v] W fun e w' => e = .returned (.int .i64 (s.dot s)) ∧ Below W.heap.size W w') := hid (fun W => ref_Dot s s W n1.1 n1.2.1 n1.2.2)
  have HD2 : Hid (∀ W, Calls Try.prog 82 #[(m.off p).v, s.v] W fun e w' => e = .returned (.int .i64 ((m.off p).dot s)) ∧ Below W.heap.size W w') := hid (fun W => ref_Dot _ s W n2.1 n2.2.1 n2.2.2)
  have HD3 : Hid (∀ W, Calls Try.prog 82 #[(m.off p).v, (m.off p).v] W fun e w' => e = .returned (.int .i64 ((m.off p).dot (m.off p))) ∧ Below W.heap.size W w') := hid (fun W => ref_Dot _ _ W n3.1 n3.2.1 n3.2.2)
  have HNE := hid (near_eq2 (dd := (m.off p).dot (m.off p)) (al := (m.off p).dot s) (S := s.dot s) (n := m.num s p) (by omega) rfl)
  have kA : IntKind.i64.wrap ((m.off p).dot s * (m.off p).dot s) = (m.off p).dot s * (m.off p).dot s := IntWalk.i64_in _ (by omega)
  obtain ⟨AA, hAA⟩ : ∃ AA, (m.off p).dot s * (m.off p).dot s = AA := ⟨_, rfl⟩
  have kA' : IntKind.i64.wrap ((m.off p).dot s * (m.off p).dot s) = AA := by rw [kA]; exact hAA
  rw [hAA] at HNE naa
  clear kA hAA
  generalize rN (m.num s p) (s.dot s) = RN at HNE ⊢
  generalize rD (m.num s p) (s.dot s) = RD at HNE ⊢
  generalize m.off p = V at *
  generalize s.dot s = S at *
  generalize V.dot V = VV at *
  generalize V.dot s = VS at *
  obtain ⟨px, py, pz, tm, tk, lo, hi, li, ea, la, no, mi⟩ := m
  obtain ⟨sx, sy, sz⟩ := s
  obtain ⟨qx, qy, qz⟩ := p
  obtain ⟨vx, vy, vz⟩ := V
  unfold TMod.v V3.v at *
  simp only at *
  clear n1 n2 n3 ho hs hpm hp nn nds na
  have HNUM := hid (And.intro nS (And.intro nd naa))
  have hRI : Hid (∀ W', w.heap.size + 5 ≤ W'.heap.size → Calls Try.prog 87 #[.int .i64 VV] W' (RetRat W' VV 1 (fun b => b ≠ (w.heap.size + 1 + 1 + 1)))) := hid (fun W' h => base_RatioInt VV W' _ (fun b hb => by omega) (by omega) (by omega))
  have hRO : Hid (∀ W', w.heap.size + 5 ≤ W'.heap.size → Calls Try.prog 88 #[.int .i64 AA, .int .i64 S] W' (RetRat W' (rN AA S) (rD AA S) (fun b => b ≠ (w.heap.size + 1 + 1 + 1)))) := hid (fun W' h => base_RatioOf AA S W' _ (fun b hb => by omega) (by omega) (by omega) (by omega) (by omega))
  have hRS : Hid (∀ (W' : World) (u v : Value), w.heap.size + 5 ≤ W'.heap.size → RatAt W' u VV 1 (fun b => b ≠ (w.heap.size + 1 + 1 + 1)) → RatAt W' v (rN AA S) (rD AA S) (fun b => b ≠ (w.heap.size + 1 + 1 + 1)) → Calls Try.prog 86 #[u, v] W' (RetRat W' RN RD (fun b => b ≠ (w.heap.size + 1 + 1 + 1)))) := hid (fun W' u v h h1 h2 => by
    obtain ⟨g1, g2, g3, g4, g5, g6⟩ := r_spec (n := AA) (d := S) (by omega)
    have h := base_RatioSub VV 1 (rN AA S) (rD AA S) u v W' (fun b => b ≠ (w.heap.size + 1 + 1 + 1)) (fun b hb => by omega) h1 h2 (by omega) g4 (by have := dl_i64 (x := VV) (by omega) (by omega); omega) (by have := dl_i64 (x := (1:Int)) (by omega) (by omega); omega) (by have := dl_i64 (x := rN AA S) (by omega) (by omega); omega) (by have := dl_i64 (x := rD AA S) (by omega) (by omega); omega)
    rw [HNE.out.1, HNE.out.2] at h
    exact h)
  clear HNE HNUM
  obtain ⟨W, hW⟩ : ∃ W, W = ((((w.alloc (.cells #[.int .i64 px, .int .i64 py, .int .i64 pz, .int .i64 tm, .int .i64 tk, .int .i64 lo, .int .i64 hi, .int .i64 li, .int .i64 ea, .int .i64 la, .int .i64 no, .int .i64 mi] 26)).alloc (.cells #[.int .i64 sx, .int .i64 sy, .int .i64 sz] 22)).alloc (.cells #[.int .i64 qx, .int .i64 qy, .int .i64 qz] 22)).alloc (.cells #[.int .i64 0, .slice none 0 0, .int .i64 0, .slice none 0 0] 53)).alloc (.cells #[.int .i64 0, .int .i64 0, .int .i64 0] 22) := ⟨_, rfl⟩
  have hbW : Below w.heap.size w W := by rw [hW]; (repeat (with_reducible first | exact Below.refl _ _ | assumption | refine Below.drewN _ ?_ | refine Below.drew ?_ | refine Below_alloc ?_ _ | refine Below.alloc ?_ (by first | (simp; done) | (simp; omega) | omega) _ | refine Below.setCell ?_ (by first | (simp; done) | (simp; omega) | omega) _ | refine Below_call ?_ (by assumption) | refine Below.trans ?_ (by assumption)))
  obtain ⟨hzW, q0, q1, q2, q3, q4⟩ := al5 w _ _ _ _ _ _ _ _ _ _ W hW
  have H0 := hid q0
  have H1 := hid q1
  have H2 := hid q2
  have H3 := hid q3
  have H4 := hid q4
  clear q0 q1 q2 q3 q4
  go_enter Try.func25, Try.ntmps25
  go_wp2_with fail
  rw [← hW]
  clear hW
  go_loopw [8] (fun i wr => ∃ (k : Nat) (o0 o1 o2 : Int), k ≤ 3 ∧ i = .int .i64 k ∧ Hid (wr.heap[w.heap.size + 1 + 1 + 1 + 1]? = some (.cells #[.int .i64 o0, .int .i64 o1, .int .i64 o2] 22 (0, 0))) ∧ Hid ((0 < k → o0 = vx) ∧ (1 < k → o1 = vy) ∧ (2 < k → o2 = vz)) ∧ Below (w.heap.size + 1 + 1 + 1 + 1) W wr) (fun i _ => 3 - (intOf i).toNat)
  case atStart => exact ⟨0, 0, 0, 0, by omega, rfl, H4, hid ⟨by omega, by omega, by omega⟩, Below.refl _ _⟩
  case round =>
    obtain ⟨k, o0, o1, o2, hk, rfl, HR, HO, hbel⟩ := hrel
    have hzw := hbel.size
    have hgr : W.heap.size ≤ wr.heap.size := hzw
    have r0 := (hbel.block w.heap.size (by omega)).trans H0.out
    have r1 := (hbel.block (w.heap.size + 1) (by omega)).trans H1.out
    have r2 := (hbel.block (w.heap.size + 1 + 1) (by omega)).trans H2.out
    have R3 := hid ((hbel.block (w.heap.size + 1 + 1 + 1) (by omega)).trans H3.out)
    have hbx : Below w.heap.size w wr := hbW.trans (hbel.mono (by omega))
    have c0 : wr.cell? ⟨w.heap.size, 0, none⟩ = some (.int .i64 px) := by rw [cell_of_row wr _ 0 _ _ (0, 0) r0]; rfl
    have c1 : wr.cell? ⟨w.heap.size, 1, none⟩ = some (.int .i64 py) := by rw [cell_of_row wr _ 1 _ _ (0, 0) r0]; rfl
    have c2 : wr.cell? ⟨w.heap.size, 2, none⟩ = some (.int .i64 pz) := by rw [cell_of_row wr _ 2 _ _ (0, 0) r0]; rfl
    obtain ⟨d0, d1, d2, fd0, fd1, fd2, hl1⟩ := three_cells r1
    obtain ⟨e0, e1, e2, fe0, fe1, fe2, hl2⟩ := three_cells r2
    have hrow := HR.out
    obtain ⟨f0, f1, f2, ff0, ff1, ff2, hl4⟩ := three_cells hrow
    clear hrow r0 r2 fd0 fd1 fd2 fe0 fe1 fe2
    have R1 := hid r1
    clear r1
    have hlt0 : w.heap.size < wr.heap.size := by omega
    have hlt3 : w.heap.size + 1 + 1 + 1 < wr.heap.size := by omega
    rcases (by omega : k = 0 ∨ k = 1 ∨ k = 2 ∨ k = 3) with rfl | rfl | rfl | rfl
    · obtain ⟨k0, k1, k2⟩ := HK.out
      go_wp2_with fail
      refine wp_mixC (fun wc => Below ((w.heap.size + 1 + 1 + 1 + 1)) wr wc) 9 [.q [0, 1, 2, 3, 4, 5, 6, 7, 8]] [.q [9], .f [10]] (by kernel_rfl) (by kernel_rfl) ((Below.refl _ _).drew) ?_
      intro Q' hQ'
      (rw [wpMixC]; simp only [pick, List.drop_succ_cons, List.drop_zero, List.head?_cons, Option.toList_some, List.cons_append, List.nil_append])
      (repeat (first | go_big_quiet_skip | (go_big_quiet_want; refine quiet_simple rfl ?_; go_big_quiet_op; go_big_quiet_on) | (go_big_quiet_want; refine quiet_cellB (ty := 3) rfl rfl (by kernel_rfl) (by assumption) (by first | omega | (simp; omega)) ?_; simp only [Act.put, List.setIfInBounds_toArray, List.set_cons_succ, List.set_cons_zero]; go_big_quiet_on)))
      (try refine wpQuiet_nil ?_)
      (rw [wpMixC])
      (rw [wpMix]; simp only [pick, List.drop_succ_cons, List.drop_zero, List.head?_cons, Option.toList_some, List.cons_append, List.nil_append])
      (repeat (first | (go_big_quiet_step (fail)) | (quiet_step (fail))))
      (try refine wpQuiet_nil ?_)
      (rw [wpMix]; simp only [pick, List.drop_succ_cons, List.drop_zero, List.head?_cons, Option.toList_some, List.cons_append, List.nil_append])
      (go_wp2_with ((first | fail)); rw [contF])
      (rw [wpMix])
      (refine hQ' _ _ ?_)
      go_wp2_with fail
      go_roundw
      case rel => exact ⟨1, vx, o1, o2, by omega, by go_num, hid (heap_setCell_same _ _ 0 _ _ _ HR.out), hid ⟨fun _ => rfl, fun h => absurd h (by omega), fun h => absurd h (by omega)⟩, by (repeat (with_reducible first | exact Below.refl _ _ | assumption | refine Below.drewN _ ?_ | refine Below.drew ?_ | refine Below_alloc ?_ _ | refine Below.alloc ?_ (by first | (simp; done) | (simp; omega) | omega) _ | refine Below.setCell ?_ (by first | (simp; done) | (simp; omega) | omega) _ | refine Below_call ?_ (by assumption) | refine Below.trans ?_ (by assumption)))⟩
      case measure => simp [intOf]
    · obtain ⟨k0, k1, k2⟩ := HK.out
      go_wp2_with fail
      refine wp_mixC (fun wc => Below ((w.heap.size + 1 + 1 + 1 + 1)) wr wc) 9 [.q [0, 1, 2, 3, 4, 5, 6, 7, 8]] [.q [9], .f [10]] (by kernel_rfl) (by kernel_rfl) ((Below.refl _ _).drew) ?_
      intro Q' hQ'
      (rw [wpMixC]; simp only [pick, List.drop_succ_cons, List.drop_zero, List.head?_cons, Option.toList_some, List.cons_append, List.nil_append])
      (repeat (first | go_big_quiet_skip | (go_big_quiet_want; refine quiet_simple rfl ?_; go_big_quiet_op; go_big_quiet_on) | (go_big_quiet_want; refine quiet_cellB (ty := 3) rfl rfl (by kernel_rfl) (by assumption) (by first | omega | (simp; omega)) ?_; simp only [Act.put, List.setIfInBounds_toArray, List.set_cons_succ, List.set_cons_zero]; go_big_quiet_on)))
      (try refine wpQuiet_nil ?_)
      (rw [wpMixC])
      (rw [wpMix]; simp only [pick, List.drop_succ_cons, List.drop_zero, List.head?_cons, Option.toList_some, List.cons_append, List.nil_append])
      (repeat (first | (go_big_quiet_step (fail)) | (quiet_step (fail))))
      (try refine wpQuiet_nil ?_)
      (rw [wpMix]; simp only [pick, List.drop_succ_cons, List.drop_zero, List.head?_cons, Option.toList_some, List.cons_append, List.nil_append])
      (go_wp2_with ((first | fail)); rw [contF])
      (rw [wpMix])
      (refine hQ' _ _ ?_)
      go_wp2_with fail
      go_roundw
      case rel => exact ⟨2, o0, vy, o2, by omega, by go_num, hid (heap_setCell_same _ _ 1 _ _ _ HR.out), hid ⟨fun _ => HO.out.1 (by omega), fun h => rfl, fun h => absurd h (by omega)⟩, by (repeat (with_reducible first | exact Below.refl _ _ | assumption | refine Below.drewN _ ?_ | refine Below.drew ?_ | refine Below_alloc ?_ _ | refine Below.alloc ?_ (by first | (simp; done) | (simp; omega) | omega) _ | refine Below.setCell ?_ (by first | (simp; done) | (simp; omega) | omega) _ | refine Below_call ?_ (by assumption) | refine Below.trans ?_ (by assumption)))⟩
      case measure => simp [intOf]
    · obtain ⟨k0, k1, k2⟩ := HK.out
      go_wp2_with fail
      refine wp_mixC (fun wc => Below ((w.heap.size + 1 + 1 + 1 + 1)) wr wc) 9 [.q [0, 1, 2, 3, 4, 5, 6, 7, 8]] [.q [9], .f [10]] (by kernel_rfl) (by kernel_rfl) ((Below.refl _ _).drew) ?_
      intro Q' hQ'
      (rw [wpMixC]; simp only [pick, List.drop_succ_cons, List.drop_zero, List.head?_cons, Option.toList_some, List.cons_append, List.nil_append])
      (repeat (first | go_big_quiet_skip | (go_big_quiet_want; refine quiet_simple rfl ?_; go_big_quiet_op; go_big_quiet_on) | (go_big_quiet_want; refine quiet_cellB (ty := 3) rfl rfl (by kernel_rfl) (by assumption) (by first | omega | (simp; omega)) ?_; simp only [Act.put, List.setIfInBounds_toArray, List.set_cons_succ, List.set_cons_zero]; go_big_quiet_on)))
      (try refine wpQuiet_nil ?_)
      (rw [wpMixC])
      (rw [wpMix]; simp only [pick, List.drop_succ_cons, List.drop_zero, List.head?_cons, Option.toList_some, List.cons_append, List.nil_append])
      (repeat (first | (go_big_quiet_step (fail)) | (quiet_step (fail))))
      (try refine wpQuiet_nil ?_)
      (rw [wpMix]; simp only [pick, List.drop_succ_cons, List.drop_zero, List.head?_cons, Option.toList_some, List.cons_append, List.nil_append])
      (go_wp2_with ((first | fail)); rw [contF])
      (rw [wpMix])
      (refine hQ' _ _ ?_)
      go_wp2_with fail
      go_roundw
      case rel => exact ⟨3, o0, o1, vz, by omega, by go_num, hid (heap_setCell_same _ _ 2 _ _ _ HR.out), hid ⟨fun _ => HO.out.1 (by omega), fun _ => HO.out.2.1 (by omega), fun _ => rfl⟩, by (repeat (with_reducible first | exact Below.refl _ _ | assumption | refine Below.drewN _ ?_ | refine Below.drew ?_ | refine Below_alloc ?_ _ | refine Below.alloc ?_ (by first | (simp; done) | (simp; omega) | omega) _ | refine Below.setCell ?_ (by first | (simp; done) | (simp; omega) | omega) _ | refine Below_call ?_ (by assumption) | refine Below.trans ?_ (by assumption)))⟩
      case measure => simp [intOf]
    · obtain rfl := HO.out.1 (by omega)
      obtain rfl := HO.out.2.1 (by omega)
      obtain rfl := HO.out.2.2 (by omega)
      have HRR := HR
      have hl1' : w.heap.size + 1 < wr.heap.size := hl1
      go_wp2_with (go_at_call 82; refine (HD2.out _).mono ?_; rintro _ w3 ⟨rfl, hb3⟩)
      have hz3 : wr.heap.size ≤ w3.heap.size := hb3.size
      have hb03 : Below w.heap.size w w3 := by (repeat (with_reducible first | exact Below.refl _ _ | assumption | refine Below.drewN _ ?_ | refine Below.drew ?_ | refine Below_alloc ?_ _ | refine Below.alloc ?_ (by first | (simp; done) | (simp; omega) | omega) _ | refine Below.setCell ?_ (by first | (simp; done) | (simp; omega) | omega) _ | refine Below_call ?_ (by assumption) | refine Below.trans ?_ (by assumption)))
      have RR := hid ((hb3.block (w.heap.size + 1 + 1 + 1) (by omega)).trans R3.out)
      obtain ⟨x0, x1, x2, fx0, fx1, fx2, hlx⟩ := three_cells ((hb3.block (w.heap.size + 1) (by omega)).trans R1.out)
      obtain ⟨y0, y1, y2, fy0, fy1, fy2, hly⟩ := three_cells ((hb3.block (w.heap.size + 1 + 1 + 1 + 1) (by omega)).trans HRR.out)
      have hl3 : w.heap.size + 1 + 1 + 1 < w3.heap.size := by omega
      clear c0 c1 c2 d0 d1 d2 e0 e1 e2 f0 f1 f2 ff0 ff1 ff2 fx0 fx1 fx2 fy0 fy1 fy2
      refine wp_mixC (KeepB [w.heap.size + 1, w.heap.size + 1 + 1 + 1 + 1] w3) 12 [.q [0, 1, 4, 5, 6, 7, 8], .f [2, 3, 9, 10, 11]] [.f [12]] (by kernel_rfl) (by kernel_rfl) ((KeepB.refl (by first | (simp; done) | (simp; omega))).drew) ?_
      intro Q' hQ'
      (rw [wpMixC]; simp only [pick, List.drop_succ_cons, List.drop_zero, List.head?_cons, Option.toList_some, List.cons_append, List.nil_append])
      (repeat (first | go_big_quiet_skip | (go_big_quiet_want; refine quiet_simple rfl ?_; go_big_quiet_op; go_big_quiet_on) | (go_big_quiet_want; refine quiet_agg3K (ty := 22) rfl rfl (by kernel_rfl) (by assumption) (by assumption) (by assumption) (by simp) ?_; simp only [Act.put, List.setIfInBounds_toArray, List.set_cons_succ, List.set_cons_zero]; go_big_quiet_on)))
      (try refine wpQuiet_nil ?_)
      (rw [wpMixC]; simp only [pick, List.drop_succ_cons, List.drop_zero, List.head?_cons, Option.toList_some, List.cons_append, List.nil_append])
      (rw [wpSteps]; go_wp2_with ((first | (go_at_call 82; ((with_reducible refine (HD3.out _).mono ?_); rintro _ w4 ⟨rfl, hb4⟩); have hz4 : w3.heap.size ≤ w4.heap.size := hb4.size) | (go_at_call 82; ((with_reducible refine (HD1.out _).mono ?_); rintro _ w6 ⟨rfl, hb6⟩); have hz6 : w5.heap.size ≤ w6.heap.size := hb6.size))); rw [contF]; refine ⟨?_, ?_⟩; (next => (repeat (with_reducible first | assumption | exact KeepB.refl (by first | (simp; done) | (simp; omega)) | refine KeepB.drew ?_ | refine KeepB.alloc ?_ _ | refine KeepB.setCell ?_ (by first | (simp; done) | (simp; omega)) | refine KeepB.below ?_ (by assumption)))))
      (rw [wpSteps]; go_wp2_with ((go_at_call 87; refine (hRI.out _ (by omega)).mono ?_; rintro _ w5 ⟨r5, rfl, hr5, hb5⟩; obtain ⟨ro5, rn5, rc5, so5, sn5, sc5, rfl, _, _⟩ := hr5.shape; have HR5 := hid hr5; clear hr5; have hz5 : w4.heap.size ≤ w5.heap.size := hb5.size)); rw [contF]; refine ⟨?_, ?_⟩; (next => (repeat (with_reducible first | assumption | exact KeepB.refl (by first | (simp; done) | (simp; omega)) | refine KeepB.drew ?_ | refine KeepB.alloc ?_ _ | refine KeepB.setCell ?_ (by first | (simp; done) | (simp; omega)) | refine KeepB.below ?_ (by assumption)))))
      (rw [wpSteps]; go_wp2_with ((first | (go_at_call 82; ((with_reducible refine (HD3.out _).mono ?_); rintro _ w4 ⟨rfl, hb4⟩); have hz4 : w3.heap.size ≤ w4.heap.size := hb4.size) | (go_at_call 82; ((with_reducible refine (HD1.out _).mono ?_); rintro _ w6 ⟨rfl, hb6⟩); have hz6 : w5.heap.size ≤ w6.heap.size := hb6.size))); rw [contF]; refine ⟨?_, ?_⟩; (next => (repeat (with_reducible first | assumption | exact KeepB.refl (by first | (simp; done) | (simp; omega)) | refine KeepB.drew ?_ | refine KeepB.alloc ?_ _ | refine KeepB.setCell ?_ (by first | (simp; done) | (simp; omega)) | refine KeepB.below ?_ (by assumption)))))
      (rw [wpSteps]; go_wp2_with ((go_at_call 88; refine (hRO.out _ (by omega)).mono ?_; rintro _ w7 ⟨r7, rfl, hr7, hb7⟩; obtain ⟨ro7, rn7, rc7, so7, sn7, sc7, rfl, _, _⟩ := hr7.shape; have HR7 := hid hr7; clear hr7; have hz7 : w6.heap.size ≤ w7.heap.size := hb7.size)); rw [contF]; refine ⟨?_, ?_⟩; (next => (repeat (with_reducible first | assumption | exact KeepB.refl (by first | (simp; done) | (simp; omega)) | refine KeepB.drew ?_ | refine KeepB.alloc ?_ _ | refine KeepB.setCell ?_ (by first | (simp; done) | (simp; omega)) | refine KeepB.below ?_ (by assumption)))))
      (rw [wpSteps]; go_wp2_with ((go_at_call 86; refine (hRS.out _ _ _ (by omega) ((HR5.out.mono hb6 (fun _ _ h => h)).mono hb7 (fun _ _ h => h)) HR7.out).mono ?_; rintro _ w8 ⟨r8, rfl, hr8, hb8⟩; obtain ⟨ro8, rn8, rc8, so8, sn8, sc8, rfl, _, _⟩ := hr8.shape; have HR8 := hid hr8; clear hr8; have hb48 : Below w3.heap.size w3 w8 := (by (repeat (with_reducible first | exact Below.refl _ _ | assumption | refine Below.drewN _ ?_ | refine Below.drew ?_ | refine Below_alloc ?_ _ | refine Below.alloc ?_ (by first | (simp; done) | (simp; omega) | omega) _ | refine Below.setCell ?_ (by first | (simp; done) | (simp; omega) | omega) _ | refine Below_call ?_ (by assumption) | refine Below.trans ?_ (by assumption)))); obtain ⟨c0, c1, c2, c3, fc0, fc1, fc2, fc3, hlc⟩ := four_cells ((hb48.block (w.heap.size + 1 + 1 + 1) (by omega)).trans RR.out))); rw [contF]; refine ⟨?_, ?_⟩; (next => (repeat (with_reducible first | assumption | exact KeepB.refl (by first | (simp; done) | (simp; omega)) | refine KeepB.drew ?_ | refine KeepB.alloc ?_ _ | refine KeepB.setCell ?_ (by first | (simp; done) | (simp; omega)) | refine KeepB.below ?_ (by assumption)))))
      (rw [wpSteps])
      (rw [wpMixC])
      (rw [wpMix]; simp only [pick, List.drop_succ_cons, List.drop_zero, List.head?_cons, Option.toList_some, List.cons_append, List.nil_append])
      (go_wp2_with ((first | fail)); rw [contF])
      (rw [wpMix])
      (refine hQ' _ _ ?_)
      go_wp2_with fail
      ((try simp only [Exit.inBlock, Exit.then]); refine bodyPost_ret (v := .agg #[.int .i64 (sg RN), .slice ro8 rn8 rc8, .int .i64 (sg RD), .slice so8 sn8 sc8]) ?_ rfl ?_; (next => simp [results, Try.results25, go_sem, hlc, c0, c1, c2, c3]))
      exact ⟨_, rfl, HR8.out.set4 (fun b h => ⟨h, trivial⟩) _ _ _ _, by (repeat (with_reducible first | exact Below.refl _ _ | assumption | refine Below.drewN _ ?_ | refine Below.drew ?_ | refine Below_alloc ?_ _ | refine Below.alloc ?_ (by first | (simp; done) | (simp; omega) | omega) _ | refine Below.setCell ?_ (by first | (simp; done) | (simp; omega) | omega) _ | refine Below_call ?_ (by assumption) | refine Below.trans ?_ (by assumption)))⟩
end Go.Proofs.Ytlmdmpjfehpjeaa

