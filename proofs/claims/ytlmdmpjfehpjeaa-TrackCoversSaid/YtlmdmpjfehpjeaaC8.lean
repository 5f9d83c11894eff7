/- Texts of this claim, together. -/
import Derived.Test.YtlmdmpjfehpjeaaC7
import Derived.Test.YtlmdmpjfehpjeaaC4
import Derived.Test.YtlmdmpjfehpjeaaC5
import Derived.Test.YtlmdmpjfehpjeaaC6

set_option linter.unusedVariables false
set_option linter.unusedSimpArgs false
namespace Go.Proofs.Ytlmdmpjfehpjeaa
open Go.RowKit
structure THit.Ok (h : THit) : Prop where
 p : h.p.inS 1000 = true
 t : -10000 ≤ h.t ∧ h.t ≤ 10000
 w : 0 ≤ h.w ∧ h.w ≤ 100
theorem hit_ok {h : THit} (e : h.err = 0) : h.Ok := by
 unfold THit.err at e
 rw [firstNZ_cons, firstNZ_cons, firstNZ_cons] at e
 obtain ⟨h1, h2, h3, _⟩ := e
 unfold tmE at h2
 rw [unl_zero (by decide)] at h2 h3
 exact ⟨plE_ok h1, inB_true.1 h2, inB_true.1 h3⟩
set_option maxRecDepth 100000 in
set_option maxHeartbeats 4000000 in
theorem track_ends (m : TMod) (h : THit) (w : World) (ho : m.Ok) (hh : h.Ok) :
  Calls Try.prog 128 #[m.v, h.v] w fun e w' => e = .returned (.tuple #[.agg #[.int .i64 h.p.x, .int .i64 h.p.y, .int .i64 h.p.z, .int .i64 (h.t + m.ea)], .agg #[.int .i64 h.p.x, .int .i64 h.p.y, .int .i64 h.p.z, .int .i64 (h.t - m.la - 1)]]) ∧ Below w.heap.size w w' := by
 have h1 := hh.t
 have h2 := ho.ea
 have h3 := ho.la
 obtain ⟨TE, hTE⟩ : ∃ TE, h.t + m.ea = TE := ⟨_, rfl⟩
 obtain ⟨TL, hTL⟩ : ∃ TL, h.t - m.la = TL := ⟨_, rfl⟩
 obtain ⟨TM, hTM⟩ : ∃ TM, TL - 1 = TM := ⟨_, rfl⟩
 have k1 : IntKind.i64.wrap (h.t + m.ea) = TE := by rw [hTE]; exact IntWalk.i64_in _ (by omega)
 have k2 : IntKind.i64.wrap (h.t - m.la) = TL := by rw [hTL]; exact IntWalk.i64_in _ (by omega)
 have k3 : IntKind.i64.wrap (TL - 1) = TM := by rw [hTM]; exact IntWalk.i64_in _ (by omega)
 rw [hTE, hTL, hTM]
 clear hTE hTL hTM ho hh h1 h2 h3
 obtain ⟨px, py, pz, tm, tk, lo, hi, li, ea, la, no, mi⟩ := m
 obtain ⟨⟨x0, x1, x2⟩, t, u⟩ := h
 unfold TMod.v THit.v
 simp only at *
 obtain ⟨W, hW⟩ : ∃ W, W = (((w.alloc (.cells #[.int .i64 px, .int .i64 py, .int .i64 pz, .int .i64 tm, .int .i64 tk, .int .i64 lo, .int .i64 hi, .int .i64 li, .int .i64 ea, .int .i64 la, .int .i64 no, .int .i64 mi] 134)).alloc (.cells #[.int .i64 x0, .int .i64 x1, .int .i64 x2, .int .i64 t, .int .i64 u] 92)).alloc (.cells #[.int .i64 0, .int .i64 0, .int .i64 0, .int .i64 0] 28)).alloc (.cells #[.int .i64 0, .int .i64 0, .int .i64 0, .int .i64 0] 28) := ⟨_, rfl⟩
 have hbW : Below w.heap.size w W := by rw [hW]; exact BelowA
 obtain ⟨hz0, q0, q1, q2, q3⟩ := al4 w _ _ _ _ _ _ _ _ W hW
 obtain ⟨m0, m1, m2, m3, m4, m5, m6, m7, m8, m9, m10, m11, ml⟩ := tw_cells (q0)
 obtain ⟨y0, y1, y2, y3, y4, hly⟩ := five_row q1
 obtain ⟨g0, g1, g2, g3, hlg⟩ := four_row q2
 obtain ⟨e0, e1, e2, e3, hle⟩ := four_row q3
 obtain ⟨fg0, fg1, fg2, fg3, _, _, _, _, _, _, _, _⟩ := tw_frozen q2
 obtain ⟨fe0, fe1, fe2, fe3, _, _, _, _, _, _, _, _⟩ := tw_frozen q3
 clear q0 q1 q2 q3
 go_enter Try.func128, Try.ntmps128
 go_wp2_with fail
 rw [← hW]
 clear hW
 refine wp_mixC (fun wc => Below ((w.heap.size + 1 + 1)) W wc) 20 [.q [0, 1, 2, 3, 4, 5, 6, 7, 8, 9, 10, 11, 12, 13, 14, 15, 16, 17, 18], .f [19]] [.f [20]] (by kernel_rfl) (by kernel_rfl) ((Below.refl _ _).drew) ?_
 intro Q' hQ'
 (rw [wpMixC]; simp only [pick, List.drop_succ_cons, List.drop_zero, List.head?_cons, Option.toList_some, List.cons_append, List.nil_append])
 (repeat (first | go_big_quiet_skip | (go_big_quiet_want; refine quiet_simple rfl ?_; go_big_quiet_op; go_big_quiet_on) | (go_big_quiet_want; refine quiet_cellB (ty := 3) rfl rfl (by kernel_rfl) (by assumption) (by first | omega | (simp; omega)) ?_; simp only [Act.put, List.setIfInBounds_toArray, List.set_cons_succ, List.set_cons_zero]; go_big_quiet_on) | (go_big_quiet_want; refine quiet_agg3B (ty := 22) rfl rfl (by kernel_rfl) (by assumption) (by assumption) (by assumption) (by first | omega | (simp; omega)) ?_; simp only [Act.put, List.setIfInBounds_toArray, List.set_cons_succ, List.set_cons_zero]; go_big_quiet_on)))
 (try refine wpQuiet_nil ?_)
 (rw [wpMixC]; simp only [pick, List.drop_succ_cons, List.drop_zero, List.head?_cons, Option.toList_some, List.cons_append, List.nil_append])
 (rw [wpSteps]; go_wp2_with (fail); rw [contF]; refine ⟨?_, ?_⟩; (next => exact BelowA))
 (rw [wpSteps])
 (rw [wpMixC])
 (rw [wpMix]; simp only [pick, List.drop_succ_cons, List.drop_zero, List.head?_cons, Option.toList_some, List.cons_append, List.nil_append])
 (go_wp2_with ((first | fail)); rw [contF])
 (rw [wpMix])
 (refine hQ' _ _ ?_)
 go_wp2_with fail
 ((try simp only [Exit.inBlock, Exit.then]); refine bodyPost_ret (v := .tuple #[.agg #[.int .i64 x0, .int .i64 x1, .int .i64 x2, .int .i64 TE], .agg #[.int .i64 x0, .int .i64 x1, .int .i64 x2, .int .i64 TM]]) ?_ rfl ?_; (next => simp [results, Try.results128, go_sem, hlg, hle, g0, g1, g2, g3, e0, e1, e2, e3]); refine ⟨?_, ?_⟩; (next => rfl); (next => exact BelowA))
set_option maxRecDepth 100000 in
set_option maxHeartbeats 4000000 in
theorem track_penalty (m : TMod) (s : V3) (h : THit) (w : World) (ho : m.Ok) (hs : s.inS 20 = true) (hpm : m.permit s) (hh : h.Ok) :
  Calls Try.prog 90 #[m.v, s.v, h.v] w fun e w' => e = .returned (.int .i64 (m.pen s h)) ∧ Below w.heap.size w w' := by
 have b1 := hh.t
 have b2 := ho.ea
 have b3 := ho.la
 have HEN : Hid (∀ W, Calls Try.prog 128 #[m.v, h.v] W fun e w' => e = .returned (.tuple #[.agg #[.int .i64 h.p.x, .int .i64 h.p.y, .int .i64 h.p.z, .int .i64 (h.t + m.ea)], .agg #[.int .i64 h.p.x, .int .i64 h.p.y, .int .i64 h.p.z, .int .i64 (h.t - m.la - 1)]]) ∧ Below W.heap.size W w') := hid (fun W => track_ends m h W ho hh)
 have HR1 : Hid (∀ W, Calls Try.prog 75 #[m.v, s.v, .agg #[.int .i64 h.p.x, .int .i64 h.p.y, .int .i64 h.p.z, .int .i64 (h.t + m.ea)]] W fun e w' => e = .returned (.bool (m.reached s h.p (h.t + m.ea))) ∧ Below W.heap.size W w') := hid (fun W => track_reached m s h.p _ W ho hs hpm hh.p ⟨by omega, by omega⟩)
 have HR2 : Hid (∀ W, Calls Try.prog 75 #[m.v, s.v, .agg #[.int .i64 h.p.x, .int .i64 h.p.y, .int .i64 h.p.z, .int .i64 (h.t - m.la - 1)]] W fun e w' => e = .returned (.bool (m.reached s h.p (h.t - m.la - 1))) ∧ Below W.heap.size W w') := hid (fun W => track_reached m s h.p _ W ho hs hpm hh.p ⟨by omega, by omega⟩)
 have k1 : IntKind.i64.wrap (h.w * m.mi) = h.w * m.mi := IntWalk.i64_in _ (by have := mul_rg (x := h.w) (y := m.mi) (A := 100) (B := 100) (C := 10000) (by have := hh.w; omega) (by have := ho.mi; omega) (by decide); omega)
 have k2 : IntKind.i64.wrap (h.w * m.no) = h.w * m.no := IntWalk.i64_in _ (by have := mul_rg (x := h.w) (y := m.no) (A := 100) (B := 100) (C := 10000) (by have := hh.w; omega) (by have := ho.no; omega) (by decide); omega)
 have HV : Hid (m.pen s h = if m.reached s h.p (h.t + m.ea) = false then h.w * m.mi else if m.reached s h.p (h.t - m.la - 1) = true then h.w * m.no else 0) := hid rfl
 obtain ⟨A, hA⟩ : ∃ A, h.w * m.mi = A := ⟨_, rfl⟩
 obtain ⟨B, hB⟩ : ∃ B, h.w * m.no = B := ⟨_, rfl⟩
 have k1' : IntKind.i64.wrap (h.w * m.mi) = A := by rw [k1]; exact hA
 have k2' : IntKind.i64.wrap (h.w * m.no) = B := by rw [k2]; exact hB
 rw [hA, hB] at HV
 have HA := hid (mul_rg (x := h.w) (y := m.mi) (A := 100) (B := 100) (C := 10000) (by have := hh.w; omega) (by have := ho.mi; omega) (by decide))
 have HB := hid (mul_rg (x := h.w) (y := m.no) (A := 100) (B := 100) (C := 10000) (by have := hh.w; omega) (by have := ho.no; omega) (by decide))
 rw [hA] at HA
 rw [hB] at HB
 have hA2 := HA.out
 have hB2 := HB.out
 clear k1 k2
 generalize m.pen s h = E at HV ⊢
 generalize m.reached s h.p (h.t + m.ea) = R1 at HR1 HV
 generalize m.reached s h.p (h.t - m.la - 1) = R2 at HR2 HV
 generalize h.t + m.ea = TE at HEN HR1
 generalize h.t - m.la - 1 = TL at HEN HR2
 clear b1 b2 b3 ho hs hpm hh
 obtain ⟨px, py, pz, tm, tk, lo, hi, li, ea, la, no, mi⟩ := m
 obtain ⟨sx, sy, sz⟩ := s
 obtain ⟨⟨x0, x1, x2⟩, t, u⟩ := h
 unfold TMod.v THit.v V3.v at *
 simp only at *
 obtain ⟨W0, hW0⟩ : ∃ W0, W0 = ((w.alloc (.cells #[.int .i64 px, .int .i64 py, .int .i64 pz, .int .i64 tm, .int .i64 tk, .int .i64 lo, .int .i64 hi, .int .i64 li, .int .i64 ea, .int .i64 la, .int .i64 no, .int .i64 mi] 134)).alloc (.cells #[.int .i64 sx, .int .i64 sy, .int .i64 sz] 135)).alloc (.cells #[.int .i64 x0, .int .i64 x1, .int .i64 x2, .int .i64 t, .int .i64 u] 92) := ⟨_, rfl⟩
 have hbW0 : Below w.heap.size w W0 := by rw [hW0]; exact BelowA
 obtain ⟨q0, q1, q2⟩ := al3 w _ _ _ _ _ _ W0 hW0
 have Q0 := hid q0
 have Q1 := hid q1
 have Q2 := hid q2
 have l0 := (Array.getElem?_eq_some_iff.1 q0).1
 have l1 := (Array.getElem?_eq_some_iff.1 q1).1
 have l2 := (Array.getElem?_eq_some_iff.1 q2).1
 clear q0 q1 q2
 cases R1
 all_goals cases R2
 all_goals
  go_enter Try.func90, Try.ntmps90
  go_wp2_with (first | (go_at_call 128; rw [← hW0]; refine (HEN.out _).mono ?_; rintro _ w1 ⟨rfl, hb1⟩; have hz1 := hb1.size; obtain ⟨m0, m1, m2, m3, m4, m5, m6, m7, m8, m9, m10, m11, ml⟩ := tw_cells ((hb1.block w.heap.size l0).trans Q0.out); have ml' : w.heap.size < w1.heap.size + 1 := Nat.lt_succ_of_lt ml; obtain ⟨s0, s1, s2, fs0, fs1, fs2, hls⟩ := three_cells ((hb1.block (w.heap.size + 1) l1).trans Q1.out); have hls' : w.heap.size + 1 < w1.heap.size + 1 := Nat.lt_succ_of_lt hls) | (go_at_call 75; obtain ⟨WB, hWB⟩ : ∃ WB, WB = (w1.alloc (.cells #[.int .i64 x0, .int .i64 x1, .int .i64 x2, .int .i64 TE] 28)).alloc (.cells #[.int .i64 x0, .int .i64 x1, .int .i64 x2, .int .i64 TL] 28) := ⟨_, rfl⟩; rw [← hWB]; have hbWB : Below w1.heap.size w1 WB := (by rw [hWB]; exact BelowA); have hbB : Below W0.heap.size W0 WB := hb1.trans (hbWB.mono hz1); obtain ⟨r3, r4, hr3, hr4⟩ := al2 w1 _ _ _ _ WB hWB; have R4 := hid r4; clear hWB r3 r4; refine (HR1.out _).mono ?_; rintro _ w2 ⟨rfl, hb2⟩; clear m0 m1 m2 m3 m4 m5 m6 m7 m8 m9 m10 m11 ml s0 s1 s2 fs0 fs1 fs2 hls ml' hls'; have hb02 : Below W0.heap.size W0 w2 := hbB.trans (hb2.mono hbB.size); have hb0 : Below w.heap.size w w2 := hbW0.trans (hb02.mono (by have := hbW0.size; omega)); obtain ⟨m0, m1, m2, m3, m4, m5, m6, m7, m8, m9, m10, m11, ml⟩ := tw_cells ((hb02.block w.heap.size l0).trans Q0.out); obtain ⟨s0, s1, s2, fs0, fs1, fs2, hls⟩ := three_cells ((hb02.block (w.heap.size + 1) l1).trans Q1.out); obtain ⟨y0, y1, y2, y3, y4, hly⟩ := five_row ((hb02.block (w.heap.size + 1 + 1) l2).trans Q2.out); obtain ⟨z0, z1, z2, z3, hlz⟩ := four_row ((hb2.block (w1.heap.size + 1) hr4).trans R4.out)) | (go_at_call 75; refine (HR2.out _).mono ?_; rintro _ w3 ⟨rfl, hb3⟩; clear m0 m1 m2 m3 m4 m5 m6 m7 m8 m9 m10 m11 ml s0 s1 s2 fs0 fs1 fs2 hls z0 z1 z2 z3 hlz y0 y1 y2 y3 y4 hly; have hb03 : Below W0.heap.size W0 w3 := hb02.trans (hb3.mono hb02.size); have hb0' : Below w.heap.size w w3 := hbW0.trans (hb03.mono (by have := hbW0.size; omega)); obtain ⟨m0, m1, m2, m3, m4, m5, m6, m7, m8, m9, m10, m11, ml⟩ := tw_cells ((hb03.block w.heap.size l0).trans Q0.out); obtain ⟨s0, s1, s2, fs0, fs1, fs2, hls⟩ := three_cells ((hb03.block (w.heap.size + 1) l1).trans Q1.out); obtain ⟨y0, y1, y2, y3, y4, hly⟩ := five_row ((hb03.block (w.heap.size + 1 + 1) l2).trans Q2.out)))
  go_ret
  exact ⟨ret_int (by rw [HV.out]; simp), by exact BelowA⟩
end Go.Proofs.Ytlmdmpjfehpjeaa
set_option linter.unusedVariables false
set_option linter.unusedSimpArgs false
namespace Go.Proofs.Ytlmdmpjfehpjeaa
open Go.RowKit
theorem score_take (m : TMod) (s : V3) {l : List THit} {k : Nat} (h : k < l.length) : m.score s (l.take (k + 1)) = m.score s (l.take k) + m.pen s (hitAt l k) := by
 rw [hitAt_take h]; unfold TMod.score TMod.pens; rw [List.map_append, List.foldl_append]; rfl
theorem pen_rg {m : TMod} {s : V3} {h : THit} (ho : m.Ok) (hh : h.Ok) : -10000 ≤ m.pen s h ∧ m.pen s h ≤ 10000 := by
 have h1 := mul_rg (x := h.w) (y := m.mi) (A := 100) (B := 100) (C := 10000) (by have := hh.w; omega) (by have := ho.mi; omega) (by decide)
 have h2 := mul_rg (x := h.w) (y := m.no) (A := 100) (B := 100) (C := 10000) (by have := hh.w; omega) (by have := ho.no; omega) (by decide)
 unfold TMod.pen
 split
 ·exact h1
 ·split
  ·exact h2
  ·omega
theorem hitsE_ok {l : List THit} (h : hitsE l = 0) : l.length ≤ 12 ∧ ∀ i, i < l.length → (hitAt l i).Ok := by
 unfold hitsE at h
 split at h
 ·cases h
 ·next hb => exact ⟨by omega, fun i hi => hit_ok (scan_zero h i hi)⟩
set_option maxRecDepth 100000 in
set_option maxHeartbeats 4000000 in
theorem track_score (m : TMod) (s : V3) (l : List THit) (v : Value) (w : World) (h : HitsAt w v l) (hl : l.length ≤ 12) (hok : ∀ i, i < l.length → (hitAt l i).Ok) (ho : m.Ok) (hs : s.inS 20 = true) (hpm : m.permit s) :
  Calls Try.prog 91 #[m.v, s.v, v] w fun e w' => e = .returned (.int .i64 (m.score s l)) ∧ Below w.heap.size w w' := by
 obtain ⟨ao, cap, rfl, h1, h2, h3⟩ := h.opn
 unfold maxLen at h2
 have HPE : Hid (∀ i, i < l.length → ∀ W, Calls Try.prog 90 #[m.v, s.v, (hitAt l i).v] W fun e w' => e = .returned (.int .i64 (m.pen s (hitAt l i))) ∧ Below W.heap.size W w') := hid (fun i hi W => track_penalty m s _ W ho hs hpm (hok i hi))
 have HRG : Hid (∀ i, i < l.length → -10000 ≤ m.pen s (hitAt l i) ∧ m.pen s (hitAt l i) ≤ 10000) := hid (fun i hi => pen_rg ho (hok i hi))
 have HST : Hid (∀ k, k < l.length → m.score s (l.take (k + 1)) = m.score s (l.take k) + m.pen s (hitAt l k)) := hid (fun k hk => score_take m s hk)
 have HS0 : Hid (m.score s (l.take 0) = 0) := hid (by simp [TMod.score, TMod.pens])
 have HSN : Hid (m.score s (l.take l.length) = m.score s l) := hid (by rw [List.take_length])
 generalize hSC : m.score s l = SC at HSN ⊢
 clear hSC
 generalize hFK : (fun k => m.score s (l.take k)) = FK
 have HFK : Hid (∀ k, m.score s (l.take k) = FK k) := hid (fun k => by rw [← hFK])
 simp only [HFK.out] at HST HS0 HSN
 generalize hPK : (fun k => m.pen s (hitAt l k)) = PK
 have HPK : Hid (∀ k, m.pen s (hitAt l k) = PK k) := hid (fun k => by rw [← hPK])
 simp only [HPK.out] at HST HRG HPE
 clear hFK HFK hPK HPK h hok ho hs hpm
 obtain ⟨px, py, pz, tm, tk, lo, hi, li, ea, la, no, mi⟩ := m
 obtain ⟨sx, sy, sz⟩ := s
 unfold TMod.v V3.v at *
 simp only at *
 obtain ⟨W0, hW0⟩ : ∃ W0, W0 = (w.alloc (.cells #[.int .i64 px, .int .i64 py, .int .i64 pz, .int .i64 tm, .int .i64 tk, .int .i64 lo, .int .i64 hi, .int .i64 li, .int .i64 ea, .int .i64 la, .int .i64 no, .int .i64 mi] 134)).alloc (.cells #[.int .i64 sx, .int .i64 sy, .int .i64 sz] 135) := ⟨_, rfl⟩
 have hbW0 : Below w.heap.size w W0 := by rw [hW0]; exact BelowA
 obtain ⟨q0, q1, l0, l1⟩ := al2 w _ _ _ _ W0 hW0
 have Q0 := hid q0
 have Q1 := hid q1
 have hzW0 := hbW0.size
 clear q0 q1
 go_enter Try.func91, Try.ntmps91
 go_wp2_with fail
 rw [← hW0]
 clear hW0
 go_loopw [7, 12] (fun n i wr => ∃ (k : Nat) (N : Int), k ≤ l.length ∧ i = .int .i64 k ∧ n = .int .i64 N ∧ Hid (N = FK k) ∧ -10000 * (k : Int) ≤ N ∧ N ≤ 10000 * (k : Int) ∧ Below W0.heap.size W0 wr) (fun _ i _ => l.length - (intOf i).toNat)
 case atStart => exact ⟨0, 0, Nat.zero_le _, rfl, rfl, hid HS0.out.symm, by omega, by omega, Below.refl _ _⟩
 case round =>
  obtain ⟨k, N, hk, rfl, rfl, HN, hN1, hN2, hbel⟩ := hrel
  have hzw := hbel.size
  by_cases hlt : k < l.length
  ·obtain ⟨b, off, rfl, hb, hc⟩ := h3 k hlt
   obtain ⟨c0, c1, c2, c3, c4⟩ := hc k hlt
   have hbx : Below w.heap.size w wr := hbW0.trans (hbel.mono hzW0)
   have hcb : ∀ o, wr.cell? ⟨b, o, none⟩ = w.cell? ⟨b, o, none⟩ := fun o => hbx.cell (p := ⟨b, o, none⟩) hb
   rw [← hcb] at c0 c1 c2 c3 c4
   have hbw : b < wr.heap.size := by omega
   have HP := hid (HPE.out k hlt)
   have hR := HRG.out k hlt
   have HT := hid (HST.out k hlt)
   generalize hX : hitAt l k = x at *
   generalize PK k = PN at hR HT HP
   obtain ⟨⟨x0, x1, x2⟩, t, u⟩ := x
   simp only [THit.v] at *
   clear hX hc h3 hcb HPE HRG
   obtain ⟨W1, hW1⟩ : ∃ W1, W1 = wr.alloc (.cells #[.int .i64 x0, .int .i64 x1, .int .i64 x2, .int .i64 t, .int .i64 u] 92) := ⟨_, rfl⟩
   have HW1 := hid hW1
   have hB1 : Below wr.heap.size wr W1 := by rw [hW1]; exact BelowA
   have l0r : w.heap.size < wr.heap.size := by omega
   have l1r : w.heap.size + 1 < wr.heap.size := by omega
   obtain ⟨m0, m1, m2, m3, m4, m5, m6, m7, m8, m9, m10, m11, ml⟩ := tw_cells ((hbel.block w.heap.size l0).trans Q0.out)
   obtain ⟨s0, s1, s2, fs0, fs1, fs2, hls⟩ := three_cells ((hbel.block (w.heap.size + 1) l1).trans Q1.out)
   clear hW1 fs0 fs1 fs2
   go_wp2_with (go_at_call 90; rw [← HW1.out]; refine (HP.out _).mono ?_; rintro _ w2 ⟨rfl, hb2⟩)
   go_roundw
   case rel => exact ⟨k + 1, N + PN, by omega, by go_num, by go_num, hid (by rw [HT.out, HN.out]), by push_cast; omega, by push_cast; omega, (hbel.trans (hB1.mono hzw)).trans (hb2.mono (Nat.le_trans hzw hB1.size))⟩
   case measure => simp [intOf]; omega
  ·have hkl : k = l.length := by omega
   subst hkl
   have hbx : Below w.heap.size w wr := hbW0.trans (hbel.mono hzW0)
   go_wp2_with fail
   go_ret
   exact ⟨ret_int (by rw [HN.out]; exact HSN.out), hbx⟩
set_option maxRecDepth 100000 in
set_option maxHeartbeats 4000000 in
theorem track_ScoreOf (m : TMod) (s : V3) (l : List THit) (v : Value) (w : World) (h : HitsAt w v l) :
  Calls Try.prog 32 #[m.v, s.v, v] w fun e w' => (firstNZ [m.both s, hitsE l] = 0 → e = .returned (.tuple #[.int .i64 (m.score s l), .int .i64 0])) ∧ (firstNZ [m.both s, hitsE l] ≠ 0 → e = .returned (.tuple #[.int .i64 0, .int .i64 (firstNZ [m.both s, hitsE l])])) ∧ Below w.heap.size w w' := by
 have HO : Hid (∀ W, Calls Try.prog 73 #[m.v, s.v] W fun e w' => e = .returned (.tuple #[m.v, s.v, .int .i64 (m.both s)]) ∧ Below W.heap.size W w') := hid (fun W => track_openStep m s W)
 have HM : Hid (∀ W, Below w.heap.size w W → Calls Try.prog 89 #[v] W fun e w' => e = .returned (.int .i64 (hitsE l)) ∧ Below W.heap.size W w') := hid (fun W hb => track_hitsErr l v W (h.below hb))
 have HFI : Hid (∀ v w, IntsAt w v [m.both s, hitsE l] → Calls Try.prog 69 #[v] w fun e w' => e = .returned (.int .i64 (firstNZ [m.both s, hitsE l])) ∧ w = w') := hid (fun v w h => track_first _ v w h)
 have HR : Hid (firstNZ [m.both s, hitsE l] = 0 → ∀ W, Below w.heap.size w W → Calls Try.prog 91 #[m.v, s.v, v] W fun e w' => e = .returned (.int .i64 (m.score s l)) ∧ Below W.heap.size W w') := hid (fun h0 W hb => by
  obtain ⟨h1, h2⟩ := two_zero h0
  obtain ⟨o1, o2, o3, o4⟩ := both_ok h1
  obtain ⟨g1, g2⟩ := hitsE_ok h2
  exact track_score m s l v W (h.below hb) g1 g2 o1 o2 o3)
 obtain ⟨ao, cap, rfl, _, _, _⟩ := h.opn
 clear h
 generalize firstNZ [m.both s, hitsE l] = E1 at HFI HR ⊢
 generalize m.both s = EB at HO HFI
 generalize hitsE l = EM at HM HFI
 generalize m.score s l = R at HR ⊢
 obtain ⟨px, py, pz, tm, tk, lo, hi, li, ea, la, no, mi⟩ := m
 obtain ⟨sx, sy, sz⟩ := s
 unfold TMod.v V3.v at *
 simp only at *
 obtain ⟨W0, hW0⟩ : ∃ W0, W0 = (w.alloc (.cells #[.int .i64 px, .int .i64 py, .int .i64 pz, .int .i64 tm, .int .i64 tk, .int .i64 lo, .int .i64 hi, .int .i64 li, .int .i64 ea, .int .i64 la, .int .i64 no, .int .i64 mi] 26)).alloc (.cells #[.int .i64 sx, .int .i64 sy, .int .i64 sz] 22) := ⟨_, rfl⟩
 have hbW0 : Below w.heap.size w W0 := by rw [hW0]; exact BelowA
 have hzW0 := hbW0.size
 have hcase : E1 = 0 ∨ E1 ≠ 0 := by omega
 rcases hcase with h1 | h1
 ·subst h1
  have HR2 := hid (HR.out rfl)
  go_enter Try.func32, Try.ntmps32
  go_wp2_with (first | (go_at_call 73; rw [← hW0]; refine (HO.out _).mono ?_; rintro _ w1 ⟨rfl, hb1⟩; have hz1 := hb1.size) | (go_at_call 89; obtain ⟨WB, hWB⟩ : ∃ WB, WB = (w1.alloc (.cells #[.int .i64 px, .int .i64 py, .int .i64 pz, .int .i64 tm, .int .i64 tk, .int .i64 lo, .int .i64 hi, .int .i64 li, .int .i64 ea, .int .i64 la, .int .i64 no, .int .i64 mi] 134)).alloc (.cells #[.int .i64 sx, .int .i64 sy, .int .i64 sz] 135) := ⟨_, rfl⟩; rw [← hWB]; have hbWB : Below w1.heap.size w1 WB := (by rw [hWB]; exact BelowA); obtain ⟨r0, r1, hr0, hr1⟩ := al2 w1 _ _ _ _ WB hWB; clear hWB; have hbWw : Below w.heap.size w WB := (hbW0.trans (hb1.mono hzW0)).trans (hbWB.mono (Nat.le_trans hzW0 hz1)); refine (HM.out _ hbWw).mono ?_; rintro _ w2 ⟨rfl, hb2⟩; have hbf : Below w.heap.size w w2 := hbWw.trans (hb2.mono hbWw.size); have R0 := hid ((hb2.block w1.heap.size hr0).trans r0); have R1 := hid ((hb2.block (w1.heap.size + 1) hr1).trans r1); obtain ⟨m0, m1, m2, m3, m4, m5, m6, m7, m8, m9, m10, m11, ml⟩ := tw_cells (R0.out); obtain ⟨s0, s1, s2, fs0, fs1, fs2, hls⟩ := three_cells R1.out; clear fs0 fs1 fs2 r0 r1) | (go_at_call 69; refine (HFI.out _ _ (intsAt_new _ _ _ _ _ rfl (by simp) (by first | rfl | simp))).mono ?_; rintro _ _ ⟨rfl, rfl⟩) | (go_at_call 91; refine (HR2.out _ (by exact BelowA)).mono ?_; rintro _ w3 ⟨rfl, hb3⟩))
  ((try simp only [Exit.inBlock, Exit.then]); refine bodyPost_ret (v := .tuple #[.int .i64 R, .int .i64 0]) ?_ rfl ?_; (next => simp [results, Try.results32, go_sem]))
  exact ⟨fun _ => rfl, fun h => absurd rfl h, by exact BelowA⟩
 ·have hne : (E1 != 0) = true := by simpa using h1
  have HN := hid h1
  clear h1
  go_enter Try.func32, Try.ntmps32
  go_wp2_with (first | (go_at_call 73; rw [← hW0]; refine (HO.out _).mono ?_; rintro _ w1 ⟨rfl, hb1⟩; have hz1 := hb1.size) | (go_at_call 89; obtain ⟨WB, hWB⟩ : ∃ WB, WB = (w1.alloc (.cells #[.int .i64 px, .int .i64 py, .int .i64 pz, .int .i64 tm, .int .i64 tk, .int .i64 lo, .int .i64 hi, .int .i64 li, .int .i64 ea, .int .i64 la, .int .i64 no, .int .i64 mi] 134)).alloc (.cells #[.int .i64 sx, .int .i64 sy, .int .i64 sz] 135) := ⟨_, rfl⟩; rw [← hWB]; have hbWB : Below w1.heap.size w1 WB := (by rw [hWB]; exact BelowA); obtain ⟨r0, r1, hr0, hr1⟩ := al2 w1 _ _ _ _ WB hWB; clear hWB; have hbWw : Below w.heap.size w WB := (hbW0.trans (hb1.mono hzW0)).trans (hbWB.mono (Nat.le_trans hzW0 hz1)); refine (HM.out _ hbWw).mono ?_; rintro _ w2 ⟨rfl, hb2⟩; have hbf : Below w.heap.size w w2 := hbWw.trans (hb2.mono hbWw.size); have R0 := hid ((hb2.block w1.heap.size hr0).trans r0); have R1 := hid ((hb2.block (w1.heap.size + 1) hr1).trans r1); obtain ⟨m0, m1, m2, m3, m4, m5, m6, m7, m8, m9, m10, m11, ml⟩ := tw_cells (R0.out); obtain ⟨s0, s1, s2, fs0, fs1, fs2, hls⟩ := three_cells R1.out; clear fs0 fs1 fs2 r0 r1) | (go_at_call 69; refine (HFI.out _ _ (intsAt_new _ _ _ _ _ rfl (by simp) (by first | rfl | simp))).mono ?_; rintro _ _ ⟨rfl, rfl⟩))
  ((try simp only [Exit.inBlock, Exit.then]); refine bodyPost_ret (v := .tuple #[.int .i64 0, .int .i64 E1]) ?_ rfl ?_; (next => simp [results, Try.results32, go_sem]))
  exact ⟨fun h => absurd h HN.out, fun _ => rfl, by exact BelowA⟩
end Go.Proofs.Ytlmdmpjfehpjeaa
set_option linter.unusedVariables false
set_option linter.unusedSimpArgs false
namespace Go.Proofs.Ytlmdmpjfehpjeaa
open Go.RowKit
def TBox.v (b : TBox) : Value := .agg #[.int .i64 b.lo.x, .int .i64 b.lo.y, .int .i64 b.lo.z, .int .i64 b.hi.x, .int .i64 b.hi.y, .int .i64 b.hi.z]
theorem six_row {w : World} {g : Nat} {x y z u v s : Value} {t : TypeId} (h : w.heap[g]? = some (.cells #[x, y, z, u, v, s] t (0, 0))) :
  w.cell? ⟨g, 0, none⟩ = some x ∧ w.cell? ⟨g, 1, none⟩ = some y ∧ w.cell? ⟨g, 2, none⟩ = some z ∧ w.cell? ⟨g, 3, none⟩ = some u ∧ w.cell? ⟨g, 4, none⟩ = some v ∧ w.cell? ⟨g, 5, none⟩ = some s ∧ g < w.heap.size := by
 refine ⟨?_, ?_, ?_, ?_, ?_, ?_, (Array.getElem?_eq_some_iff.1 h).1⟩
 ·rw [cell_of_row w g 0 _ t (0, 0) h]; rfl
 ·rw [cell_of_row w g 1 _ t (0, 0) h]; rfl
 ·rw [cell_of_row w g 2 _ t (0, 0) h]; rfl
 ·rw [cell_of_row w g 3 _ t (0, 0) h]; rfl
 ·rw [cell_of_row w g 4 _ t (0, 0) h]; rfl
 ·rw [cell_of_row w g 5 _ t (0, 0) h]; rfl
theorem count_nums {b : TBox} (hl : b.lo.inS 20 = true) (hh : b.hi.inS 20 = true) (ho : b.ok) :
  ∃ A X Y Z Y1 Z1 X1 P, IntKind.i64.wrap (b.hi.x - b.lo.x) = X1 ∧ IntKind.i64.wrap (X1 + 1) = X ∧ IntKind.i64.wrap (1 * X) = A ∧ A = X ∧ IntKind.i64.wrap (b.hi.y - b.lo.y) = Y1 ∧ IntKind.i64.wrap (Y1 + 1) = Y ∧ IntKind.i64.wrap (X * Y) = P ∧ IntKind.i64.wrap (b.hi.z - b.lo.z) = Z1 ∧ IntKind.i64.wrap (Z1 + 1) = Z ∧ IntKind.i64.wrap (P * Z) = b.count := by
 obtain ⟨⟨a1, a1'⟩, ⟨a2, a2'⟩, ⟨a3, a3'⟩⟩ := inS_iff.1 hl
 obtain ⟨⟨b1, b1'⟩, ⟨b2, b2'⟩, ⟨b3, b3'⟩⟩ := inS_iff.1 hh
 have h1 := mul_rg (x := b.hi.x - b.lo.x + 1) (y := b.hi.y - b.lo.y + 1) (A := 41) (B := 41) (C := 1681) (by omega) (by omega) (by decide)
 have h2 := mul_rg (x := (b.hi.x - b.lo.x + 1) * (b.hi.y - b.lo.y + 1)) (y := b.hi.z - b.lo.z + 1) (A := 1681) (B := 41) (C := 68921) h1 (by omega) (by decide)
 refine ⟨b.hi.x - b.lo.x + 1, b.hi.x - b.lo.x + 1, b.hi.y - b.lo.y + 1, b.hi.z - b.lo.z + 1, b.hi.y - b.lo.y, b.hi.z - b.lo.z, b.hi.x - b.lo.x, (b.hi.x - b.lo.x + 1) * (b.hi.y - b.lo.y + 1), IntWalk.i64_in _ (by omega), IntWalk.i64_in _ (by omega), ?_, rfl, IntWalk.i64_in _ (by omega), IntWalk.i64_in _ (by omega), IntWalk.i64_in _ (by omega), IntWalk.i64_in _ (by omega), IntWalk.i64_in _ (by omega), ?_⟩
 ·rw [Int.one_mul]; exact IntWalk.i64_in _ (by omega)
 ·exact IntWalk.i64_in _ (by omega)
set_option maxRecDepth 100000 in
set_option maxHeartbeats 4000000 in
theorem track_count (b : TBox) (w : World) (hl : b.lo.inS 20 = true) (hh : b.hi.inS 20 = true) (ho : b.ok) :
  Calls Try.prog 103 #[b.v] w fun e w' => e = .returned (.int .i64 b.count) ∧ Below w.heap.size w w' := by
 obtain ⟨A, X, Y, Z, Y1, Z1, X1, P, k0, k1, k2, k3, k4, k5, k6, k7, k8, k9⟩ := count_nums hl hh ho
 subst k3
 have k2' : IntKind.i64.wrap A = A := by rw [Int.one_mul] at k2; exact k2
 generalize b.count = C at k9 ⊢
 obtain ⟨⟨lx, ly, lz⟩, ⟨hx, hy, hz⟩⟩ := b
 unfold TBox.v
 simp only at *
 clear hl hh ho
 obtain ⟨W, hW⟩ : ∃ W, W = w.alloc (.cells #[.int .i64 lx, .int .i64 ly, .int .i64 lz, .int .i64 hx, .int .i64 hy, .int .i64 hz] 75) := ⟨_, rfl⟩
 have hbW : Below w.heap.size w W := by rw [hW]; exact BelowA
 have q0 : W.heap[w.heap.size]? = some (.cells #[.int .i64 lx, .int .i64 ly, .int .i64 lz, .int .i64 hx, .int .i64 hy, .int .i64 hz] 75 (0, 0)) := by rw [hW]; exact heap_alloc_new w _
 have l0 := (Array.getElem?_eq_some_iff.1 q0).1
 have Q0 := hid q0
 clear q0
 have hzW := hbW.size
 go_enter Try.func103, Try.ntmps103
 go_wp2_with fail
 rw [← hW]
 clear hW
 go_loopw [3, 5] (fun n i wr => ∃ (k : Nat) (N : Int), k ≤ 3 ∧ i = .int .i64 k ∧ n = .int .i64 N ∧ Hid ((k = 0 → N = 1) ∧ (k = 1 → N = A) ∧ (k = 2 → N = P) ∧ (k = 3 → N = C)) ∧ Below W.heap.size W wr) (fun _ i _ => 3 - (intOf i).toNat)
 case atStart => exact ⟨0, 1, by omega, rfl, rfl, hid ⟨fun _ => rfl, by omega, by omega, by omega⟩, Below.refl _ _⟩
 case round =>
  obtain ⟨k, N, hk, rfl, rfl, HN, hbel⟩ := hrel
  obtain ⟨c0, c1, c2, c3, c4, c5, hlc⟩ := six_row ((hbel.block w.heap.size l0).trans Q0.out)
  have hbx : Below w.heap.size w wr := hbW.trans (hbel.mono hzW)
  rcases (by omega : k = 0 ∨ k = 1 ∨ k = 2 ∨ k = 3) with rfl | rfl | rfl | rfl
  ·obtain rfl := HN.out.1 rfl
   go_wp2_with fail
   refine wp_mixC (fun wc => Below (wr.heap.size) wr wc) 12 [.q [0, 1, 2, 3, 4, 5, 6, 7, 8, 9, 10, 11]] [.q [12]] (by kernel_rfl) (by kernel_rfl) ((Below.refl _ _).drew) ?_
   intro Q' hQ'
   (rw [wpMixC]; simp only [pick, List.drop_succ_cons, List.drop_zero, List.head?_cons, Option.toList_some, List.cons_append, List.nil_append])
   (repeat (first | go_big_quiet_skip | (go_big_quiet_want; refine quiet_simple rfl ?_; go_big_quiet_op; go_big_quiet_on) | (go_big_quiet_want; refine quiet_cellB (ty := 3) rfl rfl (by kernel_rfl) (by assumption) (by first | omega | (simp; omega)) ?_; simp only [Act.put, List.setIfInBounds_toArray, List.set_cons_succ, List.set_cons_zero]; go_big_quiet_on)))
   (try refine wpQuiet_nil ?_)
   (rw [wpMixC])
   (rw [wpMix]; simp only [pick, List.drop_succ_cons, List.drop_zero, List.head?_cons, Option.toList_some, List.cons_append, List.nil_append])
   (repeat (first | (go_big_quiet_step (fail)) | (quiet_step (fail))))
   (try refine wpQuiet_nil ?_)
   (rw [wpMix])
   (refine hQ' _ _ ?_)
   go_wp2_with fail
   go_roundw
   case rel => exact ⟨1, A, by omega, by go_num, rfl, hid ⟨by omega, fun _ => rfl, by omega, by omega⟩, hbel.trans (((Below.refl _ _).drew).mono hbel.size)⟩
   case measure => simp [intOf]
  ·obtain rfl := HN.out.2.1 rfl
   go_wp2_with fail
   refine wp_mixC (fun wc => Below (wr.heap.size) wr wc) 12 [.q [0, 1, 2, 3, 4, 5, 6, 7, 8, 9, 10, 11]] [.q [12]] (by kernel_rfl) (by kernel_rfl) ((Below.refl _ _).drew) ?_
   intro Q' hQ'
   (rw [wpMixC]; simp only [pick, List.drop_succ_cons, List.drop_zero, List.head?_cons, Option.toList_some, List.cons_append, List.nil_append])
   (repeat (first | go_big_quiet_skip | (go_big_quiet_want; refine quiet_simple rfl ?_; go_big_quiet_op; go_big_quiet_on) | (go_big_quiet_want; refine quiet_cellB (ty := 3) rfl rfl (by kernel_rfl) (by assumption) (by first | omega | (simp; omega)) ?_; simp only [Act.put, List.setIfInBounds_toArray, List.set_cons_succ, List.set_cons_zero]; go_big_quiet_on)))
   (try refine wpQuiet_nil ?_)
   (rw [wpMixC])
   (rw [wpMix]; simp only [pick, List.drop_succ_cons, List.drop_zero, List.head?_cons, Option.toList_some, List.cons_append, List.nil_append])
   (repeat (first | (go_big_quiet_step (fail)) | (quiet_step (fail))))
   (try refine wpQuiet_nil ?_)
   (rw [wpMix])
   (refine hQ' _ _ ?_)
   go_wp2_with fail
   go_roundw
   case rel => exact ⟨2, P, by omega, by go_num, rfl, hid ⟨by omega, by omega, fun _ => rfl, by omega⟩, hbel.trans (((Below.refl _ _).drew).mono hbel.size)⟩
   case measure => simp [intOf]
  ·obtain rfl := HN.out.2.2.1 rfl
   go_wp2_with fail
   refine wp_mixC (fun wc => Below (wr.heap.size) wr wc) 12 [.q [0, 1, 2, 3, 4, 5, 6, 7, 8, 9, 10, 11]] [.q [12]] (by kernel_rfl) (by kernel_rfl) ((Below.refl _ _).drew) ?_
   intro Q' hQ'
   (rw [wpMixC]; simp only [pick, List.drop_succ_cons, List.drop_zero, List.head?_cons, Option.toList_some, List.cons_append, List.nil_append])
   (repeat (first | go_big_quiet_skip | (go_big_quiet_want; refine quiet_simple rfl ?_; go_big_quiet_op; go_big_quiet_on) | (go_big_quiet_want; refine quiet_cellB (ty := 3) rfl rfl (by kernel_rfl) (by assumption) (by first | omega | (simp; omega)) ?_; simp only [Act.put, List.setIfInBounds_toArray, List.set_cons_succ, List.set_cons_zero]; go_big_quiet_on)))
   (try refine wpQuiet_nil ?_)
   (rw [wpMixC])
   (rw [wpMix]; simp only [pick, List.drop_succ_cons, List.drop_zero, List.head?_cons, Option.toList_some, List.cons_append, List.nil_append])
   (repeat (first | (go_big_quiet_step (fail)) | (quiet_step (fail))))
   (try refine wpQuiet_nil ?_)
   (rw [wpMix])
   (refine hQ' _ _ ?_)
   go_wp2_with fail
   go_roundw
   case rel => exact ⟨3, C, by omega, by go_num, rfl, hid ⟨by omega, by omega, by omega, fun _ => rfl⟩, hbel.trans (((Below.refl _ _).drew).mono hbel.size)⟩
   case measure => simp [intOf]
  ·obtain rfl := HN.out.2.2.2 rfl
   go_wp2_with fail
   go_ret
   exact ⟨rfl, hbx⟩
theorem boxE_cases (b : TBox) : ((b.lo.inS 20 && b.hi.inS 20) = false → b.err = 2) ∧ ((b.lo.inS 20 && b.hi.inS 20) = true → ¬ b.ok → b.err = 9) ∧ ((b.lo.inS 20 && b.hi.inS 20) = true → b.ok → b.err = unl (decide (b.count ≤ 700)) 8) := by
 unfold TBox.err
 refine ⟨fun h => by simp [firstNZ, h, unl], fun h h2 => ?_, fun h h2 => ?_⟩
 ·have : (decide (b.lo.x ≤ b.hi.x) && decide (b.lo.y ≤ b.hi.y) && decide (b.lo.z ≤ b.hi.z)) = false := by
   apply Bool.eq_false_iff.2
   intro e
   simp only [Bool.and_eq_true, decide_eq_true_eq] at e
   exact h2 ⟨e.1.1, e.1.2, e.2⟩
  rw [h, this]; rfl
 ·have : (decide (b.lo.x ≤ b.hi.x) && decide (b.lo.y ≤ b.hi.y) && decide (b.lo.z ≤ b.hi.z)) = true := by
   simp only [Bool.and_eq_true, decide_eq_true_eq]
   exact ⟨⟨h2.1, h2.2.1⟩, h2.2.2⟩
  rw [h, this]; cases decide (b.count ≤ 700) <;> rfl
set_option maxRecDepth 100000 in
set_option maxHeartbeats 8000000 in
theorem track_CheckBox (b : TBox) (w : World) :
  Calls Try.prog 47 #[b.v] w fun e w' => e = .returned (.int .i64 b.err) ∧ Below w.heap.size w w' := by
 have HE := hid (boxE_cases b)
 have HFL : Hid (∀ W, Calls Try.prog 102 #[b.lo.v, .int .i64 20] W fun e w' => e = .returned (.bool (b.lo.inS 20)) ∧ Below W.heap.size W w') := hid (fun W => track_fits b.lo 20 W (by omega) (by omega))
 have HFH : Hid (∀ W, Calls Try.prog 102 #[b.hi.v, .int .i64 20] W fun e w' => e = .returned (.bool (b.hi.inS 20)) ∧ Below W.heap.size W w') := hid (fun W => track_fits b.hi 20 W (by omega) (by omega))
 have HC : Hid (b.lo.inS 20 = true → b.hi.inS 20 = true → b.ok → ∀ W, Calls Try.prog 103 #[b.v] W fun e w' => e = .returned (.int .i64 b.count) ∧ Below W.heap.size W w') := hid (fun h1 h2 h3 W => track_count b W h1 h2 h3)
 have HOK : Hid (b.ok ↔ b.lo.x ≤ b.hi.x ∧ b.lo.y ≤ b.hi.y ∧ b.lo.z ≤ b.hi.z) := hid Iff.rfl
 generalize b.err = E at HE ⊢
 generalize b.lo.inS 20 = L at HE HFL HC
 generalize b.hi.inS 20 = H at HE HFH HC
 generalize b.count = C at HE HC
 generalize b.ok = OK at HE HC HOK
 obtain ⟨⟨lx, ly, lz⟩, ⟨hx, hy, hz⟩⟩ := b
 unfold TBox.v V3.v at *
 simp only at *
 obtain ⟨W, hW⟩ : ∃ W, W = w.alloc (.cells #[.int .i64 lx, .int .i64 ly, .int .i64 lz, .int .i64 hx, .int .i64 hy, .int .i64 hz] 75) := ⟨_, rfl⟩
 have hbW : Below w.heap.size w W := by rw [hW]; exact BelowA
 have q0 : W.heap[w.heap.size]? = some (.cells #[.int .i64 lx, .int .i64 ly, .int .i64 lz, .int .i64 hx, .int .i64 hy, .int .i64 hz] 75 (0, 0)) := by rw [hW]; exact heap_alloc_new w _
 have l0 := (Array.getElem?_eq_some_iff.1 q0).1
 have Q0 := hid q0
 clear q0
 have hzW := hbW.size
 cases L
 ·have HV : Hid (E = 2) := hid (HE.out.1 rfl)
  go_enter Try.func47, Try.ntmps47
  go_wp2_with (go_at_call 102; refine (HFL.out _).mono ?_; rintro _ w1 ⟨rfl, hb1⟩)
  go_ret
  exact ⟨ret_int HV.out.symm, by exact BelowA⟩
 cases H
 ·have HV : Hid (E = 2) := hid (HE.out.1 rfl)
  go_enter Try.func47, Try.ntmps47
  go_wp2_with (first | (go_at_call 102; ((with_reducible refine (HFL.out _).mono ?_); rintro _ w1 ⟨rfl, hb1⟩); obtain ⟨c0, c1, c2, c3, c4, c5, hlc⟩ := six_row ((hb1.block w.heap.size (by simp)).trans (heap_alloc_new w _))) | (go_at_call 102; ((with_reducible refine (HFH.out _).mono ?_); rintro _ w2 ⟨rfl, hb2⟩)))
  go_ret
  exact ⟨ret_int HV.out.symm, by exact BelowA⟩
 have HV9 : Hid (¬ OK → E = 9) := hid (fun h => HE.out.2.1 rfl h)
 have HVC : Hid (OK → E = unl (decide (C ≤ 700)) 8) := hid (fun h => HE.out.2.2 rfl h)
 have HC2 : Hid (OK → ∀ W, Calls Try.prog 103 #[.agg #[.int .i64 lx, .int .i64 ly, .int .i64 lz, .int .i64 hx, .int .i64 hy, .int .i64 hz]] W fun e w' => e = .returned (.int .i64 C) ∧ Below W.heap.size W w') := hid (fun h => HC.out rfl rfl h)
 clear HE HC
 go_enter Try.func47, Try.ntmps47
 go_wp2_with (first | (go_at_call 102; ((with_reducible refine (HFL.out _).mono ?_); rintro _ w1 ⟨rfl, hb1⟩); obtain ⟨c0, c1, c2, c3, c4, c5, hlc⟩ := six_row ((hb1.block w.heap.size (by simp)).trans (heap_alloc_new w _))) | (go_at_call 102; ((with_reducible refine (HFH.out _).mono ?_); rintro _ w2 ⟨rfl, hb2⟩)))
 have hb02 : Below w.heap.size w w2 := by exact BelowA
 have hbW2 : Below W.heap.size W w2 := by rw [hW]; exact hb1.trans (hb2.mono hb1.size)
 clear hW hb1 hb2 c0 c1 c2 c3 c4 c5 hlc
 go_loopw [14] (fun i wr => ∃ (k : Nat), k ≤ 3 ∧ i = .int .i64 k ∧ Hid ((0 < k → lx ≤ hx) ∧ (1 < k → ly ≤ hy) ∧ (2 < k → lz ≤ hz)) ∧ Below W.heap.size W wr) (fun i _ => 3 - (intOf i).toNat)
 case atStart => exact ⟨0, by omega, rfl, hid ⟨by omega, by omega, by omega⟩, hbW2⟩
 case round =>
  obtain ⟨k, hk, rfl, HO, hbel⟩ := hrel
  obtain ⟨c0, c1, c2, c3, c4, c5, hlc⟩ := six_row ((hbel.block w.heap.size l0).trans Q0.out)
  have hbx : Below w.heap.size w wr := hbW.trans (hbel.mono hzW)
  rcases (by omega : k = 0 ∨ k = 1 ∨ k = 2 ∨ k = 3) with rfl | rfl | rfl | rfl
  ·by_cases hlt : hx < lx
   ·have HV : Hid (E = 9) := hid (HV9.out (fun h => by have := HOK.out.1 h; omega))
    go_wp2_with fail
    refine wp_mixC (fun wc => Below (wr.heap.size) wr wc) 9 [.q [0, 1, 2, 3, 4, 5, 6, 7, 8]] [] (by kernel_rfl) (by kernel_rfl) ((Below.refl _ _).drew) ?_
    intro Q' hQ'
    (rw [wpMixC]; simp only [pick, List.drop_succ_cons, List.drop_zero, List.head?_cons, Option.toList_some, List.cons_append, List.nil_append])
    (repeat (first | go_big_quiet_skip | (go_big_quiet_want; refine quiet_simple rfl ?_; go_big_quiet_op; go_big_quiet_on) | (go_big_quiet_want; refine quiet_cellB (ty := 3) rfl rfl (by kernel_rfl) (by assumption) (by first | omega | (simp; omega)) ?_; simp only [Act.put, List.setIfInBounds_toArray, List.set_cons_succ, List.set_cons_zero]; go_big_quiet_on)))
    (try refine wpQuiet_nil ?_)
    (rw [wpMixC])
    (rw [wpMix])
    (refine hQ' _ _ ?_)
    go_wp2_with fail
    go_ret
    exact ⟨ret_int HV.out.symm, by exact BelowA⟩
   ·have HL := hid (show lx ≤ hx by omega)
    go_wp2_with fail
    refine wp_mixC (fun wc => Below (wr.heap.size) wr wc) 9 [.q [0, 1, 2, 3, 4, 5, 6, 7, 8]] [] (by kernel_rfl) (by kernel_rfl) ((Below.refl _ _).drew) ?_
    intro Q' hQ'
    (rw [wpMixC]; simp only [pick, List.drop_succ_cons, List.drop_zero, List.head?_cons, Option.toList_some, List.cons_append, List.nil_append])
    (repeat (first | go_big_quiet_skip | (go_big_quiet_want; refine quiet_simple rfl ?_; go_big_quiet_op; go_big_quiet_on) | (go_big_quiet_want; refine quiet_cellB (ty := 3) rfl rfl (by kernel_rfl) (by assumption) (by first | omega | (simp; omega)) ?_; simp only [Act.put, List.setIfInBounds_toArray, List.set_cons_succ, List.set_cons_zero]; go_big_quiet_on)))
    (try refine wpQuiet_nil ?_)
    (rw [wpMixC])
    (rw [wpMix])
    (refine hQ' _ _ ?_)
    go_wp2_with fail
    go_roundw
    case rel => exact ⟨1, by omega, by go_num, hid ⟨fun _ => HL.out, fun h => absurd h (by omega), fun h => absurd h (by omega)⟩, hbel.trans (((Below.refl _ _).drew).mono hbel.size)⟩
    case measure => simp [intOf]
  ·by_cases hlt : hy < ly
   ·have HV : Hid (E = 9) := hid (HV9.out (fun h => by have := HOK.out.1 h; omega))
    go_wp2_with fail
    refine wp_mixC (fun wc => Below (wr.heap.size) wr wc) 9 [.q [0, 1, 2, 3, 4, 5, 6, 7, 8]] [] (by kernel_rfl) (by kernel_rfl) ((Below.refl _ _).drew) ?_
    intro Q' hQ'
    (rw [wpMixC]; simp only [pick, List.drop_succ_cons, List.drop_zero, List.head?_cons, Option.toList_some, List.cons_append, List.nil_append])
    (repeat (first | go_big_quiet_skip | (go_big_quiet_want; refine quiet_simple rfl ?_; go_big_quiet_op; go_big_quiet_on) | (go_big_quiet_want; refine quiet_cellB (ty := 3) rfl rfl (by kernel_rfl) (by assumption) (by first | omega | (simp; omega)) ?_; simp only [Act.put, List.setIfInBounds_toArray, List.set_cons_succ, List.set_cons_zero]; go_big_quiet_on)))
    (try refine wpQuiet_nil ?_)
    (rw [wpMixC])
    (rw [wpMix])
    (refine hQ' _ _ ?_)
    go_wp2_with fail
    go_ret
    exact ⟨ret_int HV.out.symm, by exact BelowA⟩
   ·have HL := hid (show ly ≤ hy by omega)
    go_wp2_with fail
    refine wp_mixC (fun wc => Below (wr.heap.size) wr wc) 9 [.q [0, 1, 2, 3, 4, 5, 6, 7, 8]] [] (by kernel_rfl) (by kernel_rfl) ((Below.refl _ _).drew) ?_
    intro Q' hQ'
    (rw [wpMixC]; simp only [pick, List.drop_succ_cons, List.drop_zero, List.head?_cons, Option.toList_some, List.cons_append, List.nil_append])
    (repeat (first | go_big_quiet_skip | (go_big_quiet_want; refine quiet_simple rfl ?_; go_big_quiet_op; go_big_quiet_on) | (go_big_quiet_want; refine quiet_cellB (ty := 3) rfl rfl (by kernel_rfl) (by assumption) (by first | omega | (simp; omega)) ?_; simp only [Act.put, List.setIfInBounds_toArray, List.set_cons_succ, List.set_cons_zero]; go_big_quiet_on)))
    (try refine wpQuiet_nil ?_)
    (rw [wpMixC])
    (rw [wpMix])
    (refine hQ' _ _ ?_)
    go_wp2_with fail
    go_roundw
    case rel => exact ⟨2, by omega, by go_num, hid ⟨fun _ => HO.out.1 (by omega), fun _ => HL.out, fun h => absurd h (by omega)⟩, hbel.trans (((Below.refl _ _).drew).mono hbel.size)⟩
    case measure => simp [intOf]
  ·by_cases hlt : hz < lz
   ·have HV : Hid (E = 9) := hid (HV9.out (fun h => by have := HOK.out.1 h; omega))
    go_wp2_with fail
    refine wp_mixC (fun wc => Below (wr.heap.size) wr wc) 9 [.q [0, 1, 2, 3, 4, 5, 6, 7, 8]] [] (by kernel_rfl) (by kernel_rfl) ((Below.refl _ _).drew) ?_
    intro Q' hQ'
    (rw [wpMixC]; simp only [pick, List.drop_succ_cons, List.drop_zero, List.head?_cons, Option.toList_some, List.cons_append, List.nil_append])
    (repeat (first | go_big_quiet_skip | (go_big_quiet_want; refine quiet_simple rfl ?_; go_big_quiet_op; go_big_quiet_on) | (go_big_quiet_want; refine quiet_cellB (ty := 3) rfl rfl (by kernel_rfl) (by assumption) (by first | omega | (simp; omega)) ?_; simp only [Act.put, List.setIfInBounds_toArray, List.set_cons_succ, List.set_cons_zero]; go_big_quiet_on)))
    (try refine wpQuiet_nil ?_)
    (rw [wpMixC])
    (rw [wpMix])
    (refine hQ' _ _ ?_)
    go_wp2_with fail
    go_ret
    exact ⟨ret_int HV.out.symm, by exact BelowA⟩
   ·have HL := hid (show lz ≤ hz by omega)
    go_wp2_with fail
    refine wp_mixC (fun wc => Below (wr.heap.size) wr wc) 9 [.q [0, 1, 2, 3, 4, 5, 6, 7, 8]] [] (by kernel_rfl) (by kernel_rfl) ((Below.refl _ _).drew) ?_
    intro Q' hQ'
    (rw [wpMixC]; simp only [pick, List.drop_succ_cons, List.drop_zero, List.head?_cons, Option.toList_some, List.cons_append, List.nil_append])
    (repeat (first | go_big_quiet_skip | (go_big_quiet_want; refine quiet_simple rfl ?_; go_big_quiet_op; go_big_quiet_on) | (go_big_quiet_want; refine quiet_cellB (ty := 3) rfl rfl (by kernel_rfl) (by assumption) (by first | omega | (simp; omega)) ?_; simp only [Act.put, List.setIfInBounds_toArray, List.set_cons_succ, List.set_cons_zero]; go_big_quiet_on)))
    (try refine wpQuiet_nil ?_)
    (rw [wpMixC])
    (rw [wpMix])
    (refine hQ' _ _ ?_)
    go_wp2_with fail
    go_roundw
    case rel => exact ⟨3, by omega, by go_num, hid ⟨fun _ => HO.out.1 (by omega), fun _ => HO.out.2.1 (by omega), fun _ => HL.out⟩, hbel.trans (((Below.refl _ _).drew).mono hbel.size)⟩
    case measure => simp [intOf]
  ·have hok : OK := HOK.out.2 ⟨HO.out.1 (by omega), HO.out.2.1 (by omega), HO.out.2.2 (by omega)⟩
   have HV := hid (HVC.out hok)
   have HC3 := hid (HC2.out hok)
   clear hok
   go_wp2_with (first | (go_at_call 103; refine (HC3.out _).mono ?_; rintro _ w4 ⟨rfl, hb4⟩) | (go_at_call 72; refine (track_unless _ _ _).mono ?_; rintro _ _ ⟨rfl, rfl⟩))
   go_ret
   exact ⟨ret_int HV.out.symm, by exact BelowA⟩
end Go.Proofs.Ytlmdmpjfehpjeaa
set_option linter.unusedVariables false
set_option linter.unusedSimpArgs false
namespace Go.Proofs.Ytlmdmpjfehpjeaa
open Go.RowKit
section
variable {H : Type} {enc : TypeId × Value → H} {P : Program} {w : World} {base : Nat} {spare : Nat → Bool} {held : Bool}
end
section
variable {H : Type} {enc : TypeId × Value → H} {w : World} {base : Nat} {spare : Nat → Bool} {held : Bool} {r : Reach} {b0 : Nat}
end
end Go.Proofs.Ytlmdmpjfehpjeaa
set_option linter.unusedVariables false
set_option linter.unusedSimpArgs false
namespace Go.Proofs.Ytlmdmpjfehpjeaa
open Go.RowKit Ev
theorem mx_if (a b : Int) : (if b > a then b else a) = max a b := by split <;> omega
theorem mn_if (a b : Int) : (if b < a then b else a) = min a b := by split <;> omega
def sqW (lo hi : Int) : Rg := if lo ≤ 0 ∧ hi ≥ 0 then ⟨0, max (wr (lo * lo)) (wr (hi * hi))⟩ else ⟨min (wr (lo * lo)) (wr (hi * hi)), max (wr (lo * lo)) (wr (hi * hi))⟩
def Rg.timesW (r s : Rg) : Rg := ⟨mn4 (wr (r.lo * s.lo)) (wr (r.lo * s.hi)) (wr (r.hi * s.lo)) (wr (r.hi * s.hi)), mx4 (wr (r.lo * s.lo)) (wr (r.lo * s.hi)) (wr (r.hi * s.lo)) (wr (r.hi * s.hi))⟩
def Rg.plusW (r s : Rg) : Rg := ⟨wr (r.lo + s.lo), wr (r.hi + s.hi)⟩
def sqsW (b : TBox) : Rg := ((Rg.plusW ⟨0, 0⟩ (sqW b.lo.x b.hi.x)).plusW (sqW b.lo.y b.hi.y)).plusW (sqW b.lo.z b.hi.z)
def canW (m : TMod) (b : TBox) : Bool := decide ((sqsW b).hi ≥ m.lo) && decide ((sqsW b).lo ≤ m.hi)
def con_base_Within : Con := fun args => match args with
 | [.t (.c (.v (.int .i64 a))), .t (.c (.v (.int .i64 b))), .t (.c (.v (.int .i64 c)))] => some (.t (.c (.v (.bool (inB a b c)))), none, false)
 | _ => none
theorem ok_base_Within : Ok Try.prog 26 con_base_Within := by
 refine Ok.oldG (Enters.of (fn := Try.f26) (by kernel_rfl) (by kernel_rfl) (by kernel_rfl)) fun args r pre fresh h hp => ?_
 unfold con_base_Within at h
 split at h
 ·rename_i a b c
  cases h
  refine ⟨rfl, _, rfl, fun W N vs hv => ?_⟩
  obtain ⟨u0, ws0, k0, g0, hv0⟩ := hv.cons_inv
  subst k0
  have e0 := plain_arg rfl g0
  subst e0
  obtain ⟨u1, ws1, k1, g1, hv1⟩ := hv0.cons_inv
  subst k1
  have e1 := plain_arg rfl g1
  subst e1
  obtain ⟨u2, ws2, k2, g2, hv2⟩ := hv1.cons_inv
  subst k2
  have e2 := plain_arg rfl g2
  subst e2
  have ev := hv2.nil_inv
  subst ev
  exact (base_Within a b c W).mono fun e w' h => ⟨h.1, h.2 ▸ Below.refl _ _⟩
 ·cases h
def S1 : Sum := addS noS 26 con_base_Within
theorem VS1 : Valid Try.prog S1 := Valid.add Valid.no ok_base_Within
def vc_ref05_isSide (n : Int) (post : DV → Prop) : Prop := post (.t (.c (.v (.bool (inB n (-20 : Int) (20 : Int))))))
def ann_ref05_isSide : Ann := ⟨fun _ => none, fun _ => none, fun _ => [], noIt, false, fun _ => none, fun _ => none⟩
theorem ev_ref05_isSide (J : Inv) (n : Int) (post : DV → Prop) : evFn Try.prog tab S1 ann_ref05_isSide J Try.f97 [.t (.c (.v (.int .i64 n)))] post = vc_ref05_isSide n post := by kernel_rfl
theorem fit_ref05_isSide : okFn ann_ref05_isSide Try.f97 = true := by kernel_rfl
theorem lp_ref05_isSide (J : Inv) (post : DV → Prop) : AllG J (loopsFn Try.prog tab S1 ann_ref05_isSide J Try.f97 post) = (True) := by kernel_rfl
theorem spec_ref05_isSide (n : Int) : vc_ref05_isSide n (fun r => LeD r (.t (.c (.v (.bool (inB n (-20) 20)))))) := by
 exact LeD.refl _
def con_ref05_isSide : Con := fun args => match args with
 | [.t (.c (.v (.int .i64 n)))] => some (.t (.c (.v (.bool (inB n (-20) 20)))), none, false)
 | _ => none
theorem ok_ref05_isSide : Ok Try.prog 97 con_ref05_isSide := by
 refine Ok.fn (ann := ann_ref05_isSide) mixed tabOK VS1 ValidIt.no (fn := Try.f97) (by kernel_rfl) (by kernel_rfl) fit_ref05_isSide fun args r pre fresh h hp => ?_
 unfold con_ref05_isSide at h
 split at h
 ·rename_i n
  cases h
  refine ⟨rfl, fun _ _ _ => False, _, LeA.refl _, Nat.le_of_ble_eq_true (by kernel_rfl), ?_, ?_⟩
  ·rw [ev_ref05_isSide]; exact spec_ref05_isSide n
  ·rw [lp_ref05_isSide]; trivial
 ·cases h
def S2 : Sum := addS S1 97 con_ref05_isSide
theorem VS2 : Valid Try.prog S2 := Valid.add VS1 ok_ref05_isSide
def vc_ref05_side_0 (b0 b1 b2 b3 b4 b5 : Int) (post : DV → Prop) : Prop := (0 ≤ (0 : Int) ∧ (0 : Int) < ((3 : Nat) : Int)) ∧ ((0 ≤ (0 : Int) ∧ (0 : Int) < ((3 : Nat) : Int)) ∧ (post (.t (.a [.v (.int .i64 b0), .v (.int .i64 b3)]))))
def ann_ref05_side_0 : Ann := ⟨fun r => lookA r [(1, ([[], [], [0, 1], [0, 1, 2], [], [], [4, 5], [4, 5, 6], [0, 1, 2, 3, 4, 5, 6, 7], [0, 1, 2, 3, 4, 5, 6, 7, 8]], [[], [], [], [], [], [], [], [], [], []]))], fun _ => none, fun _ => [], noIt, false, fun _ => none, fun _ => none⟩
theorem ev_ref05_side_0 (J : Inv) (b0 b1 b2 b3 b4 b5 : Int) (post : DV → Prop) : evFn Try.prog tab S2 ann_ref05_side_0 J Try.f99 [.t (.a [.v (.int .i64 b0), .v (.int .i64 b1), .v (.int .i64 b2), .v (.int .i64 b3), .v (.int .i64 b4), .v (.int .i64 b5)]), .t (.c (.v (.int .i64 0)))] post = vc_ref05_side_0 b0 b1 b2 b3 b4 b5 post := by kernel_rfl
theorem fit_ref05_side_0 : okFn ann_ref05_side_0 Try.f99 = true := by kernel_rfl
theorem lp_ref05_side_0 (J : Inv) (post : DV → Prop) : AllG J (loopsFn Try.prog tab S2 ann_ref05_side_0 J Try.f99 post) = True := by kernel_rfl
theorem spec_ref05_side_0 (b0 b1 b2 b3 b4 b5 : Int) : vc_ref05_side_0 b0 b1 b2 b3 b4 b5 (fun r => LeD r (.t (.a [.v (.int .i64 b0), .v (.int .i64 b3)]))) := by
 exact ⟨by decide, by decide, LeD.refl _⟩
def vc_ref05_side_1 (b0 b1 b2 b3 b4 b5 : Int) (post : DV → Prop) : Prop := (0 ≤ (1 : Int) ∧ (1 : Int) < ((3 : Nat) : Int)) ∧ ((0 ≤ (1 : Int) ∧ (1 : Int) < ((3 : Nat) : Int)) ∧ (post (.t (.a [.v (.int .i64 b1), .v (.int .i64 b4)]))))
def ann_ref05_side_1 : Ann := ⟨fun r => lookA r [(1, ([[], [], [0, 1], [0, 1, 2], [], [], [4, 5], [4, 5, 6], [0, 1, 2, 3, 4, 5, 6, 7], [0, 1, 2, 3, 4, 5, 6, 7, 8]], [[], [], [], [], [], [], [], [], [], []]))], fun _ => none, fun _ => [], noIt, false, fun _ => none, fun _ => none⟩
theorem ev_ref05_side_1 (J : Inv) (b0 b1 b2 b3 b4 b5 : Int) (post : DV → Prop) : evFn Try.prog tab S2 ann_ref05_side_1 J Try.f99 [.t (.a [.v (.int .i64 b0), .v (.int .i64 b1), .v (.int .i64 b2), .v (.int .i64 b3), .v (.int .i64 b4), .v (.int .i64 b5)]), .t (.c (.v (.int .i64 1)))] post = vc_ref05_side_1 b0 b1 b2 b3 b4 b5 post := by kernel_rfl
theorem fit_ref05_side_1 : okFn ann_ref05_side_1 Try.f99 = true := by kernel_rfl
theorem lp_ref05_side_1 (J : Inv) (post : DV → Prop) : AllG J (loopsFn Try.prog tab S2 ann_ref05_side_1 J Try.f99 post) = True := by kernel_rfl
theorem spec_ref05_side_1 (b0 b1 b2 b3 b4 b5 : Int) : vc_ref05_side_1 b0 b1 b2 b3 b4 b5 (fun r => LeD r (.t (.a [.v (.int .i64 b1), .v (.int .i64 b4)]))) := by
 exact ⟨by decide, by decide, LeD.refl _⟩
def vc_ref05_side_2 (b0 b1 b2 b3 b4 b5 : Int) (post : DV → Prop) : Prop := (0 ≤ (2 : Int) ∧ (2 : Int) < ((3 : Nat) : Int)) ∧ ((0 ≤ (2 : Int) ∧ (2 : Int) < ((3 : Nat) : Int)) ∧ (post (.t (.a [.v (.int .i64 b2), .v (.int .i64 b5)]))))
def ann_ref05_side_2 : Ann := ⟨fun r => lookA r [(1, ([[], [], [0, 1], [0, 1, 2], [], [], [4, 5], [4, 5, 6], [0, 1, 2, 3, 4, 5, 6, 7], [0, 1, 2, 3, 4, 5, 6, 7, 8]], [[], [], [], [], [], [], [], [], [], []]))], fun _ => none, fun _ => [], noIt, false, fun _ => none, fun _ => none⟩
theorem ev_ref05_side_2 (J : Inv) (b0 b1 b2 b3 b4 b5 : Int) (post : DV → Prop) : evFn Try.prog tab S2 ann_ref05_side_2 J Try.f99 [.t (.a [.v (.int .i64 b0), .v (.int .i64 b1), .v (.int .i64 b2), .v (.int .i64 b3), .v (.int .i64 b4), .v (.int .i64 b5)]), .t (.c (.v (.int .i64 2)))] post = vc_ref05_side_2 b0 b1 b2 b3 b4 b5 post := by kernel_rfl
theorem fit_ref05_side_2 : okFn ann_ref05_side_2 Try.f99 = true := by kernel_rfl
theorem lp_ref05_side_2 (J : Inv) (post : DV → Prop) : AllG J (loopsFn Try.prog tab S2 ann_ref05_side_2 J Try.f99 post) = True := by kernel_rfl
theorem spec_ref05_side_2 (b0 b1 b2 b3 b4 b5 : Int) : vc_ref05_side_2 b0 b1 b2 b3 b4 b5 (fun r => LeD r (.t (.a [.v (.int .i64 b2), .v (.int .i64 b5)]))) := by
 exact ⟨by decide, by decide, LeD.refl _⟩
def con_ref05_side : Con := fun args => match args with
 | [.t (.a [.v (.int .i64 b0), .v (.int .i64 b1), .v (.int .i64 b2), .v (.int .i64 b3), .v (.int .i64 b4), .v (.int .i64 b5)]), .t (.c (.v (.int .i64 kk)))] => if kk = 0 then some (.t (.a [.v (.int .i64 b0), .v (.int .i64 b3)]), none, false) else if kk = 1 then some (.t (.a [.v (.int .i64 b1), .v (.int .i64 b4)]), none, false) else if kk = 2 then some (.t (.a [.v (.int .i64 b2), .v (.int .i64 b5)]), none, false) else none
 | _ => none
theorem ok_ref05_side : Ok Try.prog 99 con_ref05_side := by
 intro args r pre fresh h hp
 unfold con_ref05_side at h
 split at h
 ·repeat' (split at h)
  all_goals first | (cases h; done) | skip
  ·rename_i hk
   subst hk
   cases h
   exact Ok.one mixed tabOK VS2 (ann := ann_ref05_side_0) ValidIt.no (fn := Try.f99) (by kernel_rfl) (by kernel_rfl) fit_ref05_side_0 (Nat.le_of_ble_eq_true (by kernel_rfl)) (J := fun _ _ _ => False) (by rw [ev_ref05_side_0]; exact spec_ref05_side_0 _ _ _ _ _ _) (by rw [lp_ref05_side_0]; trivial)
  ·rename_i hk
   subst hk
   cases h
   exact Ok.one mixed tabOK VS2 (ann := ann_ref05_side_1) ValidIt.no (fn := Try.f99) (by kernel_rfl) (by kernel_rfl) fit_ref05_side_1 (Nat.le_of_ble_eq_true (by kernel_rfl)) (J := fun _ _ _ => False) (by rw [ev_ref05_side_1]; exact spec_ref05_side_1 _ _ _ _ _ _) (by rw [lp_ref05_side_1]; trivial)
  ·rename_i hk
   subst hk
   cases h
   exact Ok.one mixed tabOK VS2 (ann := ann_ref05_side_2) ValidIt.no (fn := Try.f99) (by kernel_rfl) (by kernel_rfl) fit_ref05_side_2 (Nat.le_of_ble_eq_true (by kernel_rfl)) (J := fun _ _ _ => False) (by rw [ev_ref05_side_2]; exact spec_ref05_side_2 _ _ _ _ _ _) (by rw [lp_ref05_side_2]; trivial)
 ·cases h
def S3 : Sum := addS S2 99 con_ref05_side
theorem VS3 : Valid Try.prog S3 := Valid.add VS2 ok_ref05_side
def vc_ref05_square (r0 r1 : Int) (post : DV → Prop) : Prop := lt (IntKind.i64.wrap (r0 * r0)) fun x1 => lt (IntKind.i64.wrap (r1 * r1)) fun x2 => cond (decide (r0 ≤ (0 : Int))) (cond (decide (r1 ≥ (0 : Int))) (lt ((if x2 > x1 then x2 else x1)) fun x3 => post (.t (.a [.v (.int .i64 0), .v (.int .i64 x3)]))) (lt ((if x2 < x1 then x2 else x1)) fun x4 => lt ((if x2 > x1 then x2 else x1)) fun x5 => post (.t (.a [.v (.int .i64 x4), .v (.int .i64 x5)])))) ((false = false) ∧ (lt ((if x2 < x1 then x2 else x1)) fun x6 => lt ((if x2 > x1 then x2 else x1)) fun x7 => post (.t (.a [.v (.int .i64 x6), .v (.int .i64 x7)]))))
def ann_ref05_square : Ann := ⟨fun r => lookA r [(1, ([[], [0], [], [2], [0, 1, 2, 3], [], [5], [], [7], [5, 6, 7, 8], [0, 1, 2, 3, 4], [0, 1, 2, 3, 4, 5, 6, 7, 8, 9, 10]], [[], [], [], [], [], [], [], [], [], [], [], []]))], fun _ => none, fun _ => [], noIt, false, fun _ => none, fun _ => none⟩
theorem ev_ref05_square (J : Inv) (r0 r1 : Int) (post : DV → Prop) : evFn Try.prog tab S3 ann_ref05_square J Try.f101 [.t (.a [.v (.int .i64 r0), .v (.int .i64 r1)])] post = vc_ref05_square r0 r1 post := by kernel_rfl
theorem fit_ref05_square : okFn ann_ref05_square Try.f101 = true := by kernel_rfl
theorem lp_ref05_square (J : Inv) (post : DV → Prop) : AllG J (loopsFn Try.prog tab S3 ann_ref05_square J Try.f101 post) = (True) := by kernel_rfl
theorem spec_ref05_square (r0 r1 : Int) : vc_ref05_square r0 r1 (fun r => LeD r (.t (.a [.v (.int .i64 ((sqW r0 r1).lo)), .v (.int .i64 ((sqW r0 r1).hi))]))) := by
 unfold vc_ref05_square
 refine lt_i fun x1 h1 => lt_i fun x2 h2 => ?_
 subst h1; subst h2
 refine cond_i (fun h => ?_) (fun h => ?_)
 ·have h := of_decide_eq_true h
  refine cond_i (fun g => lt_i fun x hx => LeD.of ?_) (fun g => lt_i fun x hx => lt_i fun y hy => LeD.of ?_)
  ·have g := of_decide_eq_true g
   unfold sqW
   rw [if_pos ⟨h, g⟩, ← hx]
   congr 6
   simp only
   rw [mx_if]
  ·have g := of_decide_eq_false g
   unfold sqW
   rw [if_neg (fun q => g q.2), ← hx, ← hy]
   simp only [mn_if, mx_if]
 ·have h := of_decide_eq_false h
  refine ⟨rfl, lt_i fun x hx => lt_i fun y hy => LeD.of ?_⟩
  unfold sqW
  rw [if_neg (fun q => h q.1), ← hx, ← hy]
  simp only [mn_if, mx_if]
def con_ref05_square : Con := fun args => match args with
 | [.t (.a [.v (.int .i64 r0), .v (.int .i64 r1)])] => some (.t (.a [.v (.int .i64 ((sqW r0 r1).lo)), .v (.int .i64 ((sqW r0 r1).hi))]), none, false)
 | _ => none
theorem ok_ref05_square : Ok Try.prog 101 con_ref05_square := by
 refine Ok.fn (ann := ann_ref05_square) mixed tabOK VS3 ValidIt.no (fn := Try.f101) (by kernel_rfl) (by kernel_rfl) fit_ref05_square fun args r pre fresh h hp => ?_
 unfold con_ref05_square at h
 split at h
 ·rename_i r0 r1
  cases h
  refine ⟨rfl, fun _ _ _ => False, _, LeA.refl _, Nat.le_of_ble_eq_true (by kernel_rfl), ?_, ?_⟩
  ·rw [ev_ref05_square]; exact spec_ref05_square r0 r1
  ·rw [lp_ref05_square]; trivial
 ·cases h
def S4 : Sum := addS S3 101 con_ref05_square
theorem VS4 : Valid Try.prog S4 := Valid.add VS3 ok_ref05_square
def vc_ref05_product (r0 r1 : Int) (s0 s1 : Int) (post : DV → Prop) : Prop := lt (IntKind.i64.wrap (r0 * s0)) fun x1 => lt (IntKind.i64.wrap (r0 * s1)) fun x2 => lt (IntKind.i64.wrap (r1 * s0)) fun x3 => lt (IntKind.i64.wrap (r1 * s1)) fun x4 => lt ((if x2 < x1 then x2 else x1)) fun x5 => lt ((if x3 < x5 then x3 else x5)) fun x6 => lt ((if x4 < x6 then x4 else x6)) fun x7 => lt ((if x2 > x1 then x2 else x1)) fun x8 => lt ((if x3 > x8 then x3 else x8)) fun x9 => lt ((if x4 > x9 then x4 else x9)) fun x10 => post (.t (.a [.v (.int .i64 x7), .v (.int .i64 x10)]))
def ann_ref05_product : Ann := ⟨fun r => lookA r [(1, ([[], [0], [], [2], [0, 1, 2, 3], [], [5], [], [7], [5, 6, 7, 8], [], [10], [], [12], [10, 11, 12, 13], [], [15], [], [17], [15, 16, 17, 18], [0, 1, 2, 3, 4], [0, 1, 2, 3, 4, 5, 6, 7, 8, 9, 20], [0, 1, 2, 3, 4, 5, 6, 7, 8, 9, 10, 11, 12, 13, 14, 20, 21], [0, 1, 2, 3, 4, 5, 6, 7, 8, 9, 10, 11, 12, 13, 14, 15, 16, 17, 18, 19, 20, 21, 22]], [[], [], [], [], [], [], [], [], [], [], [], [], [], [], [], [], [], [], [], [], [], [], [], []]))], fun _ => none, fun _ => [], noIt, false, fun _ => none, fun _ => none⟩
theorem ev_ref05_product (J : Inv) (r0 r1 : Int) (s0 s1 : Int) (post : DV → Prop) : evFn Try.prog tab S4 ann_ref05_product J Try.f100 [.t (.a [.v (.int .i64 r0), .v (.int .i64 r1)]), .t (.a [.v (.int .i64 s0), .v (.int .i64 s1)])] post = vc_ref05_product r0 r1 s0 s1 post := by kernel_rfl
theorem fit_ref05_product : okFn ann_ref05_product Try.f100 = true := by kernel_rfl
theorem lp_ref05_product (J : Inv) (post : DV → Prop) : AllG J (loopsFn Try.prog tab S4 ann_ref05_product J Try.f100 post) = (True) := by kernel_rfl
theorem spec_ref05_product (r0 r1 : Int) (s0 s1 : Int) : vc_ref05_product r0 r1 s0 s1 (fun r => LeD r (.t (.a [.v (.int .i64 ((((⟨r0, r1⟩ : Rg) : Rg).timesW (⟨s0, s1⟩ : Rg)).lo)), .v (.int .i64 ((((⟨r0, r1⟩ : Rg) : Rg).timesW (⟨s0, s1⟩ : Rg)).hi))]))) := by
 unfold vc_ref05_product
 (repeat' with_reducible first | (refine lt_i ?_; intro _ _) | (refine cond_i ?_ ?_ <;> intro _) | (refine And.intro ?_ ?_))
 rename_i x1 h1 x2 h2 x3 h3 x4 h4 x5 h5 x6 h6 x7 h7 x8 h8 x9 h9 x10 h10
 refine LeD.of ?_
 unfold Rg.timesW mn4 mx4
 simp only [h1, h2, h3, h4]
 rw [← h7, ← h6, ← h5, ← h10, ← h9, ← h8]
 simp only [mn_if, mx_if]
def con_ref05_product : Con := fun args => match args with
 | [.t (.a [.v (.int .i64 r0), .v (.int .i64 r1)]), .t (.a [.v (.int .i64 s0), .v (.int .i64 s1)])] => some (.t (.a [.v (.int .i64 ((((⟨r0, r1⟩ : Rg) : Rg).timesW (⟨s0, s1⟩ : Rg)).lo)), .v (.int .i64 ((((⟨r0, r1⟩ : Rg) : Rg).timesW (⟨s0, s1⟩ : Rg)).hi))]), none, false)
 | _ => none
theorem ok_ref05_product : Ok Try.prog 100 con_ref05_product := by
 refine Ok.fn (ann := ann_ref05_product) mixed tabOK VS4 ValidIt.no (fn := Try.f100) (by kernel_rfl) (by kernel_rfl) fit_ref05_product fun args r pre fresh h hp => ?_
 unfold con_ref05_product at h
 split at h
 ·rename_i r0 r1 s0 s1
  cases h
  refine ⟨rfl, fun _ _ _ => False, _, LeA.refl _, Nat.le_of_ble_eq_true (by kernel_rfl), ?_, ?_⟩
  ·rw [ev_ref05_product]; exact spec_ref05_product r0 r1 s0 s1
  ·rw [lp_ref05_product]; trivial
 ·cases h
def S5 : Sum := addS S4 100 con_ref05_product
theorem VS5 : Valid Try.prog S5 := Valid.add VS4 ok_ref05_product
def vc_ref05_Squares (b0 b1 b2 b3 b4 b5 : Int) (post : DV → Prop) : Prop := lt (IntKind.i64.wrap ((0 : Int) + ((sqW b0 b3).lo))) fun x1 => lt (IntKind.i64.wrap ((0 : Int) + ((sqW b0 b3).hi))) fun x2 => lt (IntKind.i64.wrap (x1 + ((sqW b1 b4).lo))) fun x3 => lt (IntKind.i64.wrap (x2 + ((sqW b1 b4).hi))) fun x4 => lt (IntKind.i64.wrap (x3 + ((sqW b2 b5).lo))) fun x5 => lt (IntKind.i64.wrap (x4 + ((sqW b2 b5).hi))) fun x6 => post (.t (.a [.v (.int .i64 x5), .v (.int .i64 x6)]))
def ann_ref05_Squares : Ann := ⟨fun _ => none, fun b => lookA b [(0, (some 4, some ⟨[1, 2, 3, 4], [1, 2, 3], []⟩))], fun _ => [], noIt, false, fun _ => none, fun _ => none⟩
theorem ev_ref05_Squares (J : Inv) (b0 b1 b2 b3 b4 b5 : Int) (post : DV → Prop) : evFn Try.prog tab S5 ann_ref05_Squares J Try.f98 [.t (.a [.v (.int .i64 b0), .v (.int .i64 b1), .v (.int .i64 b2), .v (.int .i64 b3), .v (.int .i64 b4), .v (.int .i64 b5)])] post = vc_ref05_Squares b0 b1 b2 b3 b4 b5 post := by kernel_rfl
theorem fit_ref05_Squares : okFn ann_ref05_Squares Try.f98 = true := by kernel_rfl
theorem lp_ref05_Squares (J : Inv) (post : DV → Prop) : AllG J (loopsFn Try.prog tab S5 ann_ref05_Squares J Try.f98 post) = (True) := by kernel_rfl
theorem spec_ref05_Squares (b0 b1 b2 b3 b4 b5 : Int) : vc_ref05_Squares b0 b1 b2 b3 b4 b5 (fun r => LeD r (.t (.a [.v (.int .i64 ((sqsW (⟨⟨b0, b1, b2⟩, ⟨b3, b4, b5⟩⟩ : TBox)).lo)), .v (.int .i64 ((sqsW (⟨⟨b0, b1, b2⟩, ⟨b3, b4, b5⟩⟩ : TBox)).hi))]))) := by
 unfold vc_ref05_Squares
 (repeat' with_reducible first | (refine lt_i ?_; intro _ _) | (refine cond_i ?_ ?_ <;> intro _) | (refine And.intro ?_ ?_))
 rename_i x1 h1 x2 h2 x3 h3 x4 h4 x5 h5 x6 h6
 refine LeD.of ?_
 unfold sqsW Rg.plusW
 simp only
 rw [← h6, ← h5, ← h4, ← h3, ← h2, ← h1]
def con_ref05_Squares : Con := fun args => match args with
 | [.t (.a [.v (.int .i64 b0), .v (.int .i64 b1), .v (.int .i64 b2), .v (.int .i64 b3), .v (.int .i64 b4), .v (.int .i64 b5)])] => some (.t (.a [.v (.int .i64 ((sqsW (⟨⟨b0, b1, b2⟩, ⟨b3, b4, b5⟩⟩ : TBox)).lo)), .v (.int .i64 ((sqsW (⟨⟨b0, b1, b2⟩, ⟨b3, b4, b5⟩⟩ : TBox)).hi))]), none, false)
 | _ => none
theorem ok_ref05_Squares : Ok Try.prog 98 con_ref05_Squares := by
 refine Ok.fn (ann := ann_ref05_Squares) mixed tabOK VS5 ValidIt.no (fn := Try.f98) (by kernel_rfl) (by kernel_rfl) fit_ref05_Squares fun args r pre fresh h hp => ?_
 unfold con_ref05_Squares at h
 split at h
 ·rename_i b0 b1 b2 b3 b4 b5
  cases h
  refine ⟨rfl, fun _ _ _ => False, _, LeA.refl _, Nat.le_of_ble_eq_true (by kernel_rfl), ?_, ?_⟩
  ·rw [ev_ref05_Squares]; exact spec_ref05_Squares b0 b1 b2 b3 b4 b5
  ·rw [lp_ref05_Squares]; trivial
 ·cases h
def S6 : Sum := addS S5 98 con_ref05_Squares
theorem VS6 : Valid Try.prog S6 := Valid.add VS5 ok_ref05_Squares
def vc_ref05_CanBe (m0 m1 m2 m3 m4 m5 m6 m7 m8 m9 m10 m11 : Int) (b0 b1 b2 b3 b4 b5 : Int) (post : DV → Prop) : Prop := cond (decide (((sqsW (⟨⟨b0, b1, b2⟩, ⟨b3, b4, b5⟩⟩ : TBox)).hi) ≥ m5)) (post (.t (.c (.v (.bool (decide (((sqsW (⟨⟨b0, b1, b2⟩, ⟨b3, b4, b5⟩⟩ : TBox)).lo) ≤ m6))))))) ((false = false) ∧ (post (.t (.c (.v (.bool false))))))
def ann_ref05_CanBe : Ann := ⟨fun _ => none, fun _ => none, fun _ => [], noIt, false, fun _ => none, fun _ => none⟩
theorem ev_ref05_CanBe (J : Inv) (m0 m1 m2 m3 m4 m5 m6 m7 m8 m9 m10 m11 : Int) (b0 b1 b2 b3 b4 b5 : Int) (post : DV → Prop) : evFn Try.prog tab S6 ann_ref05_CanBe J Try.f41 [.t (.a [.v (.int .i64 m0), .v (.int .i64 m1), .v (.int .i64 m2), .v (.int .i64 m3), .v (.int .i64 m4), .v (.int .i64 m5), .v (.int .i64 m6), .v (.int .i64 m7), .v (.int .i64 m8), .v (.int .i64 m9), .v (.int .i64 m10), .v (.int .i64 m11)]), .t (.a [.v (.int .i64 b0), .v (.int .i64 b1), .v (.int .i64 b2), .v (.int .i64 b3), .v (.int .i64 b4), .v (.int .i64 b5)])] post = vc_ref05_CanBe m0 m1 m2 m3 m4 m5 m6 m7 m8 m9 m10 m11 b0 b1 b2 b3 b4 b5 post := by kernel_rfl
theorem fit_ref05_CanBe : okFn ann_ref05_CanBe Try.f41 = true := by kernel_rfl
theorem lp_ref05_CanBe (J : Inv) (post : DV → Prop) : AllG J (loopsFn Try.prog tab S6 ann_ref05_CanBe J Try.f41 post) = (True) := by kernel_rfl
theorem spec_ref05_CanBe (m0 m1 m2 m3 m4 m5 m6 m7 m8 m9 m10 m11 : Int) (b0 b1 b2 b3 b4 b5 : Int) : vc_ref05_CanBe m0 m1 m2 m3 m4 m5 m6 m7 m8 m9 m10 m11 b0 b1 b2 b3 b4 b5 (fun r => LeD r (.t (.c (.v (.bool (canW (⟨m0, m1, m2, m3, m4, m5, m6, m7, m8, m9, m10, m11⟩ : TMod) (⟨⟨b0, b1, b2⟩, ⟨b3, b4, b5⟩⟩ : TBox))))))) := by
 unfold vc_ref05_CanBe
 refine cond_i (fun h => LeD.of ?_) (fun h => ⟨rfl, LeD.of ?_⟩)
 ·have h := of_decide_eq_true h
  unfold canW
  rw [decide_eq_true h]; rfl
 ·have h := of_decide_eq_false h
  unfold canW
  rw [decide_eq_false h]; rfl
def con_ref05_CanBe : Con := fun args => match args with
 | [.t (.a [.v (.int .i64 m0), .v (.int .i64 m1), .v (.int .i64 m2), .v (.int .i64 m3), .v (.int .i64 m4), .v (.int .i64 m5), .v (.int .i64 m6), .v (.int .i64 m7), .v (.int .i64 m8), .v (.int .i64 m9), .v (.int .i64 m10), .v (.int .i64 m11)]), .t (.a [.v (.int .i64 b0), .v (.int .i64 b1), .v (.int .i64 b2), .v (.int .i64 b3), .v (.int .i64 b4), .v (.int .i64 b5)])] => some (.t (.c (.v (.bool (canW (⟨m0, m1, m2, m3, m4, m5, m6, m7, m8, m9, m10, m11⟩ : TMod) (⟨⟨b0, b1, b2⟩, ⟨b3, b4, b5⟩⟩ : TBox))))), none, false)
 | _ => none
theorem ok_ref05_CanBe : Ok Try.prog 41 con_ref05_CanBe := by
 refine Ok.fn (ann := ann_ref05_CanBe) mixed tabOK VS6 ValidIt.no (fn := Try.f41) (by kernel_rfl) (by kernel_rfl) fit_ref05_CanBe fun args r pre fresh h hp => ?_
 unfold con_ref05_CanBe at h
 split at h
 ·rename_i m0 m1 m2 m3 m4 m5 m6 m7 m8 m9 m10 m11 b0 b1 b2 b3 b4 b5
  cases h
  refine ⟨rfl, fun _ _ _ => False, _, LeA.refl _, Nat.le_of_ble_eq_true (by kernel_rfl), ?_, ?_⟩
  ·rw [ev_ref05_CanBe]; exact spec_ref05_CanBe m0 m1 m2 m3 m4 m5 m6 m7 m8 m9 m10 m11 b0 b1 b2 b3 b4 b5
  ·rw [lp_ref05_CanBe]; trivial
 ·cases h
def S7 : Sum := addS S6 41 con_ref05_CanBe
theorem VS7 : Valid Try.prog S7 := Valid.add VS6 ok_ref05_CanBe
end Go.Proofs.Ytlmdmpjfehpjeaa
set_option linter.unusedVariables false
set_option linter.unusedSimpArgs false
namespace Go.Proofs.Ytlmdmpjfehpjeaa
open Go.RowKit
set_option maxRecDepth 100000 in
set_option maxHeartbeats 4000000 in
theorem track_openBox (m : TMod) (b : TBox) (w : World) :
  Calls Try.prog 92 #[m.v, b.v] w fun e w' => e = .returned (.tuple #[m.v, .int .i64 (firstNZ [m.err, b.err])]) ∧ Below w.heap.size w w' := by
 have HO : Hid (∀ W, Calls Try.prog 119 #[m.v] W fun e w' => e = .returned (.tuple #[m.v, .int .i64 m.err]) ∧ Below W.heap.size W w') := hid (fun W => track_open m W)
 have HC : Hid (∀ W, Calls Try.prog 47 #[b.v] W fun e w' => e = .returned (.int .i64 b.err) ∧ Below W.heap.size W w') := hid (fun W => track_CheckBox b W)
 have HFI : Hid (∀ v w, IntsAt w v [m.err, b.err] → Calls Try.prog 69 #[v] w fun e w' => e = .returned (.int .i64 (firstNZ [m.err, b.err])) ∧ w = w') := hid (fun v w h => track_first _ v w h)
 generalize firstNZ [m.err, b.err] = E at HFI ⊢
 generalize m.err = EM at HO HFI
 generalize b.err = EB at HC HFI
 obtain ⟨px, py, pz, tm, tk, lo, hi, li, ea, la, no, mi⟩ := m
 obtain ⟨⟨lx, ly, lz⟩, ⟨hx, hy, hz⟩⟩ := b
 unfold TMod.v TBox.v at *
 simp only at *
 obtain ⟨W0, hW0⟩ : ∃ W0, W0 = ((w.alloc (.cells #[.int .i64 px, .int .i64 py, .int .i64 pz, .int .i64 tm, .int .i64 tk, .int .i64 lo, .int .i64 hi, .int .i64 li, .int .i64 ea, .int .i64 la, .int .i64 no, .int .i64 mi] 26)).alloc (.cells #[.int .i64 lx, .int .i64 ly, .int .i64 lz, .int .i64 hx, .int .i64 hy, .int .i64 hz] 75)).alloc (.cells #[.int .i64 0, .int .i64 0, .int .i64 0, .int .i64 0, .int .i64 0, .int .i64 0, .int .i64 0, .int .i64 0, .int .i64 0, .int .i64 0, .int .i64 0, .int .i64 0] 134) := ⟨_, rfl⟩
 have hbW0 : Below w.heap.size w W0 := by rw [hW0]; exact BelowA
 obtain ⟨q0, q1, q2⟩ := al3 w _ _ _ _ _ _ W0 hW0
 have l1 := (Array.getElem?_eq_some_iff.1 q1).1
 have l2 := (Array.getElem?_eq_some_iff.1 q2).1
 have Q1 := hid q1
 have Q2 := hid q2
 have hzW0 := hbW0.size
 clear q0 q1 q2
 go_enter Try.func92, Try.ntmps92
 go_wp2_with (go_at_call 119; rw [← hW0]; refine (HO.out _).mono ?_; rintro _ w1 ⟨rfl, hb1⟩)
 have hz1 : W0.heap.size ≤ w1.heap.size := hb1.size
 obtain ⟨W2, hW2⟩ : ∃ W2, W2 = w1.alloc (.cells #[.int .i64 px, .int .i64 py, .int .i64 pz, .int .i64 tm, .int .i64 tk, .int .i64 lo, .int .i64 hi, .int .i64 li, .int .i64 ea, .int .i64 la, .int .i64 no, .int .i64 mi] 134) := ⟨_, rfl⟩
 have hb12 : Below w1.heap.size w1 W2 := by rw [hW2]; exact BelowA
 have hb02 : Below W0.heap.size W0 W2 := hb1.trans (hb12.mono hz1)
 have r0 : W2.heap[w1.heap.size]? = some (.cells #[.int .i64 px, .int .i64 py, .int .i64 pz, .int .i64 tm, .int .i64 tk, .int .i64 lo, .int .i64 hi, .int .i64 li, .int .i64 ea, .int .i64 la, .int .i64 no, .int .i64 mi] 134 (0, 0)) := by rw [hW2]; exact heap_alloc_new w1 _
 rw [← hW2]
 clear hW2 hW0
 obtain ⟨m0, m1, m2, m3, m4, m5, m6, m7, m8, m9, m10, m11, ml⟩ := tw_cells (r0)
 obtain ⟨b0, b1, b2, b3, b4, b5, hlb⟩ := six_row ((hb02.block (w.heap.size + 1) l1).trans Q1.out)
 have R2 := hid ((hb02.block (w.heap.size + 1 + 1) l2).trans Q2.out)
 have hl2 := (Array.getElem?_eq_some_iff.1 R2.out).1
 have hbw2 : Below w.heap.size w W2 := hbW0.trans (hb02.mono hzW0)
 clear r0
 have fin : ∀ w5 : World, Below W2.heap.size W2 w5 → Below w.heap.size w w5 := fun w5 h => hbw2.trans (h.mono hbw2.size)
 refine wp_mixC (KeepB [w1.heap.size, w.heap.size + 1] W2) 7 [.q [0, 1, 2], .f [3, 4, 5, 6]] [.q [7]] (by kernel_rfl) (by kernel_rfl) ((KeepB.refl (by first | (simp; done) | (simp; omega))).drew) ?_
 intro Q' hQ'
 (rw [wpMixC]; simp only [pick, List.drop_succ_cons, List.drop_zero, List.head?_cons, Option.toList_some, List.cons_append, List.nil_append])
 (repeat (first | go_big_quiet_skip | (go_big_quiet_want; refine quiet_simple rfl ?_; go_big_quiet_op; go_big_quiet_on) | (go_big_quiet_want; refine quiet_agg6K (ty := 75) rfl rfl (by kernel_rfl) (by assumption) (by assumption) (by assumption) (by assumption) (by assumption) (by assumption) (by simp) ?_; simp only [Act.put, List.setIfInBounds_toArray, List.set_cons_succ, List.set_cons_zero]; go_big_quiet_on) | (go_big_quiet_want; refine quiet_agg12K (ty := 134) rfl rfl (by kernel_rfl) (by assumption) (by assumption) (by assumption) (by assumption) (by assumption) (by assumption) (by assumption) (by assumption) (by assumption) (by assumption) (by assumption) (by assumption) (by simp) ?_; simp only [Act.put, List.setIfInBounds_toArray, List.set_cons_succ, List.set_cons_zero]; go_big_quiet_on)))
 (try refine wpQuiet_nil ?_)
 (rw [wpMixC]; simp only [pick, List.drop_succ_cons, List.drop_zero, List.head?_cons, Option.toList_some, List.cons_append, List.nil_append])
 (rw [wpSteps]; go_wp2_with ((go_at_call 47; refine (HC.out _).mono ?_; rintro _ w3 ⟨rfl, hb3⟩)); rw [contF]; refine ⟨?_, ?_⟩; (next => exact KeepA))
 (rw [wpSteps]; go_wp2_with (fail); rw [contF]; refine ⟨?_, ?_⟩; (next => exact KeepA))
 (rw [wpSteps]; go_wp2_with ((go_at_call 69; have hb24 : Below W2.heap.size W2 w3 := (by exact BelowA); obtain ⟨g0, g1, g2, g3, g4, g5, g6, g7, g8, g9, g10, g11, gl⟩ := tw_cells ((hb24.block (w.heap.size + 1 + 1) hl2).trans R2.out); obtain ⟨fg0, fg1, fg2, fg3, fg4, fg5, fg6, fg7, fg8, fg9, fg10, fg11⟩ := tw_frozen ((hb24.block (w.heap.size + 1 + 1) hl2).trans R2.out); have HB04 := hid (fin _ hb24); refine (HFI.out _ _ (intsAt_new _ _ _ _ _ rfl (by simp) (by first | rfl | simp))).mono ?_; rintro _ _ ⟨rfl, rfl⟩)); rw [contF]; refine ⟨?_, ?_⟩; (next => exact KeepA))
 (rw [wpSteps]; go_wp2_with (fail); rw [contF]; refine ⟨?_, ?_⟩; (next => exact KeepA))
 (rw [wpSteps])
 (rw [wpMixC])
 (rw [wpMix]; simp only [pick, List.drop_succ_cons, List.drop_zero, List.head?_cons, Option.toList_some, List.cons_append, List.nil_append])
 (repeat (first | (go_big_quiet_step (fail)) | (quiet_step (fail))))
 (try refine wpQuiet_nil ?_)
 (rw [wpMix])
 (refine hQ' _ _ ?_)
 go_wp2_with fail
 have hb04 := HB04.out
 ((try simp only [Exit.inBlock, Exit.then]); refine bodyPost_ret (v := .tuple #[.agg #[.int .i64 px, .int .i64 py, .int .i64 pz, .int .i64 tm, .int .i64 tk, .int .i64 lo, .int .i64 hi, .int .i64 li, .int .i64 ea, .int .i64 la, .int .i64 no, .int .i64 mi], .int .i64 E]) ?_ rfl ?_; (next => simp [results, Try.results92, go_sem, gl, g0, g1, g2, g3, g4, g5, g6, g7, g8, g9, g10, g11]); refine ⟨?_, ?_⟩; (next => rfl); (next => exact BelowA))
set_option maxRecDepth 100000 in
set_option maxHeartbeats 4000000 in
theorem track_openHits (m : TMod) (b : TBox) (l : List THit) (v : Value) (w : World) (h : HitsAt w v l) :
  Calls Try.prog 95 #[m.v, b.v, v] w fun e w' => e = .returned (.tuple #[m.v, .int .i64 (firstNZ [firstNZ [m.err, b.err], hitsE l])]) ∧ Below w.heap.size w w' := by
 have HO : Hid (∀ W, Calls Try.prog 92 #[m.v, b.v] W fun e w' => e = .returned (.tuple #[m.v, .int .i64 (firstNZ [m.err, b.err])]) ∧ Below W.heap.size W w') := hid (fun W => track_openBox m b W)
 have HC : Hid (∀ W, Below w.heap.size w W → Calls Try.prog 89 #[v] W fun e w' => e = .returned (.int .i64 (hitsE l)) ∧ Below W.heap.size W w') := hid (fun W hb => track_hitsErr l v W (h.below hb))
 have HFI : Hid (∀ v w, IntsAt w v [firstNZ [m.err, b.err], hitsE l] → Calls Try.prog 69 #[v] w fun e w' => e = .returned (.int .i64 (firstNZ [firstNZ [m.err, b.err], hitsE l])) ∧ w = w') := hid (fun v w h => track_first _ v w h)
 obtain ⟨ao, cap, rfl, _, _, _⟩ := h.opn
 clear h
 generalize firstNZ [firstNZ [m.err, b.err], hitsE l] = E at HFI ⊢
 generalize firstNZ [m.err, b.err] = EM at HO HFI
 generalize hitsE l = EB at HC HFI
 obtain ⟨px, py, pz, tm, tk, lo, hi, li, ea, la, no, mi⟩ := m
 obtain ⟨⟨lx, ly, lz⟩, ⟨hx, hy, hz⟩⟩ := b
 unfold TMod.v TBox.v at *
 simp only at *
 obtain ⟨W0, hW0⟩ : ∃ W0, W0 = ((w.alloc (.cells #[.int .i64 px, .int .i64 py, .int .i64 pz, .int .i64 tm, .int .i64 tk, .int .i64 lo, .int .i64 hi, .int .i64 li, .int .i64 ea, .int .i64 la, .int .i64 no, .int .i64 mi] 26)).alloc (.cells #[.int .i64 lx, .int .i64 ly, .int .i64 lz, .int .i64 hx, .int .i64 hy, .int .i64 hz] 75)).alloc (.cells #[.int .i64 0, .int .i64 0, .int .i64 0, .int .i64 0, .int .i64 0, .int .i64 0, .int .i64 0, .int .i64 0, .int .i64 0, .int .i64 0, .int .i64 0, .int .i64 0] 134) := ⟨_, rfl⟩
 have hbW0 : Below w.heap.size w W0 := by rw [hW0]; exact BelowA
 obtain ⟨q0, q1, q2⟩ := al3 w _ _ _ _ _ _ W0 hW0
 have l1 := (Array.getElem?_eq_some_iff.1 q1).1
 have l2 := (Array.getElem?_eq_some_iff.1 q2).1
 have Q1 := hid q1
 have Q2 := hid q2
 have hzW0 := hbW0.size
 clear q0 q1 q2
 go_enter Try.func95, Try.ntmps95
 go_wp2_with (go_at_call 92; rw [← hW0]; refine (HO.out _).mono ?_; rintro _ w1 ⟨rfl, hb1⟩)
 have hz1 : W0.heap.size ≤ w1.heap.size := hb1.size
 obtain ⟨W2, hW2⟩ : ∃ W2, W2 = w1.alloc (.cells #[.int .i64 px, .int .i64 py, .int .i64 pz, .int .i64 tm, .int .i64 tk, .int .i64 lo, .int .i64 hi, .int .i64 li, .int .i64 ea, .int .i64 la, .int .i64 no, .int .i64 mi] 134) := ⟨_, rfl⟩
 have hb12 : Below w1.heap.size w1 W2 := by rw [hW2]; exact BelowA
 have hb02 : Below W0.heap.size W0 W2 := hb1.trans (hb12.mono hz1)
 have r0 : W2.heap[w1.heap.size]? = some (.cells #[.int .i64 px, .int .i64 py, .int .i64 pz, .int .i64 tm, .int .i64 tk, .int .i64 lo, .int .i64 hi, .int .i64 li, .int .i64 ea, .int .i64 la, .int .i64 no, .int .i64 mi] 134 (0, 0)) := by rw [hW2]; exact heap_alloc_new w1 _
 rw [← hW2]
 clear hW2 hW0
 obtain ⟨m0, m1, m2, m3, m4, m5, m6, m7, m8, m9, m10, m11, ml⟩ := tw_cells (r0)
 have hlb : w.heap.size + 1 < W2.heap.size := by omega
 have R2 := hid ((hb02.block (w.heap.size + 1 + 1) l2).trans Q2.out)
 have hl2 := (Array.getElem?_eq_some_iff.1 R2.out).1
 have hbw2 : Below w.heap.size w W2 := hbW0.trans (hb02.mono hzW0)
 clear r0
 have fin : ∀ w5 : World, Below W2.heap.size W2 w5 → Below w.heap.size w w5 := fun w5 h => hbw2.trans (h.mono hbw2.size)
 refine wp_mixC (KeepB [w1.heap.size] W2) 7 [.q [0, 1, 2], .f [3, 4, 5, 6]] [.q [7]] (by kernel_rfl) (by kernel_rfl) ((KeepB.refl (by first | (simp; done) | (simp; omega))).drew) ?_
 intro Q' hQ'
 (rw [wpMixC]; simp only [pick, List.drop_succ_cons, List.drop_zero, List.head?_cons, Option.toList_some, List.cons_append, List.nil_append])
 (repeat (first | go_big_quiet_skip | (go_big_quiet_want; refine quiet_simple rfl ?_; go_big_quiet_op; go_big_quiet_on) | (go_big_quiet_want; refine quiet_agg12K (ty := 134) rfl rfl (by kernel_rfl) (by assumption) (by assumption) (by assumption) (by assumption) (by assumption) (by assumption) (by assumption) (by assumption) (by assumption) (by assumption) (by assumption) (by assumption) (by simp) ?_; simp only [Act.put, List.setIfInBounds_toArray, List.set_cons_succ, List.set_cons_zero]; go_big_quiet_on)))
 (try refine wpQuiet_nil ?_)
 (rw [wpMixC]; simp only [pick, List.drop_succ_cons, List.drop_zero, List.head?_cons, Option.toList_some, List.cons_append, List.nil_append])
 (rw [wpSteps]; go_wp2_with ((go_at_call 89; refine (HC.out _ (fin _ (by exact BelowA))).mono ?_; rintro _ w3 ⟨rfl, hb3⟩)); rw [contF]; refine ⟨?_, ?_⟩; (next => exact KeepA))
 (rw [wpSteps]; go_wp2_with (fail); rw [contF]; refine ⟨?_, ?_⟩; (next => exact KeepA))
 (rw [wpSteps]; go_wp2_with ((go_at_call 69; have hb24 : Below W2.heap.size W2 w3 := (by exact BelowA); obtain ⟨g0, g1, g2, g3, g4, g5, g6, g7, g8, g9, g10, g11, gl⟩ := tw_cells ((hb24.block (w.heap.size + 1 + 1) hl2).trans R2.out); obtain ⟨fg0, fg1, fg2, fg3, fg4, fg5, fg6, fg7, fg8, fg9, fg10, fg11⟩ := tw_frozen ((hb24.block (w.heap.size + 1 + 1) hl2).trans R2.out); have HB04 := hid (fin _ hb24); refine (HFI.out _ _ (intsAt_new _ _ _ _ _ rfl (by simp) (by first | rfl | simp))).mono ?_; rintro _ _ ⟨rfl, rfl⟩)); rw [contF]; refine ⟨?_, ?_⟩; (next => exact KeepA))
 (rw [wpSteps]; go_wp2_with (fail); rw [contF]; refine ⟨?_, ?_⟩; (next => exact KeepA))
 (rw [wpSteps])
 (rw [wpMixC])
 (rw [wpMix]; simp only [pick, List.drop_succ_cons, List.drop_zero, List.head?_cons, Option.toList_some, List.cons_append, List.nil_append])
 (repeat (first | (go_big_quiet_step (fail)) | (quiet_step (fail))))
 (try refine wpQuiet_nil ?_)
 (rw [wpMix])
 (refine hQ' _ _ ?_)
 go_wp2_with fail
 have hb04 := HB04.out
 ((try simp only [Exit.inBlock, Exit.then]); refine bodyPost_ret (v := .tuple #[.agg #[.int .i64 px, .int .i64 py, .int .i64 pz, .int .i64 tm, .int .i64 tk, .int .i64 lo, .int .i64 hi, .int .i64 li, .int .i64 ea, .int .i64 la, .int .i64 no, .int .i64 mi], .int .i64 E]) ?_ rfl ?_; (next => simp [results, Try.results95, go_sem, gl, g0, g1, g2, g3, g4, g5, g6, g7, g8, g9, g10, g11]); refine ⟨?_, ?_⟩; (next => rfl); (next => exact BelowA))
end Go.Proofs.Ytlmdmpjfehpjeaa
set_option linter.unusedVariables false
set_option linter.unusedSimpArgs false
namespace Go.Proofs.Ytlmdmpjfehpjeaa
open Go.RowKit
def Rg.v (r : Rg) : Value := .agg #[.int .i64 r.lo, .int .i64 r.hi]
set_option maxRecDepth 100000 in
set_option maxHeartbeats 4000000 in
theorem track_plus (r s : Rg) (w : World) (h1 : -4000000000000000000 ≤ r.lo ∧ r.lo ≤ 4000000000000000000) (h2 : -4000000000000000000 ≤ r.hi ∧ r.hi ≤ 4000000000000000000) (h3 : -4000000000000000000 ≤ s.lo ∧ s.lo ≤ 4000000000000000000) (h4 : -4000000000000000000 ≤ s.hi ∧ s.hi ≤ 4000000000000000000) :
  Calls Try.prog 129 #[r.v, s.v] w fun e w' => e = .returned (r.plus s).v ∧ Below w.heap.size w w' := by
 obtain ⟨a, b⟩ := r
 obtain ⟨c, d⟩ := s
 unfold Rg.v Rg.plus
 simp only at *
 go_enter Try.func129, Try.ntmps129
 go_wp2_with fail
 ((try simp only [Exit.inBlock, Exit.then]); refine bodyPost_ret (v := .agg #[.int .i64 (a + c), .int .i64 (b + d)]) ?_ rfl ?_; (next => simp [results, Try.results129, go_sem]); refine ⟨?_, ?_⟩; (next => rfl); (next => exact BelowA))
set_option maxRecDepth 100000 in
set_option maxHeartbeats 4000000 in
theorem track_square (r : Rg) (w : World) (h1 : -3000000000 ≤ r.lo ∧ r.lo ≤ 3000000000) (h2 : -3000000000 ≤ r.hi ∧ r.hi ≤ 3000000000) :
  Calls Try.prog 130 #[r.v] w fun e w' => e = .returned r.square.v ∧ Below w.heap.size w w' := by
 obtain ⟨a, b⟩ := r
 simp only at *
 have g1 := mul_rg h1 h1 (C := 9000000000000000000) (by decide)
 have g2 := mul_rg h2 h2 (C := 9000000000000000000) (by decide)
 have HV : Hid ((⟨a, b⟩ : Rg).square = if a ≤ 0 ∧ 0 ≤ b then ⟨0, max (a * a) (b * b)⟩ else ⟨min (a * a) (b * b), max (a * a) (b * b)⟩) := hid rfl
 obtain ⟨A, hA⟩ : ∃ A, a * a = A := ⟨_, rfl⟩
 obtain ⟨B, hB⟩ : ∃ B, b * b = B := ⟨_, rfl⟩
 have k1 : IntKind.i64.wrap (a * a) = A := by rw [hA]; exact IntWalk.i64_in _ (by omega)
 have k2 : IntKind.i64.wrap (b * b) = B := by rw [hB]; exact IntWalk.i64_in _ (by omega)
 rw [hA] at g1 HV
 rw [hB] at g2 HV
 generalize (⟨a, b⟩ : Rg).square = Q at HV ⊢
 unfold Rg.v
 simp only
 obtain ⟨W, hW⟩ : ∃ W, W = (w.alloc (.cells #[.int .i64 a, .int .i64 b] 157)).alloc (.cells #[.int .i64 0, .int .i64 0] 157) := ⟨_, rfl⟩
 have hbW : Below w.heap.size w W := by rw [hW]; exact BelowA
 obtain ⟨q0, q1, l0, l1⟩ := al2 w _ _ _ _ W hW
 obtain ⟨c0, c1, fc0, fc1, hlc⟩ := two_cells q0
 obtain ⟨g0, g1', fg0, fg1, hlg⟩ := two_cells q1
 clear q0 q1 hA hB fc0 fc1
 by_cases p1 : a ≤ 0
 ·by_cases p2 : 0 ≤ b
  ·have HQ : Hid (Q.lo = 0 ∧ Q.hi = max A B) := hid (by rw [HV.out, if_pos ⟨p1, p2⟩]; exact ⟨rfl, rfl⟩)
   go_enter Try.func130, Try.ntmps130
   go_wp2_with fail
   rw [← hW]
   clear hW
   refine wp_mixC (fun wc => Below (W.heap.size) W wc) 11 [.q [0, 1, 2, 3, 4, 5, 6, 7, 8, 9, 10]] [.q [11]] (by kernel_rfl) (by kernel_rfl) ((Below.refl _ _).drew) ?_
   intro Q' hQ'
   (rw [wpMixC]; simp only [pick, List.drop_succ_cons, List.drop_zero, List.head?_cons, Option.toList_some, List.cons_append, List.nil_append])
   (repeat (first | go_big_quiet_skip | (go_big_quiet_want; refine quiet_simple rfl ?_; go_big_quiet_op; go_big_quiet_on) | (go_big_quiet_want; refine quiet_cellB (ty := 3) rfl rfl (by kernel_rfl) (by assumption) (by first | omega | (simp; omega)) ?_; simp only [Act.put, List.setIfInBounds_toArray, List.set_cons_succ, List.set_cons_zero]; go_big_quiet_on)))
   (try refine wpQuiet_nil ?_)
   (rw [wpMixC])
   (rw [wpMix]; simp only [pick, List.drop_succ_cons, List.drop_zero, List.head?_cons, Option.toList_some, List.cons_append, List.nil_append])
   (repeat (first | (go_big_quiet_step (fail)) | (quiet_step (fail))))
   (try refine wpQuiet_nil ?_)
   (rw [wpMix])
   (refine hQ' _ _ ?_)
   go_wp2_with fail
   all_goals
    ((try simp only [Exit.inBlock, Exit.then]); refine bodyPost_ret (v := .agg #[.int .i64 0, .int .i64 (max A B)]) ?_ rfl ?_; (next => (simp [results, Try.results130, go_sem, hlg, g0, g1'] <;> omega)))
    exact ⟨by rw [HQ.out.1, HQ.out.2], by exact BelowA⟩
  ·have HQ : Hid (Q.lo = min A B ∧ Q.hi = max A B) := hid (by rw [HV.out, if_neg (fun h => p2 h.2)]; exact ⟨rfl, rfl⟩)
   go_enter Try.func130, Try.ntmps130
   go_wp2_with fail
   rw [← hW]
   clear hW
   refine wp_mixC (fun wc => Below (W.heap.size) W wc) 11 [.q [0, 1, 2, 3, 4, 5, 6, 7, 8, 9, 10]] [.q [11]] (by kernel_rfl) (by kernel_rfl) ((Below.refl _ _).drew) ?_
   intro Q' hQ'
   (rw [wpMixC]; simp only [pick, List.drop_succ_cons, List.drop_zero, List.head?_cons, Option.toList_some, List.cons_append, List.nil_append])
   (repeat (first | go_big_quiet_skip | (go_big_quiet_want; refine quiet_simple rfl ?_; go_big_quiet_op; go_big_quiet_on) | (go_big_quiet_want; refine quiet_cellB (ty := 3) rfl rfl (by kernel_rfl) (by assumption) (by first | omega | (simp; omega)) ?_; simp only [Act.put, List.setIfInBounds_toArray, List.set_cons_succ, List.set_cons_zero]; go_big_quiet_on)))
   (try refine wpQuiet_nil ?_)
   (rw [wpMixC])
   (rw [wpMix]; simp only [pick, List.drop_succ_cons, List.drop_zero, List.head?_cons, Option.toList_some, List.cons_append, List.nil_append])
   (repeat (first | (go_big_quiet_step (fail)) | (quiet_step (fail))))
   (try refine wpQuiet_nil ?_)
   (rw [wpMix])
   (refine hQ' _ _ ?_)
   go_wp2_with fail
   all_goals
    ((try simp only [Exit.inBlock, Exit.then]); refine bodyPost_ret (v := .agg #[.int .i64 (min A B), .int .i64 (max A B)]) ?_ rfl ?_; (next => (simp [results, Try.results130, go_sem, hlg, g0, g1'] <;> omega)))
    exact ⟨by rw [HQ.out.1, HQ.out.2], by exact BelowA⟩
 ·have HQ : Hid (Q.lo = min A B ∧ Q.hi = max A B) := hid (by rw [HV.out, if_neg (fun h => p1 h.1)]; exact ⟨rfl, rfl⟩)
  go_enter Try.func130, Try.ntmps130
  go_wp2_with fail
  rw [← hW]
  clear hW
  refine wp_mixC (fun wc => Below (W.heap.size) W wc) 11 [.q [0, 1, 2, 3, 4, 5, 6, 7, 8, 9, 10]] [.q [11]] (by kernel_rfl) (by kernel_rfl) ((Below.refl _ _).drew) ?_
  intro Q' hQ'
  (rw [wpMixC]; simp only [pick, List.drop_succ_cons, List.drop_zero, List.head?_cons, Option.toList_some, List.cons_append, List.nil_append])
  (repeat (first | go_big_quiet_skip | (go_big_quiet_want; refine quiet_simple rfl ?_; go_big_quiet_op; go_big_quiet_on) | (go_big_quiet_want; refine quiet_cellB (ty := 3) rfl rfl (by kernel_rfl) (by assumption) (by first | omega | (simp; omega)) ?_; simp only [Act.put, List.setIfInBounds_toArray, List.set_cons_succ, List.set_cons_zero]; go_big_quiet_on)))
  (try refine wpQuiet_nil ?_)
  (rw [wpMixC])
  (rw [wpMix]; simp only [pick, List.drop_succ_cons, List.drop_zero, List.head?_cons, Option.toList_some, List.cons_append, List.nil_append])
  (repeat (first | (go_big_quiet_step (fail)) | (quiet_step (fail))))
  (try refine wpQuiet_nil ?_)
  (rw [wpMix])
  (refine hQ' _ _ ?_)
  go_wp2_with fail
  all_goals
   ((try simp only [Exit.inBlock, Exit.then]); refine bodyPost_ret (v := .agg #[.int .i64 (min A B), .int .i64 (max A B)]) ?_ rfl ?_; (next => (simp [results, Try.results130, go_sem, hlg, g0, g1'] <;> omega)))
   exact ⟨by rw [HQ.out.1, HQ.out.2], by exact BelowA⟩
set_option maxRecDepth 100000 in
set_option maxHeartbeats 4000000 in
theorem slices_Min (a b c d : Int) (v : Value) (w : World) (h : IntsAt w v [a, b, c, d]) :
  Calls Try.prog 145 #[v] w fun e w' => e = .returned (.int .i64 (mn4 a b c d)) ∧ Below w.heap.size w w' := by
 obtain ⟨ao, cap, rfl, h1, h2, h3⟩ := h.opn
 obtain ⟨g, off, rfl, hb, hc⟩ := h3 0 (by simp)
 have c0 := hc 0 (by simp)
 have c1 := hc 1 (by simp)
 have c2 := hc 2 (by simp)
 have c3 := hc 3 (by simp)
 rw [show nth [a, b, c, d] 0 = a from rfl, Nat.add_zero] at c0
 rw [show nth [a, b, c, d] 1 = b from rfl] at c1
 rw [show nth [a, b, c, d] 2 = c from rfl] at c2
 rw [show nth [a, b, c, d] 3 = d from rfl] at c3
 have HV : Hid (mn4 a b c d = min (min (min a b) c) d) := hid rfl
 generalize mn4 a b c d = R at HV ⊢
 simp only [List.length_cons, List.length_nil, Nat.zero_add, Nat.reduceAdd] at *
 clear hc h3 h
 unfold maxLen at h2
 go_enter Try.func145, Try.ntmps145
 go_wp2_with fail
 refine wp_loop_rounds 4 ?_
 repeat any_goals (rw [rounds_succ]; go_wp2_with fail)
 all_goals go_ret
 all_goals exact ⟨ret_int (by rw [HV.out]; omega), Below.refl _ _⟩
set_option maxRecDepth 100000 in
set_option maxHeartbeats 4000000 in
theorem slices_Max (a b c d : Int) (v : Value) (w : World) (h : IntsAt w v [a, b, c, d]) :
  Calls Try.prog 146 #[v] w fun e w' => e = .returned (.int .i64 (mx4 a b c d)) ∧ Below w.heap.size w w' := by
 obtain ⟨ao, cap, rfl, h1, h2, h3⟩ := h.opn
 obtain ⟨g, off, rfl, hb, hc⟩ := h3 0 (by simp)
 have c0 := hc 0 (by simp)
 have c1 := hc 1 (by simp)
 have c2 := hc 2 (by simp)
 have c3 := hc 3 (by simp)
 rw [show nth [a, b, c, d] 0 = a from rfl, Nat.add_zero] at c0
 rw [show nth [a, b, c, d] 1 = b from rfl] at c1
 rw [show nth [a, b, c, d] 2 = c from rfl] at c2
 rw [show nth [a, b, c, d] 3 = d from rfl] at c3
 have HV : Hid (mx4 a b c d = max (max (max a b) c) d) := hid rfl
 generalize mx4 a b c d = R at HV ⊢
 simp only [List.length_cons, List.length_nil, Nat.zero_add, Nat.reduceAdd] at *
 clear hc h3 h
 unfold maxLen at h2
 go_enter Try.func146, Try.ntmps146
 go_wp2_with fail
 refine wp_loop_rounds 4 ?_
 repeat any_goals (rw [rounds_succ]; go_wp2_with fail)
 all_goals go_ret
 all_goals exact ⟨ret_int (by rw [HV.out]; omega), Below.refl _ _⟩
end Go.Proofs.Ytlmdmpjfehpjeaa
set_option linter.unusedVariables false
set_option linter.unusedSimpArgs false
namespace Go.Proofs.Ytlmdmpjfehpjeaa
open Go.RowKit
theorem run_sl4 (b : Nat) (w : World) : (Instr.sliceAt 128 (.pointer (some ⟨b, 0, none⟩)) none none none).run Try.prog w = .ok (.slice (some ⟨b, 0, none⟩) 4 4) w := by kernel_rfl
theorem quiet_sl128 {o : Oper} {a : Act} {C : World → Prop} {K : Act → Prop} {x : Operand} {b : Nat} (ho : o.op = .slice 128 x none none none) (hx : a.eval x = .pointer (some ⟨b, 0, none⟩)) (hK : K (a.put o.dst (.slice (some ⟨b, 0, none⟩) 4 4))) : o.quiet Try.prog a C K :=
 quiet_val _ (fun w _ => by
  unfold execOp
  simp only [ho, hx, Option.map_none]
  simp [go_sem, run_sl4]) hK
set_option maxRecDepth 100000 in
set_option maxHeartbeats 4000000 in
theorem track_times (r s : Rg) (w : World) (h1 : -4000000000000000000 ≤ r.lo * s.lo ∧ r.lo * s.lo ≤ 4000000000000000000) (h2 : -4000000000000000000 ≤ r.lo * s.hi ∧ r.lo * s.hi ≤ 4000000000000000000) (h3 : -4000000000000000000 ≤ r.hi * s.lo ∧ r.hi * s.lo ≤ 4000000000000000000) (h4 : -4000000000000000000 ≤ r.hi * s.hi ∧ r.hi * s.hi ≤ 4000000000000000000) :
  Calls Try.prog 131 #[r.v, s.v] w fun e w' => e = .returned (r.times s).v ∧ Below w.heap.size w w' := by
 have HV : Hid ((r.times s).lo = mn4 (r.lo * s.lo) (r.lo * s.hi) (r.hi * s.lo) (r.hi * s.hi) ∧ (r.times s).hi = mx4 (r.lo * s.lo) (r.lo * s.hi) (r.hi * s.lo) (r.hi * s.hi)) := hid ⟨rfl, rfl⟩
 generalize r.times s = T at HV ⊢
 obtain ⟨a, b⟩ := r
 obtain ⟨c, d⟩ := s
 simp only at *
 obtain ⟨P1, hP1⟩ : ∃ P, a * c = P := ⟨_, rfl⟩
 obtain ⟨P2, hP2⟩ : ∃ P, a * d = P := ⟨_, rfl⟩
 obtain ⟨P3, hP3⟩ : ∃ P, b * c = P := ⟨_, rfl⟩
 obtain ⟨P4, hP4⟩ : ∃ P, b * d = P := ⟨_, rfl⟩
 rw [hP1] at h1 HV
 rw [hP2] at h2 HV
 rw [hP3] at h3 HV
 rw [hP4] at h4 HV
 have HMIN : Hid (∀ (v : Value) (w : World), IntsAt w v [P1, P2, P3, P4] → Calls Try.prog 145 #[v] w fun e w' => e = .returned (.int .i64 T.lo) ∧ Below w.heap.size w w') := hid (fun v w h => by rw [HV.out.1]; exact slices_Min _ _ _ _ v w h)
 have HMAX : Hid (∀ (v : Value) (w : World), IntsAt w v [P1, P2, P3, P4] → Calls Try.prog 146 #[v] w fun e w' => e = .returned (.int .i64 T.hi) ∧ Below w.heap.size w w') := hid (fun v w h => by rw [HV.out.2]; exact slices_Max _ _ _ _ v w h)
 clear HV
 obtain ⟨tl, th⟩ := T
 unfold Rg.v
 simp only at *
 obtain ⟨W0, hW0⟩ : ∃ W0, W0 = ((w.alloc (.cells #[.int .i64 a, .int .i64 b] 157)).alloc (.cells #[.int .i64 c, .int .i64 d] 157)).alloc (.cells #[.int .i64 0, .int .i64 0] 157) := ⟨_, rfl⟩
 have hbW0 : Below w.heap.size w W0 := by rw [hW0]; exact BelowA
 obtain ⟨q0, q1, q2⟩ := al3 w _ _ _ _ _ _ W0 hW0
 have l2 := (Array.getElem?_eq_some_iff.1 q2).1
 have Q2 := hid q2
 have hzW0 := hbW0.size
 clear q0 q1 q2
 go_enter Try.func131, Try.ntmps131
 go_wp2_with fail
 rw [← hW0]
 obtain ⟨W, hW⟩ : ∃ W, W = W0.alloc (.cells #[.int .i64 P1, .int .i64 P2, .int .i64 P3, .int .i64 P4] 128) := ⟨_, rfl⟩
 have hbW : Below W0.heap.size W0 W := by rw [hW]; exact BelowA
 have HI : Hid (∀ W', Below W.heap.size W W' → IntsAt W' (.slice (some ⟨W0.heap.size, 0, none⟩) 4 4) [P1, P2, P3, P4]) := hid (fun W' h => ((by rw [hW]; exact intsAt_new W0 128 [P1, P2, P3, P4] 4 W0.heap.size rfl (by omega) rfl) : IntsAt W _ _).below h)
 have R2 := hid ((hbW.block (w.heap.size + 1 + 1) l2).trans Q2.out)
 have hlW0 : W0.heap.size < W.heap.size := by rw [hW]; simp
 have hz0 : W0.heap.size = w.heap.size + 1 + 1 + 1 := by rw [hW0]; simp
 rw [← hW]
 rw [hz0] at HI hlW0
 clear hW hW0
 have fin : ∀ w5 : World, Below W.heap.size W w5 → Below w.heap.size w w5 := fun w5 h => (hbW0.trans (hbW.mono hzW0)).trans (h.mono (Nat.le_trans hzW0 hbW.size))
 have hlR := (Array.getElem?_eq_some_iff.1 R2.out).1
 refine wp_mixC (fun wc => Below ((w.heap.size + 1 + 1)) W wc) 5 [.q [0, 2], .f [1, 3], .q [4]] [.f [5]] (by kernel_rfl) (by kernel_rfl) ((Below.refl _ _).drew) ?_
 intro Q' hQ'
 (rw [wpMixC]; simp only [pick, List.drop_succ_cons, List.drop_zero, List.head?_cons, Option.toList_some, List.cons_append, List.nil_append])
 (repeat (first | go_big_quiet_skip | (go_big_quiet_want; refine quiet_simple rfl ?_; go_big_quiet_op; go_big_quiet_on) | (go_big_quiet_want; refine quiet_sl128 rfl rfl ?_; simp only [Act.put, List.setIfInBounds_toArray, List.set_cons_succ, List.set_cons_zero]; go_big_quiet_on)))
 (try refine wpQuiet_nil ?_)
 (rw [wpMixC]; simp only [pick, List.drop_succ_cons, List.drop_zero, List.head?_cons, Option.toList_some, List.cons_append, List.nil_append])
 (rw [wpSteps]; go_wp2_with ((go_at_call 145; have hbq : Below W.heap.size W W.drew := (by exact BelowA); ((with_reducible refine (HMIN.out _ _ (HI.out _ hbq)).mono ?_); rintro _ w3 ⟨rfl, hb3⟩); have hz3 : W.heap.size ≤ w3.heap.size := hb3.size; have hbm3 : Below (w.heap.size + 1 + 1) W w3 := ((Below.refl (w.heap.size + 1 + 1) W).drew).trans (hb3.mono (by show _ ≤ W.heap.size; omega)))); rw [contF]; refine ⟨?_, ?_⟩; (next => exact BelowA))
 (rw [wpSteps]; go_wp2_with ((go_at_call 146; have hbq3 : Below W.heap.size W w3 := (by exact BelowA); ((with_reducible refine (HMAX.out _ _ (HI.out _ hbq3)).mono ?_); rintro _ w4 ⟨rfl, hb4⟩); have hbm4 : Below (w.heap.size + 1 + 1) W w4 := hbm3.trans (hb4.mono (by omega)); obtain ⟨g0, g1, fg0, fg1, hgl⟩ := two_cells (((hbq3.trans (hb4.mono hbq3.size)).block (w.heap.size + 1 + 1) hlR).trans R2.out))); rw [contF]; refine ⟨?_, ?_⟩; (next => exact BelowA))
 (rw [wpSteps])
 (rw [wpMixC]; simp only [pick, List.drop_succ_cons, List.drop_zero, List.head?_cons, Option.toList_some, List.cons_append, List.nil_append])
 (repeat (first | go_big_quiet_skip | (go_big_quiet_want; refine quiet_simple rfl ?_; go_big_quiet_op; go_big_quiet_on) | (go_big_quiet_want; refine quiet_sl128 rfl rfl ?_; simp only [Act.put, List.setIfInBounds_toArray, List.set_cons_succ, List.set_cons_zero]; go_big_quiet_on)))
 (try refine wpQuiet_nil ?_)
 (rw [wpMixC])
 (rw [wpMix]; simp only [pick, List.drop_succ_cons, List.drop_zero, List.head?_cons, Option.toList_some, List.cons_append, List.nil_append])
 (go_wp2_with ((first | fail)); rw [contF])
 (rw [wpMix])
 (refine hQ' _ _ ?_)
 go_wp2_with fail
 have hbe := fin _ (hbq3.trans (hb4.mono hbq3.size))
 ((try simp only [Exit.inBlock, Exit.then]); refine bodyPost_ret (v := .agg #[.int .i64 tl, .int .i64 th]) ?_ rfl ?_; (next => simp [results, Try.results131, go_sem, hgl, g0, g1]); refine ⟨?_, ?_⟩; (next => rfl); (next => exact BelowA))
end Go.Proofs.Ytlmdmpjfehpjeaa
set_option linter.unusedVariables false
set_option linter.unusedSimpArgs false
namespace Go.Proofs.Ytlmdmpjfehpjeaa
open Go.RowKit
theorem Rg.square_sz {r : Rg} {A C : Int} (h1 : -A ≤ r.lo ∧ r.lo ≤ A) (h2 : -A ≤ r.hi ∧ r.hi ≤ A) (hC : A * A ≤ C) : (0 ≤ r.square.lo ∧ r.square.lo ≤ C) ∧ (0 ≤ r.square.hi ∧ r.square.hi ≤ C) := by
 have g1 := mul_rg h1 h1 hC
 have g2 := mul_rg h2 h2 hC
 have g3 := sq_nn r.lo
 have g4 := sq_nn r.hi
 unfold Rg.square
 split <;> simp only <;> omega
def TMod.canB (m : TMod) (b : TBox) : Bool := decide (m.lo ≤ b.squares.hi) && decide (b.squares.lo ≤ m.hi)
theorem canB_iff {m : TMod} {b : TBox} : m.canB b = true ↔ m.canBe b := by simp [TMod.canB, TMod.canBe]
set_option maxRecDepth 100000 in
set_option maxHeartbeats 8000000 in
theorem track_squares (m : TMod) (b : TBox) (w : World) (hl : b.lo.inS 20 = true) (hh : b.hi.inS 20 = true) :
  Calls Try.prog 93 #[m.v, b.v] w fun e w' => e = .returned (.tuple #[b.squares.v, .bool (m.canB b)]) ∧ Below w.heap.size w w' := by
 obtain ⟨a1, a2, a3⟩ := inS_iff.1 hl
 obtain ⟨b1, b2, b3⟩ := inS_iff.1 hh
 have s1 := Rg.square_sz (r := b.rx) (A := 20) (C := 400) a1 b1 (by decide)
 have s2 := Rg.square_sz (r := b.ry) (A := 20) (C := 400) a2 b2 (by decide)
 have s3 := Rg.square_sz (r := b.rz) (A := 20) (C := 400) a3 b3 (by decide)
 have HQ0 : Hid (∀ W, Calls Try.prog 130 #[b.rx.v] W fun e w' => e = .returned b.rx.square.v ∧ Below W.heap.size W w') := hid (fun W => track_square _ W (by show _ ≤ b.lo.x ∧ b.lo.x ≤ _; omega) (by show _ ≤ b.hi.x ∧ b.hi.x ≤ _; omega))
 have HQ1 : Hid (∀ W, Calls Try.prog 130 #[b.ry.v] W fun e w' => e = .returned b.ry.square.v ∧ Below W.heap.size W w') := hid (fun W => track_square _ W (by show _ ≤ b.lo.y ∧ b.lo.y ≤ _; omega) (by show _ ≤ b.hi.y ∧ b.hi.y ≤ _; omega))
 have HQ2 : Hid (∀ W, Calls Try.prog 130 #[b.rz.v] W fun e w' => e = .returned b.rz.square.v ∧ Below W.heap.size W w') := hid (fun W => track_square _ W (by show _ ≤ b.lo.z ∧ b.lo.z ≤ _; omega) (by show _ ≤ b.hi.z ∧ b.hi.z ≤ _; omega))
 have HS : Hid (b.squares = (((⟨0, 0⟩ : Rg).plus b.rx.square).plus b.ry.square).plus b.rz.square) := hid rfl
 have HCB : Hid (m.canB b = (decide (m.lo ≤ b.squares.hi) && decide (b.squares.lo ≤ m.hi))) := hid rfl
 generalize b.squares = P3 at HS HCB ⊢
 generalize m.canB b = CB at HCB ⊢
 have HP0 : Hid (∀ W, Calls Try.prog 129 #[(⟨0, 0⟩ : Rg).v, b.rx.square.v] W fun e w' => e = .returned ((⟨0, 0⟩ : Rg).plus b.rx.square).v ∧ Below W.heap.size W w') := hid (fun W => track_plus _ _ W (by simp only; omega) (by simp only; omega) (by omega) (by omega))
 have t1 : (0 ≤ ((⟨0, 0⟩ : Rg).plus b.rx.square).lo ∧ ((⟨0, 0⟩ : Rg).plus b.rx.square).lo ≤ 400) ∧ (0 ≤ ((⟨0, 0⟩ : Rg).plus b.rx.square).hi ∧ ((⟨0, 0⟩ : Rg).plus b.rx.square).hi ≤ 400) := by unfold Rg.plus; simp only; omega
 generalize (⟨0, 0⟩ : Rg).plus b.rx.square = P1 at HS HP0 t1
 have HP1 : Hid (∀ W, Calls Try.prog 129 #[P1.v, b.ry.square.v] W fun e w' => e = .returned (P1.plus b.ry.square).v ∧ Below W.heap.size W w') := hid (fun W => track_plus _ _ W (by omega) (by omega) (by omega) (by omega))
 have t2 : (0 ≤ (P1.plus b.ry.square).lo ∧ (P1.plus b.ry.square).lo ≤ 800) ∧ (0 ≤ (P1.plus b.ry.square).hi ∧ (P1.plus b.ry.square).hi ≤ 800) := by unfold Rg.plus; simp only; omega
 generalize P1.plus b.ry.square = P2 at HS HP1 t2
 have HP2 : Hid (∀ W, Calls Try.prog 129 #[P2.v, b.rz.square.v] W fun e w' => e = .returned P3.v ∧ Below W.heap.size W w') := hid (fun W => by rw [HS.out]; exact track_plus _ _ W (by omega) (by omega) (by omega) (by omega))
 clear HS
 generalize b.rx.square = Q0 at HQ0 HP0
 generalize b.ry.square = Q1 at HQ1 HP1
 generalize b.rz.square = Q2 at HQ2 HP2
 simp only [TBox.rx, TBox.ry, TBox.rz] at HQ0 HQ1 HQ2
 clear s1 s2 s3 t1 t2 a1 a2 a3 b1 b2 b3 hl hh
 obtain ⟨px, py, pz, tm, tk, lo, hi, li, ea, la, no, mi⟩ := m
 obtain ⟨⟨lx, ly, lz⟩, ⟨hx, hy, hz⟩⟩ := b
 obtain ⟨q0l, q0h⟩ := Q0
 obtain ⟨q1l, q1h⟩ := Q1
 obtain ⟨q2l, q2h⟩ := Q2
 obtain ⟨p1l, p1h⟩ := P1
 obtain ⟨p2l, p2h⟩ := P2
 obtain ⟨p3l, p3h⟩ := P3
 unfold TMod.v TBox.v Rg.v at *
 simp only at *
 obtain ⟨W0, hW0⟩ : ∃ W0, W0 = (((w.alloc (.cells #[.int .i64 px, .int .i64 py, .int .i64 pz, .int .i64 tm, .int .i64 tk, .int .i64 lo, .int .i64 hi, .int .i64 li, .int .i64 ea, .int .i64 la, .int .i64 no, .int .i64 mi] 134)).alloc (.cells #[.int .i64 lx, .int .i64 ly, .int .i64 lz, .int .i64 hx, .int .i64 hy, .int .i64 hz] 75)).alloc (.cells #[.int .i64 0, .int .i64 0] 157)).alloc (.cells #[.int .i64 0, .int .i64 0] 157) := ⟨_, rfl⟩
 have hbW0 : Below w.heap.size w W0 := by rw [hW0]; exact BelowA
 obtain ⟨hz0, q0, q1, q2, q3⟩ := al4 w _ _ _ _ _ _ _ _ W0 hW0
 have H0 := hid q0
 have H1 := hid q1
 have H2 := hid q2
 have H3 := hid q3
 clear q0 q1 q2 q3
 go_enter Try.func93, Try.ntmps93
 go_wp2_with fail
 rw [← hW0]
 clear hW0
 go_loopw [8] (fun i wr => ∃ (k : Nat) (rl rh : Int), k ≤ 3 ∧ i = .int .i64 k ∧ Hid (wr.heap[w.heap.size + 1 + 1 + 1]? = some (.cells #[.int .i64 rl, .int .i64 rh] 157 (0, 0))) ∧ Hid ((k = 0 → rl = 0 ∧ rh = 0) ∧ (k = 1 → rl = p1l ∧ rh = p1h) ∧ (k = 2 → rl = p2l ∧ rh = p2h) ∧ (k = 3 → rl = p3l ∧ rh = p3h)) ∧ Below (w.heap.size + 1 + 1 + 1) W0 wr) (fun i _ => 3 - (intOf i).toNat)
 case atStart => exact ⟨0, 0, 0, by omega, rfl, H3, hid ⟨fun _ => ⟨rfl, rfl⟩, by omega, by omega, by omega⟩, Below.refl _ _⟩
 case round =>
  obtain ⟨k, rl, rh, hk, rfl, HR, HO, hbel⟩ := hrel
  have hzr := hbel.size
  obtain ⟨c0, c1, c2, c3, c4, c5, hlc⟩ := six_row ((hbel.block (w.heap.size + 1) (by omega)).trans H1.out)
  have hro := HR.out
  obtain ⟨s0, s1, fs0, fs1, hls⟩ := two_cells hro
  have R0 := hid ((hbel.block w.heap.size (by omega)).trans H0.out)
  have R2 := hid ((hbel.block (w.heap.size + 1 + 1) (by omega)).trans H2.out)
  have hbx : Below w.heap.size w wr := hbW0.trans (hbel.mono (by omega))
  have HBX := hid hbx
  clear hbx
  rcases (by omega : k = 0 ∨ k = 1 ∨ k = 2 ∨ k = 3) with rfl | rfl | rfl | rfl
  ·obtain ⟨rfl, rfl⟩ := HO.out.1 rfl
   go_wp2_with fail
   refine wp_mixC (KeepB [w.heap.size + 1, w.heap.size + 1 + 1 + 1] wr) 12 [.q [0, 1, 2, 3, 4, 5, 6, 7, 8, 9], .f [10, 11]] [.f [12]] (by kernel_rfl) (by kernel_rfl) ((KeepB.refl (by first | (simp; done) | (simp; omega))).drew) ?_
   intro Q' hQ'
   (rw [wpMixC]; simp only [pick, List.drop_succ_cons, List.drop_zero, List.head?_cons, Option.toList_some, List.cons_append, List.nil_append])
   (repeat (first | go_big_quiet_skip | (go_big_quiet_want; refine quiet_simple rfl ?_; go_big_quiet_op; go_big_quiet_on) | (go_big_quiet_want; refine quiet_cellK (ty := 3) rfl rfl (by kernel_rfl) (by assumption) (by simp) ?_; simp only [Act.put, List.setIfInBounds_toArray, List.set_cons_succ, List.set_cons_zero]; go_big_quiet_on) | (go_big_quiet_want; refine quiet_agg2K (ty := 157) rfl rfl (by kernel_rfl) (by assumption) (by assumption) (by simp) ?_; simp only [Act.put, List.setIfInBounds_toArray, List.set_cons_succ, List.set_cons_zero]; go_big_quiet_on)))
   (try refine wpQuiet_nil ?_)
   (rw [wpMixC]; simp only [pick, List.drop_succ_cons, List.drop_zero, List.head?_cons, Option.toList_some, List.cons_append, List.nil_append])
   (rw [wpSteps]; go_wp2_with ((go_at_call 130; ((with_reducible refine (HQ0.out _).mono ?_); rintro _ w2 ⟨rfl, hb2⟩))); rw [contF]; refine ⟨?_, ?_⟩; (next => exact KeepA))
   (rw [wpSteps]; go_wp2_with ((go_at_call 129; ((with_reducible refine (HP0.out _).mono ?_); rintro _ w3 ⟨rfl, hb3⟩); have hb13 : Below wr.heap.size wr w3 := (by exact BelowA); have HB13 := hid hb13; have HR3 := hid ((hb13.block (w.heap.size + 1 + 1 + 1) hls).trans HR.out); obtain ⟨s0, s1, fs0, fs1, hls⟩ := two_cells HR3.out)); rw [contF]; refine ⟨?_, ?_⟩; (next => exact KeepA))
   (rw [wpSteps])
   (rw [wpMixC])
   (rw [wpMix]; simp only [pick, List.drop_succ_cons, List.drop_zero, List.head?_cons, Option.toList_some, List.cons_append, List.nil_append])
   (go_wp2_with ((first | fail)); rw [contF])
   (rw [wpMix])
   (refine hQ' _ _ ?_)
   go_wp2_with fail
   go_roundw
   case rel => exact ⟨1, p1l, p1h, by omega, by go_num, hid (two_set HR3.out), hid ⟨by omega, fun _ => ⟨rfl, rfl⟩, by omega, by omega⟩, (hbel.trans (HB13.out.mono (by omega))).trans (((Below.refl _ _).setCell (by simp) _).setCell (by simp) _)⟩
   case measure => simp [intOf]
  ·obtain ⟨rfl, rfl⟩ := HO.out.2.1 rfl
   go_wp2_with fail
   refine wp_mixC (KeepB [w.heap.size + 1, w.heap.size + 1 + 1 + 1] wr) 12 [.q [0, 1, 2, 3, 4, 5, 6, 7, 8, 9], .f [10, 11]] [.f [12]] (by kernel_rfl) (by kernel_rfl) ((KeepB.refl (by first | (simp; done) | (simp; omega))).drew) ?_
   intro Q' hQ'
   (rw [wpMixC]; simp only [pick, List.drop_succ_cons, List.drop_zero, List.head?_cons, Option.toList_some, List.cons_append, List.nil_append])
   (repeat (first | go_big_quiet_skip | (go_big_quiet_want; refine quiet_simple rfl ?_; go_big_quiet_op; go_big_quiet_on) | (go_big_quiet_want; refine quiet_cellK (ty := 3) rfl rfl (by kernel_rfl) (by assumption) (by simp) ?_; simp only [Act.put, List.setIfInBounds_toArray, List.set_cons_succ, List.set_cons_zero]; go_big_quiet_on) | (go_big_quiet_want; refine quiet_agg2K (ty := 157) rfl rfl (by kernel_rfl) (by assumption) (by assumption) (by simp) ?_; simp only [Act.put, List.setIfInBounds_toArray, List.set_cons_succ, List.set_cons_zero]; go_big_quiet_on)))
   (try refine wpQuiet_nil ?_)
   (rw [wpMixC]; simp only [pick, List.drop_succ_cons, List.drop_zero, List.head?_cons, Option.toList_some, List.cons_append, List.nil_append])
   (rw [wpSteps]; go_wp2_with ((go_at_call 130; ((with_reducible refine (HQ1.out _).mono ?_); rintro _ w2 ⟨rfl, hb2⟩))); rw [contF]; refine ⟨?_, ?_⟩; (next => exact KeepA))
   (rw [wpSteps]; go_wp2_with ((go_at_call 129; ((with_reducible refine (HP1.out _).mono ?_); rintro _ w3 ⟨rfl, hb3⟩); have hb13 : Below wr.heap.size wr w3 := (by exact BelowA); have HB13 := hid hb13; have HR3 := hid ((hb13.block (w.heap.size + 1 + 1 + 1) hls).trans HR.out); obtain ⟨s0, s1, fs0, fs1, hls⟩ := two_cells HR3.out)); rw [contF]; refine ⟨?_, ?_⟩; (next => exact KeepA))
   (rw [wpSteps])
   (rw [wpMixC])
   (rw [wpMix]; simp only [pick, List.drop_succ_cons, List.drop_zero, List.head?_cons, Option.toList_some, List.cons_append, List.nil_append])
   (go_wp2_with ((first | fail)); rw [contF])
   (rw [wpMix])
   (refine hQ' _ _ ?_)
   go_wp2_with fail
   go_roundw
   case rel => exact ⟨2, p2l, p2h, by omega, by go_num, hid (two_set HR3.out), hid ⟨by omega, by omega, fun _ => ⟨rfl, rfl⟩, by omega⟩, (hbel.trans (HB13.out.mono (by omega))).trans (((Below.refl _ _).setCell (by simp) _).setCell (by simp) _)⟩
   case measure => simp [intOf]
  ·obtain ⟨rfl, rfl⟩ := HO.out.2.2.1 rfl
   go_wp2_with fail
   refine wp_mixC (KeepB [w.heap.size + 1, w.heap.size + 1 + 1 + 1] wr) 12 [.q [0, 1, 2, 3, 4, 5, 6, 7, 8, 9], .f [10, 11]] [.f [12]] (by kernel_rfl) (by kernel_rfl) ((KeepB.refl (by first | (simp; done) | (simp; omega))).drew) ?_
   intro Q' hQ'
   (rw [wpMixC]; simp only [pick, List.drop_succ_cons, List.drop_zero, List.head?_cons, Option.toList_some, List.cons_append, List.nil_append])
   (repeat (first | go_big_quiet_skip | (go_big_quiet_want; refine quiet_simple rfl ?_; go_big_quiet_op; go_big_quiet_on) | (go_big_quiet_want; refine quiet_cellK (ty := 3) rfl rfl (by kernel_rfl) (by assumption) (by simp) ?_; simp only [Act.put, List.setIfInBounds_toArray, List.set_cons_succ, List.set_cons_zero]; go_big_quiet_on) | (go_big_quiet_want; refine quiet_agg2K (ty := 157) rfl rfl (by kernel_rfl) (by assumption) (by assumption) (by simp) ?_; simp only [Act.put, List.setIfInBounds_toArray, List.set_cons_succ, List.set_cons_zero]; go_big_quiet_on)))
   (try refine wpQuiet_nil ?_)
   (rw [wpMixC]; simp only [pick, List.drop_succ_cons, List.drop_zero, List.head?_cons, Option.toList_some, List.cons_append, List.nil_append])
   (rw [wpSteps]; go_wp2_with ((go_at_call 130; ((with_reducible refine (HQ2.out _).mono ?_); rintro _ w2 ⟨rfl, hb2⟩))); rw [contF]; refine ⟨?_, ?_⟩; (next => exact KeepA))
   (rw [wpSteps]; go_wp2_with ((go_at_call 129; ((with_reducible refine (HP2.out _).mono ?_); rintro _ w3 ⟨rfl, hb3⟩); have hb13 : Below wr.heap.size wr w3 := (by exact BelowA); have HB13 := hid hb13; have HR3 := hid ((hb13.block (w.heap.size + 1 + 1 + 1) hls).trans HR.out); obtain ⟨s0, s1, fs0, fs1, hls⟩ := two_cells HR3.out)); rw [contF]; refine ⟨?_, ?_⟩; (next => exact KeepA))
   (rw [wpSteps])
   (rw [wpMixC])
   (rw [wpMix]; simp only [pick, List.drop_succ_cons, List.drop_zero, List.head?_cons, Option.toList_some, List.cons_append, List.nil_append])
   (go_wp2_with ((first | fail)); rw [contF])
   (rw [wpMix])
   (refine hQ' _ _ ?_)
   go_wp2_with fail
   go_roundw
   case rel => exact ⟨3, p3l, p3h, by omega, by go_num, hid (two_set HR3.out), hid ⟨by omega, by omega, by omega, fun _ => ⟨rfl, rfl⟩⟩, (hbel.trans (HB13.out.mono (by omega))).trans (((Below.refl _ _).setCell (by simp) _).setCell (by simp) _)⟩
   case measure => simp [intOf]
  ·obtain ⟨rfl, rfl⟩ := HO.out.2.2.2 rfl
   obtain ⟨m0, m1, m2, m3, m4, m5, m6, m7, m8, m9, m10, m11, ml⟩ := tw_cells (R0.out)
   obtain ⟨g0, g1, fg0, fg1, hlg⟩ := two_cells R2.out
   have hbx := HBX.out
   clear fs0 fs1 hro
   by_cases e1 : lo ≤ rh
   ·have e1' : decide (lo ≤ rh) = true := decide_eq_true e1
    have HV : Hid (CB = decide (rl ≤ hi)) := hid (by rw [HCB.out, e1']; rfl)
    go_wp2_with fail
    refine wp_mixC (KeepB [w.heap.size, w.heap.size + 1 + 1 + 1] wr) 18 [.q [0, 1, 2, 3, 4, 5, 6, 7, 8, 9, 10, 11, 12, 13, 14, 15, 16], .f [17]] [.q [18]] (by kernel_rfl) (by kernel_rfl) ((KeepB.refl (by first | (simp; done) | (simp; omega))).drew) ?_
    intro Q' hQ'
    (rw [wpMixC]; simp only [pick, List.drop_succ_cons, List.drop_zero, List.head?_cons, Option.toList_some, List.cons_append, List.nil_append])
    (repeat (first | go_big_quiet_skip | (go_big_quiet_want; refine quiet_simple rfl ?_; go_big_quiet_op; go_big_quiet_on) | (go_big_quiet_want; refine quiet_cellK (ty := 3) rfl rfl (by kernel_rfl) (by assumption) (by simp) ?_; simp only [Act.put, List.setIfInBounds_toArray, List.set_cons_succ, List.set_cons_zero]; go_big_quiet_on) | (go_big_quiet_want; refine quiet_agg2K (ty := 157) rfl rfl (by kernel_rfl) (by assumption) (by assumption) (by simp) ?_; simp only [Act.put, List.setIfInBounds_toArray, List.set_cons_succ, List.set_cons_zero]; go_big_quiet_on)))
    (try refine wpQuiet_nil ?_)
    (rw [wpMixC]; simp only [pick, List.drop_succ_cons, List.drop_zero, List.head?_cons, Option.toList_some, List.cons_append, List.nil_append])
    (rw [wpSteps]; go_wp2_with (fail); rw [contF]; refine ⟨?_, ?_⟩; (next => exact KeepA))
    (rw [wpSteps])
    (rw [wpMixC])
    (rw [wpMix]; simp only [pick, List.drop_succ_cons, List.drop_zero, List.head?_cons, Option.toList_some, List.cons_append, List.nil_append])
    (repeat (first | (go_big_quiet_step (fail)) | (quiet_step (fail))))
    (try refine wpQuiet_nil ?_)
    (rw [wpMix])
    (refine hQ' _ _ ?_)
    go_wp2_with fail
    ((try simp only [Exit.inBlock, Exit.then]); refine bodyPost_ret (v := .tuple #[.agg #[.int .i64 rl, .int .i64 rh], .bool (decide (rl ≤ hi))]) ?_ rfl ?_; (next => simp [results, Try.results93, go_sem, hlg, g0, g1]))
    exact ⟨by rw [HV.out], by exact BelowA⟩
   ·have e1' : decide (lo ≤ rh) = false := decide_eq_false e1
    have HV : Hid (CB = false) := hid (by rw [HCB.out, e1']; rfl)
    go_wp2_with fail
    refine wp_mixC (KeepB [w.heap.size, w.heap.size + 1 + 1 + 1] wr) 18 [.q [0, 1, 2, 3, 4, 5, 6, 7, 8, 9, 10, 11, 12, 13, 14, 15, 16], .f [17]] [.q [18]] (by kernel_rfl) (by kernel_rfl) ((KeepB.refl (by first | (simp; done) | (simp; omega))).drew) ?_
    intro Q' hQ'
    (rw [wpMixC]; simp only [pick, List.drop_succ_cons, List.drop_zero, List.head?_cons, Option.toList_some, List.cons_append, List.nil_append])
    (repeat (first | go_big_quiet_skip | (go_big_quiet_want; refine quiet_simple rfl ?_; go_big_quiet_op; go_big_quiet_on) | (go_big_quiet_want; refine quiet_cellK (ty := 3) rfl rfl (by kernel_rfl) (by assumption) (by simp) ?_; simp only [Act.put, List.setIfInBounds_toArray, List.set_cons_succ, List.set_cons_zero]; go_big_quiet_on) | (go_big_quiet_want; refine quiet_agg2K (ty := 157) rfl rfl (by kernel_rfl) (by assumption) (by assumption) (by simp) ?_; simp only [Act.put, List.setIfInBounds_toArray, List.set_cons_succ, List.set_cons_zero]; go_big_quiet_on)))
    (try refine wpQuiet_nil ?_)
    (rw [wpMixC]; simp only [pick, List.drop_succ_cons, List.drop_zero, List.head?_cons, Option.toList_some, List.cons_append, List.nil_append])
    (rw [wpSteps]; go_wp2_with (fail); rw [contF]; refine ⟨?_, ?_⟩; (next => exact KeepA))
    (rw [wpSteps])
    (rw [wpMixC])
    (rw [wpMix]; simp only [pick, List.drop_succ_cons, List.drop_zero, List.head?_cons, Option.toList_some, List.cons_append, List.nil_append])
    (repeat (first | (go_big_quiet_step (fail)) | (quiet_step (fail))))
    (try refine wpQuiet_nil ?_)
    (rw [wpMix])
    (refine hQ' _ _ ?_)
    go_wp2_with fail
    ((try simp only [Exit.inBlock, Exit.then]); refine bodyPost_ret (v := .tuple #[.agg #[.int .i64 rl, .int .i64 rh], .bool false]) ?_ rfl ?_; (next => simp [results, Try.results93, go_sem, hlg, g0, g1]))
    exact ⟨by rw [HV.out], by exact BelowA⟩
end Go.Proofs.Ytlmdmpjfehpjeaa
set_option linter.unusedVariables false
set_option linter.unusedSimpArgs false
namespace Go.Proofs.Ytlmdmpjfehpjeaa
open Go.RowKit
section
variable {P : Program} {md : Region.Mode} {ops : Array Oper} {Q : Exit → Act → World → Prop} {C : World → Prop}
def mixgB (l : List Oper) (n1 : Nat) (qs ks : List Nat) (j : Nat) (s1 s2 : List Stp) (Z : Array Bool) : Bool :=
 Region.noSelect l.toArray && phaseB .any l.toArray n1 && decide (qs.length + (ks.length + 1) + lenS s1 + lenS s2 = l.length) && qcB .any l.toArray n1 qs (Array.replicate l.length false) && fltB .any l.toArray j Z ks (runSet (Array.replicate l.length false) qs) && mixcB .any l.toArray n1 s2 s1 Z
theorem wp_mixG (C : World → Prop) {id : Nat} {a : Act} {w : World} {l : List Oper} (n1 : Nat) (qs ks : List Nat) (j : Nat) (s1 s2 : List Stp) (Z : Array Bool) (hm : P.follows .mixedOrders = true) (hB : mixgB l n1 qs ks j s1 s2 Z = true) (hC : C w.drew)
  (h : ∀ Q' : Exit → Act → World → Prop, (∀ a w, Q .normal a w → Q' .normal a w) → wpQuiet P l.toArray C (fun a' => wpFlt P l.toArray C (fun a'' w'' => wpMixC P l C Q' s2 s1 a'' w'') (pick l [j]) (pick l ks) a' w.drew) (pick l qs) a) :
  (Code.region id l.toArray true).wp P Q a w := by
 simp only [mixgB, Bool.and_eq_true, decide_eq_true_eq] at hB
 obtain ⟨⟨⟨⟨⟨hsel, hp⟩, hlen⟩, hq⟩, hf⟩, hB⟩ := hB
 refine Code.wp_mono (Q := noPan Q) (fun e a w hq => by cases e <;> first | exact hq | exact (hq : False).elim) ?_
 refine wp_region_any hm ?_
 have hQ : ∀ c a a' w, noPan Q (.panic c) a w → noPan Q (.panic c) a' w := fun c a a' w hq => hq
 have h1 := wpAnyC_q (C := C) hp hQ hsel (m := lenS s2) (n := ks.length + 1 + lenS s1) (X := fun a' _ => wpFlt P l.toArray C (fun a'' w'' => wpMixC P l C (noPan Q) s2 s1 a'' w'') (pick l [j]) (pick l ks) a' w.drew) qs (Array.replicate l.length false) a w.drew hC hq
  (fun a' hx => wpAnyC_flt (n := lenS s1) (Z := Z) (fun a'' w'' hC'' h'' => wpAnyC_mix (md := .any) hp hQ hsel s1 Z a'' w'' hC'' hB h'') ks _ a' w.drew hC hf hx)
  (h (noPan Q) fun _ _ h => h)
 have := wpAny_of_C (C := C) _ _ _ _ h1
 rw [show qs.length + (ks.length + 1 + lenS s1) + lenS s2 = l.toArray.size from by simp; omega] at this
 simpa using this
end
end Go.Proofs.Ytlmdmpjfehpjeaa
set_option linter.unusedVariables false
set_option linter.unusedSimpArgs false
namespace Go.Proofs.Ytlmdmpjfehpjeaa
open Go.RowKit
section
variable {P : Program} {md : Region.Mode} {ops : Array Oper} {Q : Exit → Act → World → Prop} {C : World → Prop}
end
end Go.Proofs.Ytlmdmpjfehpjeaa