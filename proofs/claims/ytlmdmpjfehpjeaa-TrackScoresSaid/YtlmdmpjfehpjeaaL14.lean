/- Tracks: the scores in a box by the program. -/
import Derived.Test.YtlmdmpjfehpjeaaL13
import Derived.Test.YtlmdmpjfehpjeaaL3
import Derived.Test.YtlmdmpjfehpjeaaL5
set_option linter.unusedVariables false
set_option linter.unusedSimpArgs false
namespace Go.Proofs.Ytlmdmpjfehpjeaa
open Go.RowKit

theorem ans_val (m : TMod) (b : TBox) (p : V3) (t : Int) : m.ans b p t = 0 ∨ m.ans b p t = 1 ∨ m.ans b p t = 2 := by
  unfold TMod.ans ansR
  split
  · omega
  · split <;> omega
theorem ownR_bd {e l a b : Int} (ha : 0 ≤ a ∧ a ≤ 10000) (hb : 0 ≤ b ∧ b ≤ 10000) : (0 ≤ (ownR e l a b).lo ∧ (ownR e l a b).lo ≤ 10000) ∧ (0 ≤ (ownR e l a b).hi ∧ (ownR e l a b).hi ≤ 10000) := by
  unfold ownR
  simp only
  constructor
  · (repeat' split) <;> omega
  · (repeat' split) <;> omega
theorem scores_take (m : TMod) (b : TBox) {l : List THit} {k : Nat} (h : k < l.length) : m.scores b (l.take (k + 1)) = (m.scores b (l.take k)).plus (m.hitR b (hitAt l k)) := by
  rw [hitAt_take h]; unfold TMod.scores; rw [List.foldl_append]; rfl
theorem hit_prod {m : TMod} {h : THit} (ho : m.Ok) (hh : h.Ok) : (0 ≤ h.w * m.mi ∧ h.w * m.mi ≤ 10000) ∧ (0 ≤ h.w * m.no ∧ h.w * m.no ≤ 10000) := by
  have h1 := mul_rg (x := h.w) (y := m.mi) (A := 100) (B := 100) (C := 10000) (by have := hh.w; omega) (by have := ho.mi; omega) (by decide)
  have h2 := mul_rg (x := h.w) (y := m.no) (A := 100) (B := 100) (C := 10000) (by have := hh.w; omega) (by have := ho.no; omega) (by decide)
  have h3 := Int.mul_nonneg hh.w.1 ho.mi.1
  have h4 := Int.mul_nonneg hh.w.1 ho.no.1
  omega
theorem scores_bd {m : TMod} {b : TBox} {l : List THit} (ho : m.Ok) (hok : ∀ i, i < l.length → (hitAt l i).Ok) : ∀ k, k ≤ l.length → (0 ≤ (m.scores b (l.take k)).lo ∧ (m.scores b (l.take k)).lo ≤ 10000 * k) ∧ (0 ≤ (m.scores b (l.take k)).hi ∧ (m.scores b (l.take k)).hi ≤ 10000 * k) := by
  intro k
  induction k with
  | zero => intro _; simp [TMod.scores]
  | succ k ih =>
    intro hk
    have h1 := ih (by omega)
    obtain ⟨g1, g2⟩ := hit_prod ho (hok k (by omega))
    have h2 := ownR_bd (e := m.ans b (hitAt l k).p ((hitAt l k).t + m.ea)) (l := m.ans b (hitAt l k).p ((hitAt l k).t - m.la - 1)) g1 g2
    rw [scores_take m b (by omega)]
    unfold TMod.hitR Rg.plus
    simp only
    push_cast
    omega

set_option maxRecDepth 100000 in
set_option maxHeartbeats 16000000 in
theorem track_scores (m : TMod) (b : TBox) (l : List THit) (v : Value) (w : World) (h : HitsAt w v l) (hl : l.length ≤ 12) (hok : ∀ i, i < l.length → (hitAt l i).Ok) (ho : m.Ok) (hlo : b.lo.inS 20 = true) (hhi : b.hi.inS 20 = true) (hc : m.canBe b) :
    Calls Try.prog 96 #[m.v, b.v, v] w fun e w' => e = .returned (m.scores b l).v ∧ Below w.heap.size w w' := by
  obtain ⟨ao, cap, rfl, h1, h2, h3⟩ := h.opn
  unfold maxLen at h2
  have HEN : Hid (∀ k, k < l.length → ∀ W, Calls Try.prog 128 #[m.v, (hitAt l k).v] W fun e w' => e = .returned (.tuple #[.agg #[.int .i64 (hitAt l k).p.x, .int .i64 (hitAt l k).p.y, .int .i64 (hitAt l k).p.z, .int .i64 ((hitAt l k).t + m.ea)], .agg #[.int .i64 (hitAt l k).p.x, .int .i64 (hitAt l k).p.y, .int .i64 (hitAt l k).p.z, .int .i64 ((hitAt l k).t - m.la - 1)]]) ∧ Below W.heap.size W w') := hid (fun k hk W => track_ends m _ W ho (hok k hk))
  have HA1 : Hid (∀ k, k < l.length → ∀ W, Calls Try.prog 94 #[m.v, b.v, .agg #[.int .i64 (hitAt l k).p.x, .int .i64 (hitAt l k).p.y, .int .i64 (hitAt l k).p.z, .int .i64 ((hitAt l k).t + m.ea)]] W fun e w' => e = .returned (.int .i64 (m.ans b (hitAt l k).p ((hitAt l k).t + m.ea))) ∧ Below W.heap.size W w') := hid (fun k hk W => track_answer m b _ _ W ho hlo hhi hc (hok k hk).p (by have h1 := (hok k hk).t; have h2 := ho.ea; omega))
  have HA2 : Hid (∀ k, k < l.length → ∀ W, Calls Try.prog 94 #[m.v, b.v, .agg #[.int .i64 (hitAt l k).p.x, .int .i64 (hitAt l k).p.y, .int .i64 (hitAt l k).p.z, .int .i64 ((hitAt l k).t - m.la - 1)]] W fun e w' => e = .returned (.int .i64 (m.ans b (hitAt l k).p ((hitAt l k).t - m.la - 1))) ∧ Below W.heap.size W w') := hid (fun k hk W => track_answer m b _ _ W ho hlo hhi hc (hok k hk).p (by have h1 := (hok k hk).t; have h2 := ho.la; omega))
  have HST : Hid (∀ k, k < l.length → m.scores b (l.take (k + 1)) = (m.scores b (l.take k)).plus (m.hitR b (hitAt l k))) := hid (fun k hk => scores_take m b hk)
  have HBD : Hid (∀ k, k ≤ l.length → (0 ≤ (m.scores b (l.take k)).lo ∧ (m.scores b (l.take k)).lo ≤ 10000 * k) ∧ (0 ≤ (m.scores b (l.take k)).hi ∧ (m.scores b (l.take k)).hi ≤ 10000 * k)) := hid (scores_bd ho hok)
  have HPR : Hid (∀ k, k < l.length → (0 ≤ (hitAt l k).w * m.mi ∧ (hitAt l k).w * m.mi ≤ 10000) ∧ (0 ≤ (hitAt l k).w * m.no ∧ (hitAt l k).w * m.no ≤ 10000)) := hid (fun k hk => hit_prod ho (hok k hk))
  have HS0 : Hid (m.scores b (l.take 0) = ⟨0, 0⟩) := hid (by simp [TMod.scores])
  have HSN : Hid (m.scores b (l.take l.length) = m.scores b l) := hid (by rw [List.take_length])
  have HHR : Hid (∀ k, m.hitR b (hitAt l k) = ownR (m.ans b (hitAt l k).p ((hitAt l k).t + m.ea)) (m.ans b (hitAt l k).p ((hitAt l k).t - m.la - 1)) ((hitAt l k).w * m.mi) ((hitAt l k).w * m.no)) := hid (fun k => rfl)
  have HAV : Hid (∀ p t, m.ans b p t = 0 ∨ m.ans b p t = 1 ∨ m.ans b p t = 2) := hid (ans_val m b)
  generalize hSC : m.scores b l = SC at HSN ⊢
  clear hSC
  generalize hFK : (fun k => m.scores b (l.take k)) = FK
  have HFK : Hid (∀ k, m.scores b (l.take k) = FK k) := hid (fun k => by rw [← hFK])
  simp only [HFK.out] at HST HBD HS0 HSN
  clear hFK HFK
  generalize hHK : (fun k => m.hitR b (hitAt l k)) = HK
  have HHK : Hid (∀ k, m.hitR b (hitAt l k) = HK k) := hid (fun k => by rw [← hHK])
  simp only [HHK.out] at HST HHR
  clear hHK HHK
  generalize hAN : m.ans b = AN at HA1 HA2 HHR HAV
  clear hAN h hok ho hlo hhi hc
  obtain ⟨px, py, pz, tm, tk, lo, hi, li, ea, la, no, mi⟩ := m
  obtain ⟨⟨lx, ly, lz⟩, ⟨hx, hy, hz⟩⟩ := b
  unfold TMod.v TBox.v at *
  simp only at *
  obtain ⟨W0, hW0⟩ : ∃ W0, W0 = (((w.alloc (.cells #[.int .i64 px, .int .i64 py, .int .i64 pz, .int .i64 tm, .int .i64 tk, .int .i64 lo, .int .i64 hi, .int .i64 li, .int .i64 ea, .int .i64 la, .int .i64 no, .int .i64 mi] 134)).alloc (.cells #[.int .i64 lx, .int .i64 ly, .int .i64 lz, .int .i64 hx, .int .i64 hy, .int .i64 hz] 75)).alloc (.cells #[.int .i64 0, .int .i64 0] 157)).alloc (.cells #[.int .i64 0, .int .i64 0] 157) := ⟨_, rfl⟩
  have hbW0 : Below w.heap.size w W0 := by rw [hW0]; (repeat (with_reducible first | exact Below.refl _ _ | assumption | refine Below.drewN _ ?_ | refine Below.drew ?_ | refine Below_alloc ?_ _ | refine Below.alloc ?_ (by first | (simp; done) | (simp; omega) | omega) _ | refine Below.setCell ?_ (by first | (simp; done) | (simp; omega) | omega) _ | refine Below_call ?_ (by assumption) | refine Below.trans ?_ (by assumption)))
  obtain ⟨hz0, q0, q1, q2, q3⟩ := al4 w _ _ _ _ _ _ _ _ W0 hW0
  have Q0 := hid q0
  have Q1 := hid q1
  have Q2 := hid q2
  have Q3 := hid q3
  have hzW0 := hbW0.size
  clear q0 q1 q2 q3
  go_enter Try.func96, Try.ntmps96
  go_wp2_with fail
  rw [← hW0]
  clear hW0
  go_loopw [19] (fun i wr => ∃ (k : Nat) (ol oh : Int), k ≤ l.length ∧ i = .int .i64 k ∧ Hid (wr.heap[w.heap.size + 1 + 1 + 1]? = some (.cells #[.int .i64 ol, .int .i64 oh] 157 (0, 0))) ∧ Hid (FK k = ⟨ol, oh⟩) ∧ Below (w.heap.size + 1 + 1 + 1) W0 wr) (fun i _ => l.length - (intOf i).toNat)
  case atStart => exact ⟨0, 0, 0, Nat.zero_le _, rfl, Q3, HS0, Below.refl _ _⟩
  case round =>
    obtain ⟨k, ol, oh, hk, rfl, HR, HF, hbel⟩ := hrel
    have hzr := hbel.size
    have R0 := hid ((hbel.block w.heap.size (by omega)).trans Q0.out)
    have R1 := hid ((hbel.block (w.heap.size + 1) (by omega)).trans Q1.out)
    have R2 := hid ((hbel.block (w.heap.size + 1 + 1) (by omega)).trans Q2.out)
    have hbx : Below w.heap.size w wr := hbW0.trans (hbel.mono (by omega))
    have HBX := hid hbx
    by_cases hlt : k < l.length
    · obtain ⟨bb, off, rfl, hb, hcc⟩ := h3 k hlt
      obtain ⟨c0, c1, c2, c3, c4⟩ := hcc k hlt
      have hcb : ∀ o, wr.cell? ⟨bb, o, none⟩ = w.cell? ⟨bb, o, none⟩ := fun o => hbx.cell (p := ⟨bb, o, none⟩) hb
      rw [← hcb] at c0 c1 c2 c3 c4
      have hbw : bb < wr.heap.size := by omega
      have HE := hid (HEN.out k hlt)
      have HC1 := hid (HA1.out k hlt)
      have HC2 := hid (HA2.out k hlt)
      have HP := HPR.out k hlt
      have HN : Hid (FK (k + 1) = (⟨ol, oh⟩ : Rg).plus (HK k)) := hid (by rw [HST.out k hlt, HF.out])
      have HB := HBD.out k hk
      rw [HF.out] at HB
      simp only at HB
      have HO := hid (HHR.out k)
      have hE1 := HAV.out (hitAt l k).p ((hitAt l k).t + ea)
      have hE2 := HAV.out (hitAt l k).p ((hitAt l k).t - la - 1)
      generalize hitAt l k = x at *
      generalize AN x.p (x.t + ea) = E1 at *
      generalize AN x.p (x.t - la - 1) = E2 at *
      generalize x.t + ea = TE at *
      generalize x.t - la - 1 = TL at *
      obtain ⟨MI, hMI⟩ : ∃ MI, x.w * mi = MI := ⟨_, rfl⟩
      obtain ⟨NO, hNO⟩ : ∃ NO, x.w * no = NO := ⟨_, rfl⟩
      have kM : IntKind.i64.wrap (x.w * mi) = MI := by rw [hMI]; exact IntWalk.i64_in _ (by rw [hMI] at HP; omega)
      have kN : IntKind.i64.wrap (x.w * no) = NO := by rw [hNO]; exact IntWalk.i64_in _ (by rw [hNO] at HP; omega)
      rw [hMI, hNO] at HP HO
      have hOB := ownR_bd (e := E1) (l := E2) HP.1 HP.2
      rw [← HO.out] at hOB
      generalize HK k = OW at HO HN hOB
      obtain ⟨NX, hNX⟩ : ∃ NX, FK (k + 1) = NX := ⟨_, rfl⟩
      rw [hNX] at HN
      have HNX := hid hNX
      clear hNX
      have HPL : Hid (∀ x y, x = OW.lo → y = OW.hi → ∀ W, Calls Try.prog 129 #[.agg #[.int .i64 ol, .int .i64 oh], .agg #[.int .i64 x, .int .i64 y]] W fun e w' => e = .returned NX.v ∧ Below W.heap.size W w') := hid (fun x y h1 h2 W => by rw [h1, h2, HN.out]; exact track_plus ⟨ol, oh⟩ OW W (by simp only; omega) (by simp only; omega) (by omega) (by omega))
      have HOL : Hid (OW.lo = if E1 = 0 ∧ E2 = 2 then min MI NO else if E1 = 0 then MI else if E2 = 2 then NO else 0) := hid (by rw [HO.out]; rfl)
      have HOH : Hid (OW.hi = if E2 ≠ 0 then max (if E1 ≠ 2 then MI else 0) NO else if E1 ≠ 2 then MI else 0) := hid (by rw [HO.out]; rfl)
      obtain ⟨⟨x0, x1, x2⟩, t, u⟩ := x
      obtain ⟨nl, nh⟩ := NX
      simp only [THit.v, Rg.v] at *
      clear hcc h3 hcb HEN HA1 HA2 HST HBD HPR HHR HAV HO HN hMI hNO hOB HB
      obtain ⟨m0, m1, m2, m3, m4, m5, m6, m7, m8, m9, m10, m11, ml⟩ := tw_cells (R0.out)
      obtain ⟨b0, b1, b2, b3, b4, b5, hlb⟩ := six_row R1.out
      go_wp2_with (go_at_call 128; ((with_reducible refine (HE.out _).mono ?_); rintro _ w2 ⟨rfl, hb2⟩))
      have hz2 : wr.heap.size < w2.heap.size := Nat.lt_of_lt_of_le (by simp) hb2.size
      have hbr2 : Below wr.heap.size wr w2 := by (repeat (with_reducible first | exact Below.refl _ _ | assumption | refine Below.drewN _ ?_ | refine Below.drew ?_ | refine Below_alloc ?_ _ | refine Below.alloc ?_ (by first | (simp; done) | (simp; omega) | omega) _ | refine Below.setCell ?_ (by first | (simp; done) | (simp; omega) | omega) _ | refine Below_call ?_ (by assumption) | refine Below.trans ?_ (by assumption)))
      have RH := hid ((hb2.block wr.heap.size (by simp)).trans (heap_alloc_new wr _))
      obtain ⟨X, hX⟩ : ∃ X, X = (w2.alloc (.cells #[.int .i64 x0, .int .i64 x1, .int .i64 x2, .int .i64 TE] 28)).alloc (.cells #[.int .i64 x0, .int .i64 x1, .int .i64 x2, .int .i64 TL] 28) := ⟨_, rfl⟩
      have hb2X : Below w2.heap.size w2 X := by rw [hX]; (repeat (with_reducible first | exact Below.refl _ _ | assumption | refine Below.drewN _ ?_ | refine Below.drew ?_ | refine Below_alloc ?_ _ | refine Below.alloc ?_ (by first | (simp; done) | (simp; omega) | omega) _ | refine Below.setCell ?_ (by first | (simp; done) | (simp; omega) | omega) _ | refine Below_call ?_ (by assumption) | refine Below.trans ?_ (by assumption)))
      obtain ⟨rA, rB, hlA, hlB⟩ := al2 w2 _ _ _ _ X hX
      rw [← hX]
      clear hX m0 m1 m2 m3 m4 m5 m6 m7 m8 m9 m10 m11 ml b0 b1 b2 b3 b4 b5 hlb c0 c1 c2 c3 c4
      have hbrX : Below wr.heap.size wr X := hbr2.trans (hb2X.mono hbr2.size)
      have XA := hid rA
      have XB := hid rB
      have XH := hid ((hb2X.block wr.heap.size hz2).trans RH.out)
      have X0 := hid ((hbrX.block w.heap.size (by omega)).trans R0.out)
      have X1 := hid ((hbrX.block (w.heap.size + 1) (by omega)).trans R1.out)
      obtain ⟨m0, m1, m2, m3, m4, m5, m6, m7, m8, m9, m10, m11, ml⟩ := tw_cells (X0.out)
      obtain ⟨y0, y1, y2, y3, y4, hly⟩ := five_row XH.out
      clear rA rB
      refine wp_mixC (fun wc => Below (X.heap.size) X wc) 13 [.q [0, 1, 2, 3, 4, 5, 6, 7, 8, 9, 10, 11, 12]] [.q [13]] (by kernel_rfl) (by kernel_rfl) ((Below.refl _ _).drew) ?_
      intro Q' hQ'
      (rw [wpMixC]; simp only [pick, List.drop_succ_cons, List.drop_zero, List.head?_cons, Option.toList_some, List.cons_append, List.nil_append])
      (repeat (first | go_big_quiet_skip | (go_big_quiet_want; refine quiet_simple rfl ?_; go_big_quiet_op; go_big_quiet_on) | (go_big_quiet_want; refine quiet_cellB (ty := 3) rfl rfl (by kernel_rfl) (by assumption) (by first | omega | (simp; omega)) ?_; simp only [Act.put, List.setIfInBounds_toArray, List.set_cons_succ, List.set_cons_zero]; go_big_quiet_on)))
      (try refine wpQuiet_nil ?_)
      (rw [wpMixC])
      (rw [wpMix]; simp only [pick, List.drop_succ_cons, List.drop_zero, List.head?_cons, Option.toList_some, List.cons_append, List.nil_append])
      (repeat (first | (go_big_quiet_step (fail)) | (quiet_step (fail))))
      (try refine wpQuiet_nil ?_)
      (rw [wpMix])
      (refine hQ' _ _ ?_)
      go_wp2_with fail
      obtain ⟨X', hX'⟩ : ∃ X', X' = X.drew := ⟨_, rfl⟩
      have hbXX : Below X.heap.size X X' := by rw [hX']; (repeat (with_reducible first | exact Below.refl _ _ | assumption | refine Below.drewN _ ?_ | refine Below.drew ?_ | refine Below_alloc ?_ _ | refine Below.alloc ?_ (by first | (simp; done) | (simp; omega) | omega) _ | refine Below.setCell ?_ (by first | (simp; done) | (simp; omega) | omega) _ | refine Below_call ?_ (by assumption) | refine Below.trans ?_ (by assumption)))
      have hzXX : X'.heap.size = X.heap.size := by rw [hX']; rfl
      rw [← hX']
      clear hX' m0 m1 m2 m3 m4 m5 m6 m7 m8 m9 m10 m11 ml y0 y1 y2 y3 y4 hly
      obtain ⟨m0, m1, m2, m3, m4, m5, m6, m7, m8, m9, m10, m11, ml⟩ := tw_cells ((hbXX.block w.heap.size (Array.getElem?_eq_some_iff.1 X0.out).1).trans X0.out)
      obtain ⟨b0, b1, b2, b3, b4, b5, hlb⟩ := six_row ((hbXX.block (w.heap.size + 1) (Array.getElem?_eq_some_iff.1 X1.out).1).trans X1.out)
      obtain ⟨n0, n1, n2, n3, hln⟩ := four_row ((hbXX.block w2.heap.size hlA).trans XA.out)
      obtain ⟨o0, o1, o2, o3, hlo⟩ := four_row ((hbXX.block (w2.heap.size + 1) hlB).trans XB.out)
      have hbrX' : Below wr.heap.size wr X' := hbrX.trans (hbXX.mono hbrX.size)
      have HBX' := hid hbrX'
      have hzX' := hbrX'.size
      clear hb2 hbr2 hb2X hbrX hbXX hbrX' hbx
      refine wp_mixC (fun wc => Below (X'.heap.size) X' wc) 9 [.q [0, 1, 2, 4, 5, 6], .f [3, 7], .q [8]] [.q [9]] (by kernel_rfl) (by kernel_rfl) ((Below.refl _ _).drew) ?_
      intro Q' hQ'
      (rw [wpMixC]; simp only [pick, List.drop_succ_cons, List.drop_zero, List.head?_cons, Option.toList_some, List.cons_append, List.nil_append])
      (repeat (first | go_big_quiet_skip | (go_big_quiet_want; refine quiet_simple rfl ?_; go_big_quiet_op; go_big_quiet_on) | (go_big_quiet_want; refine quiet_agg4B (ty := 28) rfl rfl (by kernel_rfl) (by assumption) (by assumption) (by assumption) (by assumption) (by first | omega | (simp; omega)) ?_; simp only [Act.put, List.setIfInBounds_toArray, List.set_cons_succ, List.set_cons_zero]; go_big_quiet_on) | (go_big_quiet_want; refine quiet_agg6B (ty := 75) rfl rfl (by kernel_rfl) (by assumption) (by assumption) (by assumption) (by assumption) (by assumption) (by assumption) (by first | omega | (simp; omega)) ?_; simp only [Act.put, List.setIfInBounds_toArray, List.set_cons_succ, List.set_cons_zero]; go_big_quiet_on) | (go_big_quiet_want; refine quiet_agg12B (ty := 134) rfl rfl (by kernel_rfl) (by assumption) (by assumption) (by assumption) (by assumption) (by assumption) (by assumption) (by assumption) (by assumption) (by assumption) (by assumption) (by assumption) (by assumption) (by first | omega | (simp; omega)) ?_; simp only [Act.put, List.setIfInBounds_toArray, List.set_cons_succ, List.set_cons_zero]; go_big_quiet_on)))
      (try refine wpQuiet_nil ?_)
      (rw [wpMixC]; simp only [pick, List.drop_succ_cons, List.drop_zero, List.head?_cons, Option.toList_some, List.cons_append, List.nil_append])
      (rw [wpSteps]; go_wp2_with ((first | (go_at_call 94; ((with_reducible refine (HC1.out _).mono ?_); rintro _ w3 ⟨rfl, hb3⟩)) | (go_at_call 94; ((with_reducible refine (HC2.out _).mono ?_); rintro _ w4 ⟨rfl, hb4⟩)))); rw [contF]; refine ⟨?_, ?_⟩; (next => (repeat (with_reducible first | exact Below.refl _ _ | assumption | refine Below.drewN _ ?_ | refine Below.drew ?_ | refine Below_alloc ?_ _ | refine Below.alloc ?_ (by first | (simp; done) | (simp; omega) | omega) _ | refine Below.setCell ?_ (by first | (simp; done) | (simp; omega) | omega) _ | refine Below_call ?_ (by assumption) | refine Below.trans ?_ (by assumption)))))
      (rw [wpSteps]; go_wp2_with ((first | (go_at_call 94; ((with_reducible refine (HC1.out _).mono ?_); rintro _ w3 ⟨rfl, hb3⟩)) | (go_at_call 94; ((with_reducible refine (HC2.out _).mono ?_); rintro _ w4 ⟨rfl, hb4⟩)))); rw [contF]; refine ⟨?_, ?_⟩; (next => (repeat (with_reducible first | exact Below.refl _ _ | assumption | refine Below.drewN _ ?_ | refine Below.drew ?_ | refine Below_alloc ?_ _ | refine Below.alloc ?_ (by first | (simp; done) | (simp; omega) | omega) _ | refine Below.setCell ?_ (by first | (simp; done) | (simp; omega) | omega) _ | refine Below_call ?_ (by assumption) | refine Below.trans ?_ (by assumption)))))
      (rw [wpSteps])
      (rw [wpMixC]; simp only [pick, List.drop_succ_cons, List.drop_zero, List.head?_cons, Option.toList_some, List.cons_append, List.nil_append])
      (repeat (first | go_big_quiet_skip | (go_big_quiet_want; refine quiet_simple rfl ?_; go_big_quiet_op; go_big_quiet_on) | (go_big_quiet_want; refine quiet_agg4B (ty := 28) rfl rfl (by kernel_rfl) (by assumption) (by assumption) (by assumption) (by assumption) (by first | omega | (simp; omega)) ?_; simp only [Act.put, List.setIfInBounds_toArray, List.set_cons_succ, List.set_cons_zero]; go_big_quiet_on) | (go_big_quiet_want; refine quiet_agg6B (ty := 75) rfl rfl (by kernel_rfl) (by assumption) (by assumption) (by assumption) (by assumption) (by assumption) (by assumption) (by first | omega | (simp; omega)) ?_; simp only [Act.put, List.setIfInBounds_toArray, List.set_cons_succ, List.set_cons_zero]; go_big_quiet_on) | (go_big_quiet_want; refine quiet_agg12B (ty := 134) rfl rfl (by kernel_rfl) (by assumption) (by assumption) (by assumption) (by assumption) (by assumption) (by assumption) (by assumption) (by assumption) (by assumption) (by assumption) (by assumption) (by assumption) (by first | omega | (simp; omega)) ?_; simp only [Act.put, List.setIfInBounds_toArray, List.set_cons_succ, List.set_cons_zero]; go_big_quiet_on)))
      (try refine wpQuiet_nil ?_)
      (rw [wpMixC])
      (rw [wpMix]; simp only [pick, List.drop_succ_cons, List.drop_zero, List.head?_cons, Option.toList_some, List.cons_append, List.nil_append])
      (repeat (first | (go_big_quiet_step (fail)) | (quiet_step (fail))))
      (try refine wpQuiet_nil ?_)
      (rw [wpMix])
      (refine hQ' _ _ ?_)
      have hbX4 : Below X'.heap.size X' w4 := by (repeat (with_reducible first | exact Below.refl _ _ | assumption | refine Below.drewN _ ?_ | refine Below.drew ?_ | refine Below_alloc ?_ _ | refine Below.alloc ?_ (by first | (simp; done) | (simp; omega) | omega) _ | refine Below.setCell ?_ (by first | (simp; done) | (simp; omega) | omega) _ | refine Below_call ?_ (by assumption) | refine Below.trans ?_ (by assumption)))
      have hbr4 : Below wr.heap.size wr w4 := HBX'.out.trans (hbX4.mono HBX'.out.size)
      have hz4 := hbr4.size
      obtain ⟨s0, s1, fs0, fs1, hls⟩ := two_cells ((hbr4.block (w.heap.size + 1 + 1 + 1) (by omega)).trans HR.out)
      clear fs0 fs1 hb3 hb4 hbX4 m0 m1 m2 m3 m4 m5 m6 m7 m8 m9 m10 m11 ml b0 b1 b2 b3 b4 b5 hlb n0 n1 n2 n3 hln o0 o1 o2 o3 hlo
      rcases hE1 with rfl | rfl | rfl
      all_goals rcases hE2 with rfl | rfl | rfl
      all_goals
        go_wp2_with (go_at_call 129; refine (HPL.out _ _ (by have h := HOL.out; simp at h; omega) (by have h := HOH.out; simp at h; omega) _).mono ?_; rintro _ w5 ⟨rfl, hb5⟩; have hb05 : Below wr.heap.size wr w5 := (by (repeat (with_reducible first | exact Below.refl _ _ | assumption | refine Below.drewN _ ?_ | refine Below.drew ?_ | refine Below_alloc ?_ _ | refine Below.alloc ?_ (by first | (simp; done) | (simp; omega) | omega) _ | refine Below.setCell ?_ (by first | (simp; done) | (simp; omega) | omega) _ | refine Below_call ?_ (by assumption) | refine Below.trans ?_ (by assumption)))); have HB05 := hid hb05; have HR5 := hid ((hb05.block (w.heap.size + 1 + 1 + 1) (by omega)).trans HR.out); obtain ⟨g0, g1, fg0, fg1, hlg⟩ := two_cells HR5.out)
        all_goals
          go_roundw
          case rel => exact ⟨k + 1, nl, nh, by omega, by go_num, hid (two_set HR5.out), HNX, (hbel.trans (HB05.out.mono (by omega))).trans (((Below.refl _ _).setCell (by simp) _).setCell (by simp) _)⟩
          case measure => simp [intOf]; omega
    · have hkl : k = l.length := by omega
      subst hkl
      have HV : Hid (SC = ⟨ol, oh⟩) := hid (by rw [← HSN.out]; exact HF.out)
      obtain ⟨g0, g1, fg0, fg1, hlg⟩ := two_cells R2.out
      have hro := HR.out
      obtain ⟨s0, s1, fs0, fs1, hls⟩ := two_cells hro
      clear hro
      go_wp2_with fail
      ((try simp only [Exit.inBlock, Exit.then]); refine bodyPost_ret (v := .agg #[.int .i64 ol, .int .i64 oh]) ?_ rfl ?_; (next => simp [results, Try.results96, go_sem, hlg, g0, g1]))
      exact ⟨by rw [HV.out]; rfl, by (repeat (with_reducible first | exact Below.refl _ _ | assumption | refine Below.drewN _ ?_ | refine Below.drew ?_ | refine Below_alloc ?_ _ | refine Below.alloc ?_ (by first | (simp; done) | (simp; omega) | omega) _ | refine Below.setCell ?_ (by first | (simp; done) | (simp; omega) | omega) _ | refine Below_call ?_ (by assumption) | refine Below.trans ?_ (by assumption)))⟩
end Go.Proofs.Ytlmdmpjfehpjeaa

/- Tracks: the scores in a box, with the errors, by the program. -/
set_option linter.unusedVariables false
set_option linter.unusedSimpArgs false
namespace Go.Proofs.Ytlmdmpjfehpjeaa
open Go.RowKit

def TMod.inE (m : TMod) (b : TBox) (l : List THit) : Int := firstNZ [firstNZ [firstNZ [m.err, b.err], hitsE l], unl (m.canB b) 12]
theorem inE_ok {m : TMod} {b : TBox} {l : List THit} (h : m.inE b l = 0) : m.Ok ∧ b.err = 0 ∧ m.canBe b ∧ hitsE l = 0 := by
  unfold TMod.inE at h
  obtain ⟨h1, h2⟩ := two_zero h
  obtain ⟨h3, h4⟩ := two_zero h1
  obtain ⟨h5, h6⟩ := two_zero h3
  rw [unl_zero (by decide)] at h2
  exact ⟨err_ok h5, h6, canB_iff.1 h2, h4⟩

set_option maxRecDepth 100000 in
set_option maxHeartbeats 8000000 in
theorem track_ScoresIn (m : TMod) (b : TBox) (l : List THit) (v : Value) (w : World) (h : HitsAt w v l) (hl : b.lo.inS 20 = true) (hh : b.hi.inS 20 = true) :
    Calls Try.prog 38 #[m.v, b.v, v] w fun e w' => (m.inE b l = 0 → e = .returned (.tuple #[(m.scores b l).v, .int .i64 0])) ∧ (m.inE b l ≠ 0 → e = .returned (.tuple #[.agg #[.int .i64 0, .int .i64 0], .int .i64 (m.inE b l)])) ∧ Below w.heap.size w w' := by
  have HO : Hid (∀ W, Below w.heap.size w W → Calls Try.prog 95 #[m.v, b.v, v] W fun e w' => e = .returned (.tuple #[m.v, .int .i64 (firstNZ [firstNZ [m.err, b.err], hitsE l])]) ∧ Below W.heap.size W w') := hid (fun W hb => track_openHits m b l v W (h.below hb))
  have HS : Hid (∀ W, Calls Try.prog 93 #[m.v, b.v] W fun e w' => e = .returned (.tuple #[b.squares.v, .bool (m.canB b)]) ∧ Below W.heap.size W w') := hid (fun W => track_squares m b W hl hh)
  have HFI : Hid (∀ v w, IntsAt w v [firstNZ [firstNZ [m.err, b.err], hitsE l], unl (m.canB b) 12] → Calls Try.prog 69 #[v] w fun e w' => e = .returned (.int .i64 (m.inE b l)) ∧ w = w') := hid (fun v w h => track_first _ v w h)
  have HR : Hid (m.inE b l = 0 → ∀ W, Below w.heap.size w W → Calls Try.prog 96 #[m.v, b.v, v] W fun e w' => e = .returned (m.scores b l).v ∧ Below W.heap.size W w') := hid (fun h0 W hb => by
    obtain ⟨o1, o2, o3, o4⟩ := inE_ok h0
    obtain ⟨g1, g2⟩ := hitsE_ok o4
    exact track_scores m b l v W (h.below hb) g1 g2 o1 hl hh o3)
  obtain ⟨ao, cap, rfl, _, _, _⟩ := h.opn
  clear h hl hh
  generalize m.inE b l = E1 at HFI HR ⊢
  generalize firstNZ [firstNZ [m.err, b.err], hitsE l] = E0 at HO HFI
  generalize m.canB b = CB at HS HFI
  generalize b.squares = SQ at HS
  generalize m.scores b l = SC at HR ⊢
  obtain ⟨px, py, pz, tm, tk, lo, hi, li, ea, la, no, mi⟩ := m
  obtain ⟨⟨lx, ly, lz⟩, ⟨hx, hy, hz⟩⟩ := b
  obtain ⟨sl, sh⟩ := SQ
  obtain ⟨rl, rh⟩ := SC
  unfold TMod.v TBox.v Rg.v at *
  simp only at *
  obtain ⟨W0, hW0⟩ : ∃ W0, W0 = ((w.alloc (.cells #[.int .i64 px, .int .i64 py, .int .i64 pz, .int .i64 tm, .int .i64 tk, .int .i64 lo, .int .i64 hi, .int .i64 li, .int .i64 ea, .int .i64 la, .int .i64 no, .int .i64 mi] 26)).alloc (.cells #[.int .i64 lx, .int .i64 ly, .int .i64 lz, .int .i64 hx, .int .i64 hy, .int .i64 hz] 75)).alloc (.cells #[.int .i64 0, .int .i64 0] 24) := ⟨_, rfl⟩
  have hbW0 : Below w.heap.size w W0 := by rw [hW0]; (repeat (with_reducible first | exact Below.refl _ _ | assumption | refine Below.drewN _ ?_ | refine Below.drew ?_ | refine Below_alloc ?_ _ | refine Below.alloc ?_ (by first | (simp; done) | (simp; omega) | omega) _ | refine Below.setCell ?_ (by first | (simp; done) | (simp; omega) | omega) _ | refine Below_call ?_ (by assumption) | refine Below.trans ?_ (by assumption)))
  obtain ⟨q0, q1, q2⟩ := al3 w _ _ _ _ _ _ W0 hW0
  have l1 := (Array.getElem?_eq_some_iff.1 q1).1
  have l2 := (Array.getElem?_eq_some_iff.1 q2).1
  have Q1 := hid q1
  have Q2 := hid q2
  have hzW0 := hbW0.size
  clear q0 q1 q2
  have hcase : E1 = 0 ∨ E1 ≠ 0 := by omega
  rcases hcase with h1 | h1
  · subst h1
    have HR2 := hid (HR.out rfl)
    go_enter Try.func38, Try.ntmps38
    go_wp2_with (first | (go_at_call 95; rw [← hW0]; refine (HO.out _ hbW0).mono ?_; rintro _ w1 ⟨rfl, hb1⟩; have hz1 := hb1.size; obtain ⟨b0, b1, b2, b3, b4, b5, hlb⟩ := six_row ((hb1.block (w.heap.size + 1) l1).trans Q1.out)) | (go_at_call 93; obtain ⟨WB, hWB⟩ : ∃ WB, WB = w1.alloc (.cells #[.int .i64 px, .int .i64 py, .int .i64 pz, .int .i64 tm, .int .i64 tk, .int .i64 lo, .int .i64 hi, .int .i64 li, .int .i64 ea, .int .i64 la, .int .i64 no, .int .i64 mi] 134) := ⟨_, rfl⟩; rw [← hWB]; have hbWB : Below w1.heap.size w1 WB := (by rw [hWB]; (repeat (with_reducible first | exact Below.refl _ _ | assumption | refine Below.drewN _ ?_ | refine Below.drew ?_ | refine Below_alloc ?_ _ | refine Below.alloc ?_ (by first | (simp; done) | (simp; omega) | omega) _ | refine Below.setCell ?_ (by first | (simp; done) | (simp; omega) | omega) _ | refine Below_call ?_ (by assumption) | refine Below.trans ?_ (by assumption)))); have r0 : WB.heap[w1.heap.size]? = some (.cells #[.int .i64 px, .int .i64 py, .int .i64 pz, .int .i64 tm, .int .i64 tk, .int .i64 lo, .int .i64 hi, .int .i64 li, .int .i64 ea, .int .i64 la, .int .i64 no, .int .i64 mi] 134 (0, 0)) := (by rw [hWB]; exact heap_alloc_new w1 _); clear hWB; refine (HS.out _).mono ?_; rintro _ w2 ⟨rfl, hb2⟩; have hb02 : Below W0.heap.size W0 w2 := (hb1.trans (hbWB.mono hz1)).trans (hb2.mono (Nat.le_trans hz1 hbWB.size)); have HB02 := hid hb02; have R0 := hid ((hb2.block w1.heap.size (Array.getElem?_eq_some_iff.1 r0).1).trans r0); clear b0 b1 b2 b3 b4 b5 hlb; obtain ⟨b0, b1, b2, b3, b4, b5, hlb⟩ := six_row ((hb02.block (w.heap.size + 1) l1).trans Q1.out); obtain ⟨m0, m1, m2, m3, m4, m5, m6, m7, m8, m9, m10, m11, ml⟩ := tw_cells (R0.out); have ml' : w1.heap.size < w2.heap.size + 1 := Nat.lt_succ_of_lt ml; have hlb' : w.heap.size + 1 < w2.heap.size + 1 := Nat.lt_succ_of_lt hlb; obtain ⟨g0, g1, fg0, fg1, hlg⟩ := two_cells ((hb02.block (w.heap.size + 1 + 1) l2).trans Q2.out); have hlg' : w.heap.size + 1 + 1 < w2.heap.size + 1 := Nat.lt_succ_of_lt hlg; have hbf : Below w.heap.size w w2 := hbW0.trans (hb02.mono hzW0)) | (go_at_call 72; refine (track_unless _ _ _).mono ?_; rintro _ _ ⟨rfl, rfl⟩) | (go_at_call 69; refine (HFI.out _ _ (intsAt_new _ _ _ _ _ rfl (by simp) (by first | rfl | simp))).mono ?_; rintro _ _ ⟨rfl, rfl⟩) | (go_at_call 96; have hbw : Below w2.heap.size w2 ((w2.alloc (.cells #[.int .i64 sl, .int .i64 sh] 157)).alloc (.cells #[.int .i64 E0, .int .i64 (unl CB 12)] 30)) := (by (repeat (with_reducible first | exact Below.refl _ _ | assumption | refine Below.drewN _ ?_ | refine Below.drew ?_ | refine Below_alloc ?_ _ | refine Below.alloc ?_ (by first | (simp; done) | (simp; omega) | omega) _ | refine Below.setCell ?_ (by first | (simp; done) | (simp; omega) | omega) _ | refine Below_call ?_ (by assumption) | refine Below.trans ?_ (by assumption)))); have hbw2 := hbf.trans (hbw.mono hbf.size); refine (HR2.out _ hbw2).mono ?_; rintro _ w3 ⟨rfl, hb3⟩; have hb23 : Below w2.heap.size w2 w3 := hbw.trans (hb3.mono hbw.size); have hb03 := HB02.out.trans (hb23.mono HB02.out.size); have hbE : Below w.heap.size w w3 := hbW0.trans (hb03.mono hzW0); clear g0 g1 fg0 fg1 hlg hlg'; obtain ⟨g0, g1, fg0, fg1, hlg⟩ := two_cells ((hb03.block (w.heap.size + 1 + 1) l2).trans Q2.out)))
    ((try simp only [Exit.inBlock, Exit.then]); refine bodyPost_ret (v := .tuple #[.agg #[.int .i64 rl, .int .i64 rh], .int .i64 0]) ?_ rfl ?_; (next => simp [results, Try.results38, go_sem, hlg, g0, g1]))
    exact ⟨fun _ => rfl, fun h => absurd rfl h, by (repeat (with_reducible first | exact Below.refl _ _ | assumption | refine Below.drewN _ ?_ | refine Below.drew ?_ | refine Below_alloc ?_ _ | refine Below.alloc ?_ (by first | (simp; done) | (simp; omega) | omega) _ | refine Below.setCell ?_ (by first | (simp; done) | (simp; omega) | omega) _ | refine Below_call ?_ (by assumption) | refine Below.trans ?_ (by assumption)))⟩
  · have hne : (E1 != 0) = true := by simpa using h1
    have HN := hid h1
    clear h1
    go_enter Try.func38, Try.ntmps38
    go_wp2_with (first | (go_at_call 95; rw [← hW0]; refine (HO.out _ hbW0).mono ?_; rintro _ w1 ⟨rfl, hb1⟩; have hz1 := hb1.size; obtain ⟨b0, b1, b2, b3, b4, b5, hlb⟩ := six_row ((hb1.block (w.heap.size + 1) l1).trans Q1.out)) | (go_at_call 93; obtain ⟨WB, hWB⟩ : ∃ WB, WB = w1.alloc (.cells #[.int .i64 px, .int .i64 py, .int .i64 pz, .int .i64 tm, .int .i64 tk, .int .i64 lo, .int .i64 hi, .int .i64 li, .int .i64 ea, .int .i64 la, .int .i64 no, .int .i64 mi] 134) := ⟨_, rfl⟩; rw [← hWB]; have hbWB : Below w1.heap.size w1 WB := (by rw [hWB]; (repeat (with_reducible first | exact Below.refl _ _ | assumption | refine Below.drewN _ ?_ | refine Below.drew ?_ | refine Below_alloc ?_ _ | refine Below.alloc ?_ (by first | (simp; done) | (simp; omega) | omega) _ | refine Below.setCell ?_ (by first | (simp; done) | (simp; omega) | omega) _ | refine Below_call ?_ (by assumption) | refine Below.trans ?_ (by assumption)))); have r0 : WB.heap[w1.heap.size]? = some (.cells #[.int .i64 px, .int .i64 py, .int .i64 pz, .int .i64 tm, .int .i64 tk, .int .i64 lo, .int .i64 hi, .int .i64 li, .int .i64 ea, .int .i64 la, .int .i64 no, .int .i64 mi] 134 (0, 0)) := (by rw [hWB]; exact heap_alloc_new w1 _); clear hWB; refine (HS.out _).mono ?_; rintro _ w2 ⟨rfl, hb2⟩; have hb02 : Below W0.heap.size W0 w2 := (hb1.trans (hbWB.mono hz1)).trans (hb2.mono (Nat.le_trans hz1 hbWB.size)); have HB02 := hid hb02; have R0 := hid ((hb2.block w1.heap.size (Array.getElem?_eq_some_iff.1 r0).1).trans r0); clear b0 b1 b2 b3 b4 b5 hlb; obtain ⟨b0, b1, b2, b3, b4, b5, hlb⟩ := six_row ((hb02.block (w.heap.size + 1) l1).trans Q1.out); obtain ⟨m0, m1, m2, m3, m4, m5, m6, m7, m8, m9, m10, m11, ml⟩ := tw_cells (R0.out); have ml' : w1.heap.size < w2.heap.size + 1 := Nat.lt_succ_of_lt ml; have hlb' : w.heap.size + 1 < w2.heap.size + 1 := Nat.lt_succ_of_lt hlb; obtain ⟨g0, g1, fg0, fg1, hlg⟩ := two_cells ((hb02.block (w.heap.size + 1 + 1) l2).trans Q2.out); have hlg' : w.heap.size + 1 + 1 < w2.heap.size + 1 := Nat.lt_succ_of_lt hlg; have hbf : Below w.heap.size w w2 := hbW0.trans (hb02.mono hzW0)) | (go_at_call 72; refine (track_unless _ _ _).mono ?_; rintro _ _ ⟨rfl, rfl⟩) | (go_at_call 69; refine (HFI.out _ _ (intsAt_new _ _ _ _ _ rfl (by simp) (by first | rfl | simp))).mono ?_; rintro _ _ ⟨rfl, rfl⟩))
    ((try simp only [Exit.inBlock, Exit.then]); refine bodyPost_ret (v := .tuple #[.agg #[.int .i64 0, .int .i64 0], .int .i64 E1]) ?_ rfl ?_; (next => simp [results, Try.results38, go_sem, hlg, hlg', g0, g1]))
    exact ⟨fun h => absurd h HN.out, fun _ => rfl, by (repeat (with_reducible first | exact Below.refl _ _ | assumption | refine Below.drewN _ ?_ | refine Below.drew ?_ | refine Below_alloc ?_ _ | refine Below.alloc ?_ (by first | (simp; done) | (simp; omega) | omega) _ | refine Below.setCell ?_ (by first | (simp; done) | (simp; omega) | omega) _ | refine Below_call ?_ (by assumption) | refine Below.trans ?_ (by assumption)))⟩
end Go.Proofs.Ytlmdmpjfehpjeaa

/- Digits to the base 10^9: plain law of sums, differences, products, comparison. -/
set_option linter.unusedVariables false
set_option linter.unusedSimpArgs false
namespace Go.Proofs.Ytlmdmpjfehpjeaa

def dpw : Nat → Int
  | 0 => 1
  | i + 1 => 1000000000 * dpw i
theorem dpw_pos (i : Nat) : 0 < dpw i := by
  induction i with
  | zero => decide
  | succ i ih => simp only [dpw]; omega
theorem dpw_add (i j : Nat) : dpw (i + j) = dpw i * dpw j := by
  induction i with
  | zero => simp [dpw]
  | succ i ih => rw [Nat.succ_add]; simp only [dpw]; rw [ih, Int.mul_assoc]
theorem dpw_mono {i j : Nat} (h : i ≤ j) : dpw i ≤ dpw j := by
  induction j with
  | zero => rw [show i = 0 from by omega]; exact Int.le_refl _
  | succ j ih =>
    rcases Nat.lt_or_ge j i with h1 | h1
    · rw [show i = j + 1 from by omega]; exact Int.le_refl _
    · have := ih h1
      have := dpw_pos j
      simp only [dpw]; omega
def dval : List Int → Int
  | [] => 0
  | d :: l => d + 1000000000 * dval l
def isD (l : List Int) : Prop := ∀ d ∈ l, 0 ≤ d ∧ d < 1000000000
theorem isD_cons {d : Int} {l : List Int} : isD (d :: l) ↔ (0 ≤ d ∧ d < 1000000000) ∧ isD l := by simp [isD]
theorem isD_app {l m : List Int} : isD (l ++ m) ↔ isD l ∧ isD m := by
  constructor
  · intro h; exact ⟨fun d hd => h d (by simp [hd]), fun d hd => h d (by simp [hd])⟩
  · rintro ⟨h, g⟩ d hd; rcases List.mem_append.1 hd with h1 | h1; exact h d h1; exact g d h1
theorem isD_nil : isD [] := by simp [isD]
theorem isD_take {l : List Int} (h : isD l) (n : Nat) : isD (l.take n) := fun d hd => h d (List.mem_of_mem_take hd)
theorem isD_nth {l : List Int} (h : isD l) (i : Nat) : 0 ≤ nth l i ∧ nth l i < 1000000000 := by
  unfold nth
  rcases Nat.lt_or_ge i l.length with h1 | h1
  · rw [List.getD_eq_getElem?_getD, List.getElem?_eq_getElem h1]; exact h _ (List.getElem_mem h1)
  · rw [List.getD_eq_getElem?_getD, List.getElem?_eq_none h1]; simp
theorem dval_app (l m : List Int) : dval (l ++ m) = dval l + dpw l.length * dval m := by
  induction l with
  | nil => simp [dval, dpw]
  | cons d l ih => simp only [List.cons_append, dval, List.length_cons, dpw]; rw [ih, Int.mul_add, Int.mul_assoc, Int.add_assoc]
theorem dval_range {l : List Int} (h : isD l) : 0 ≤ dval l ∧ dval l < dpw l.length := by
  induction l with
  | nil => simp [dval, dpw]
  | cons d l ih =>
    obtain ⟨h1, h2⟩ := isD_cons.1 h
    have := ih h2
    simp only [dval, List.length_cons, dpw]; omega
theorem dnth_lt {l : List Int} {i : Nat} (h : i < l.length) : nth l i = l[i] := by
  unfold nth; rw [List.getD_eq_getElem?_getD, List.getElem?_eq_getElem h]; rfl
theorem dnth_ge {l : List Int} {i : Nat} (h : l.length ≤ i) : nth l i = 0 := by
  unfold nth; rw [List.getD_eq_getElem?_getD, List.getElem?_eq_none h]; rfl
theorem dval_take (l : List Int) (i : Nat) : dval (l.take (i + 1)) = dval (l.take i) + nth l i * dpw i := by
  rcases Nat.lt_or_ge i l.length with h | h
  · rw [← List.take_append_getElem h, dval_app, dnth_lt h, List.length_take, Nat.min_eq_left (by omega)]
    simp [dval, Int.mul_comm]
  · rw [List.take_of_length_le (by omega), List.take_of_length_le h, dnth_ge h]; simp
theorem dval_set (l : List Int) (i : Nat) (d : Int) (h : i < l.length) : dval (l.set i d) = dval l + (d - nth l i) * dpw i := by
  induction l generalizing i with
  | nil => simp at h
  | cons a l ih =>
    cases i with
    | zero => simp [dval, dpw, nth]; omega
    | succ i =>
      have h1 : i < l.length := by simpa using h
      have h2 : nth (a :: l) (i + 1) = nth l i := by simp [nth]
      simp only [List.set_cons_succ, dval, dpw, h2]
      rw [ih i h1, Int.mul_add]
      rw [show 1000000000 * ((d - nth l i) * dpw i) = (d - nth l i) * (1000000000 * dpw i) from by rw [← Int.mul_assoc, ← Int.mul_assoc, Int.mul_comm 1000000000]]
      omega
theorem isD_set {l : List Int} (h : isD l) (i : Nat) {d : Int} (hd : 0 ≤ d ∧ d < 1000000000) : isD (l.set i d) := by
  intro x hx
  rcases List.mem_or_eq_of_mem_set hx with h1 | h1
  · exact h x h1
  · rw [h1]; exact hd
theorem dnth_set (l : List Int) (i j : Nat) (d : Int) (h : i < l.length) : nth (l.set i d) j = if i = j then d else nth l j := by
  simp only [nth, List.getD_eq_getElem?_getD, List.getElem?_set]
  split
  · next e => subst e; simp [h]
  · rfl
theorem dval_zero {l : List Int} (h : ∀ i, nth l i = 0) : dval l = 0 := by
  induction l with
  | nil => rfl
  | cons d l ih =>
    have h0 := h 0
    have : dval l = 0 := ih (fun i => by have := h (i + 1); simpa [nth] using this)
    simp only [nth, List.getD_cons_zero] at h0
    simp only [dval, this, h0]; rfl
/-- the digits of a number. -/
def dig (n : Nat) : List Int := if h : n = 0 then [] else ((n % 1000000000 : Nat) : Int) :: dig (n / 1000000000)
termination_by n
decreasing_by omega
theorem dig_zero : dig 0 = [] := by rw [dig]; simp
theorem dig_step {n : Nat} (h : n ≠ 0) : dig n = ((n % 1000000000 : Nat) : Int) :: dig (n / 1000000000) := by rw [dig]; simp [h]
theorem dval_dig (n : Nat) : dval (dig n) = n := by
  induction n using Nat.strongRecOn with
  | _ n ih =>
    by_cases h : n = 0
    · subst h; rw [dig_zero]; rfl
    · rw [dig_step h, dval, ih _ (by omega)]; omega
theorem isD_dig (n : Nat) : isD (dig n) := by
  induction n using Nat.strongRecOn with
  | _ n ih =>
    by_cases h : n = 0
    · subst h; rw [dig_zero]; exact isD_nil
    · rw [dig_step h, isD_cons]; exact ⟨by omega, ih _ (by omega)⟩
theorem dig_nil {n : Nat} : (dig n).length = 0 ↔ n = 0 := by
  constructor
  · intro h; by_cases hn : n = 0
    · exact hn
    · rw [dig_step hn] at h; simp at h
  · rintro rfl; rw [dig_zero]; rfl
/-- canonical digits are the digits of their number. -/
theorem canon {l : List Int} (h : isD l) (hl : l.length = 0 ∨ nth l (l.length - 1) ≠ 0) : l = dig (dval l).toNat := by
  induction l with
  | nil => simp [dval, dig_zero]
  | cons d l ih =>
    obtain ⟨h1, h2⟩ := isD_cons.1 h
    have hr := dval_range h2
    have hc : l.length = 0 ∨ nth l (l.length - 1) ≠ 0 := by
      rcases hl with hl | hl
      · simp at hl
      · cases l with
        | nil => exact Or.inl rfl
        | cons e m => right; simpa [nth] using hl
    have e1 := ih h2 hc
    have hne : (dval (d :: l)).toNat ≠ 0 := by
      intro h0
      have h3 : dval l = 0 ∧ d = 0 := by simp only [dval] at h0; omega
      rw [h3.1] at e1
      rw [show (0 : Int).toNat = 0 from rfl, dig_zero] at e1
      subst e1
      rw [h3.2] at hl
      simp [nth] at hl
    rw [dig_step hne]
    have e2 : (dval (d :: l)).toNat % 1000000000 = d.toNat := by simp only [dval]; omega
    have e3 : (dval (d :: l)).toNat / 1000000000 = (dval l).toNat := by simp only [dval]; omega
    rw [e2, e3, ← e1]
    congr 1; omega
/-- the prefix without zeros at the end. -/
theorem trim_eq {l : List Int} (h : isD l) {n : Nat} (hn : n ≤ l.length) (hz : ∀ i, n ≤ i → nth l i = 0) (hc : n = 0 ∨ nth l (n - 1) ≠ 0) : l.take n = dig (dval l).toNat := by
  have e : dval l = dval (l.take n) := by
    conv => lhs; rw [← List.take_append_drop n l, dval_app]
    rw [dval_zero (l := l.drop n), Int.mul_zero, Int.add_zero]
    intro i; have := hz (n + i) (by omega); simpa [nth, List.getD_eq_getElem?_getD] using this
  rw [e]
  apply canon (isD_take h n)
  rw [List.length_take, Nat.min_eq_left hn]
  rcases hc with hc | hc
  · exact Or.inl hc
  · by_cases h0 : n = 0
    · exact Or.inl h0
    · right; simpa [nth, List.getD_eq_getElem?_getD, List.getElem?_take, show n - 1 < n from by omega] using hc
theorem dig_last {n : Nat} (h : (dig n).length ≠ 0) : nth (dig n) ((dig n).length - 1) ≠ 0 := by
  induction n using Nat.strongRecOn with
  | _ n ih =>
    by_cases h0 : n = 0
    · subst h0; simp [dig_zero] at h
    · rw [dig_step h0]
      by_cases h1 : n / 1000000000 = 0
      · rw [h1, dig_zero]; simp [nth]; omega
      · have h2 : (dig (n / 1000000000)).length ≠ 0 := fun h => h1 (dig_nil.1 h)
        have := ih _ (by omega) h2
        obtain ⟨k, hk⟩ := Nat.exists_eq_succ_of_ne_zero h2
        simp only [List.length_cons, hk, Nat.add_sub_cancel, Nat.succ_sub_one] at this ⊢
        simpa [nth] using this
/-- a number is at least the weight of its last digit. -/
theorem dig_low {n k : Nat} (h : (dig n).length = k + 1) : dpw k ≤ n := by
  have h1 := dig_last (n := n) (by omega)
  have h2 := isD_nth (isD_dig n) k
  have h3 := dval_take (dig n) k
  rw [List.take_of_length_le (by omega), dval_dig] at h3
  rw [h, Nat.add_sub_cancel] at h1
  have h4 := (dval_range (isD_take (isD_dig n) k)).1
  have h5 := Int.mul_le_mul_of_nonneg_right (show 1 ≤ nth (dig n) k from by omega) (Int.le_of_lt (dpw_pos k))
  omega
theorem dig_high (n : Nat) : (n : Int) < dpw (dig n).length := by
  have := (dval_range (isD_dig n)).2
  rwa [dval_dig] at this
theorem dig_len_lt {a b : Nat} (h : (dig a).length < (dig b).length) : a < b := by
  have h1 := dig_high a
  obtain ⟨k, hk⟩ : ∃ k, (dig b).length = k + 1 := ⟨(dig b).length - 1, by omega⟩
  have h2 := dig_low hk
  have h3 := dpw_mono (show (dig a).length ≤ k from by omega)
  omega
theorem dig_len_mono {a b : Nat} (h : a ≤ b) : (dig a).length ≤ (dig b).length := by
  rcases Nat.lt_or_ge (dig b).length (dig a).length with h1 | h1
  · have := dig_len_lt h1; omega
  · exact h1
/-- digits from a place on are alike, the one before is smaller. -/
theorem dval_cmp {a b : List Int} (ha : isD a) (hb : isD b) (hl : a.length = b.length) {i : Nat} (hi : i < a.length) (hs : ∀ j, i < j → nth a j = nth b j) (hlt : nth a i < nth b i) : dval a < dval b := by
  have key : ∀ k, dval (a.take (i + 1 + k)) < dval (b.take (i + 1 + k)) := by
    intro k
    induction k with
    | zero =>
      rw [Nat.add_zero, dval_take, dval_take]
      have h1 := dval_range (isD_take ha i)
      have h2 := dval_range (isD_take hb i)
      rw [List.length_take, Nat.min_eq_left (by omega)] at h1 h2
      have h5 := Int.mul_le_mul_of_nonneg_right (show nth a i + 1 ≤ nth b i from by omega) (Int.le_of_lt (dpw_pos i))
      rw [Int.add_mul] at h5
      omega
    | succ k ih =>
      rw [← Nat.add_assoc, dval_take, dval_take, hs _ (by omega)]
      omega
  have := key a.length
  rwa [List.take_of_length_le (by omega), List.take_of_length_le (by omega)] at this
theorem list_nth_eq {a b : List Int} (hl : a.length = b.length) (h : ∀ i, nth a i = nth b i) : a = b := by
  apply List.ext_getElem hl
  intro i h1 h2
  have := h i
  rwa [dnth_lt h1, dnth_lt h2] at this
/-- the sign of a number. -/
def sg (z : Int) : Int := if z < 0 then -1 else if z = 0 then 0 else 1
theorem dig_dval {l : List Int} {n : Nat} (h : l = dig n) : dval l = n := by rw [h, dval_dig]
end Go.Proofs.Ytlmdmpjfehpjeaa

/- Wide numbers: a value that is one; digits trimmed, compared, read. -/
set_option linter.unusedVariables false
set_option linter.unusedSimpArgs false
namespace Go.Proofs.Ytlmdmpjfehpjeaa
open Go.RowKit

/-- a slice of ints that lies in a block of a kind. -/
def DigIn (w : World) (v : Value) (l : List Int) (N : Nat → Prop) : Prop := SlIn w v l.length 1 (fun i _ => .int .i64 (nth l i)) N
theorem DigIn.ints {w : World} {v : Value} {l : List Int} {N : Nat → Prop} (h : DigIn w v l N) : IntsAt w v l := SlIn.sl h
theorem DigIn.keep {w w' : World} {v : Value} {l : List Int} {N N' : Nat → Prop} (h : DigIn w v l N) (hs : w.heap.size ≤ w'.heap.size) (hk : ∀ b, b < w.heap.size → N b → w'.heap[b]? = w.heap[b]? ∧ N' b) : DigIn w' v l N' := SlIn.keep h hs hk
theorem DigIn.mono {w w' : World} {v : Value} {l : List Int} {N N' : Nat → Prop} (h : DigIn w v l N) (hb : Below w.heap.size w w') (hk : ∀ b, b < w.heap.size → N b → N' b) : DigIn w' v l N' :=
  DigIn.keep h hb.size fun b hlt hN => ⟨hb.block b hlt, hk b hlt hN⟩
theorem IntsAt.dig {w : World} {v : Value} {l : List Int} (h : IntsAt w v l) : DigIn w v l (fun b => b < w.heap.size) := by
  obtain ⟨ao, cap, rfl, h1, h2, h3, h4⟩ := h
  exact ⟨ao, cap, rfl, h1, h2, fun h0 => by obtain ⟨b, off, e, hlt, hc⟩ := h3 h0; exact ⟨b, off, e, hlt, hlt, hc⟩, h4⟩
theorem ownsRow_dig {w : World} {base : Nat} {e : TypeId} {v : Value} {l : List Int} (h : w.ownsRow base e 1 v l.length (l.map (Value.int .i64))) : DigIn w v l (fun b => base ≤ b) := by
  have h1 := ownsRow_in (c := fun i _ => .int .i64 (nth l i)) (by rw [flat_ints]; exact h)
  exact SlIn.keep h1 (Nat.le_refl _) (fun b _ hN => ⟨rfl, hN.1⟩)
/-- a value is a wide number, in blocks of a kind. -/
def WideAt (w : World) (v : Value) (z : Int) (N : Nat → Prop) : Prop := ∃ ao cap, v = .agg #[.int .i64 (sg z), .slice ao (dig z.natAbs).length cap] ∧ DigIn w (.slice ao (dig z.natAbs).length cap) (dig z.natAbs) N
theorem WideAt.keep {w w' : World} {v : Value} {z : Int} {N N' : Nat → Prop} (h : WideAt w v z N) (hs : w.heap.size ≤ w'.heap.size) (hk : ∀ b, b < w.heap.size → N b → w'.heap[b]? = w.heap[b]? ∧ N' b) : WideAt w' v z N' := by
  obtain ⟨ao, cap, rfl, h1⟩ := h
  exact ⟨ao, cap, rfl, h1.keep hs hk⟩
theorem WideAt.mono {w w' : World} {v : Value} {z : Int} {N N' : Nat → Prop} (h : WideAt w v z N) (hb : Below w.heap.size w w') (hk : ∀ b, b < w.heap.size → N b → N' b) : WideAt w' v z N' :=
  WideAt.keep h hb.size fun b hlt hN => ⟨hb.block b hlt, hk b hlt hN⟩
/-- the call returns a wide number in blocks of a kind, and leaves old memory alone. -/
def RetWide (w : World) (z : Int) (N : Nat → Prop) (e : Ending) (w' : World) : Prop := ∃ v, e = .returned v ∧ WideAt w' v z N ∧ Below w.heap.size w w'

theorem IntsAt.prefix {w : World} {ao : Option Addr} {l : List Int} {cap n : Nat} (h : IntsAt w (.slice ao l.length cap) l) (hn : n ≤ l.length) : IntsAt w (.slice ao n cap) (l.take n) := by
  obtain ⟨ao', cap', e, h1, h2, h3, h4⟩ := h
  cases e
  refine ⟨ao, cap, by rw [List.length_take, Nat.min_eq_left hn], by rw [List.length_take, Nat.min_eq_left hn]; omega, h2, fun h0 => ?_, h4⟩
  rw [List.length_take, Nat.min_eq_left hn] at h0 ⊢
  obtain ⟨b, off, e, hlt, hc⟩ := h3 (by omega)
  refine ⟨b, off, e, hlt, fun i j hi hj => ?_⟩
  rw [hc i j (by omega) hj]
  simp [List.getD_eq_getElem?_getD, List.getElem?_take, hi]

theorem trim_ex (l : List Int) : ∃ n, n ≤ l.length ∧ (∀ j, n ≤ j → nth l j = 0) ∧ (n = 0 ∨ nth l (n - 1) ≠ 0) := by
  have key : ∀ n, n ≤ l.length → (∀ j, n ≤ j → nth l j = 0) → ∃ n, n ≤ l.length ∧ (∀ j, n ≤ j → nth l j = 0) ∧ (n = 0 ∨ nth l (n - 1) ≠ 0) := by
    intro n
    induction n with
    | zero => intro h1 h2; exact ⟨0, h1, h2, Or.inl rfl⟩
    | succ n ih =>
      intro h1 h2
      by_cases h : nth l n = 0
      · refine ih (by omega) (fun j hj => ?_)
        rcases Nat.lt_or_ge n j with h3 | h3
        · exact h2 j h3
        · rw [show j = n from by omega]; exact h
      · exact ⟨n + 1, h1, h2, Or.inr h⟩
  exact key l.length (Nat.le_refl _) (fun j hj => dnth_ge hj)
/-- the digits of what digits mean. -/
def tri (l : List Int) : List Int := dig (dval l).toNat
theorem tri_take {l : List Int} (hd : isD l) : l.take (tri l).length = tri l ∧ (tri l).length ≤ l.length := by
  obtain ⟨n, h1, h2, h3⟩ := trim_ex l
  have h4 := trim_eq hd h1 h2 h3
  have h5 := congrArg List.length h4
  rw [List.length_take, Nat.min_eq_left h1] at h5
  unfold tri
  rw [← h5]
  exact ⟨h4, h1⟩
theorem tri_at {w : World} {ao : Option Addr} {l : List Int} {cap : Nat} (h : IntsAt w (.slice ao l.length cap) l) (hd : isD l) : IntsAt w (.slice ao (tri l).length cap) (tri l) := by
  obtain ⟨h1, h2⟩ := tri_take hd
  have := h.prefix h2
  rwa [h1] at this
theorem DigIn.trim {w : World} {ao : Option Addr} {l : List Int} {cap : Nat} {N : Nat → Prop} (h : DigIn w (.slice ao l.length cap) l N) (hd : isD l) : DigIn w (.slice ao (tri l).length cap) (tri l) N := by
  obtain ⟨e1, e2⟩ := tri_take hd
  obtain ⟨ao', cap', e, h1, h2, h3, h4⟩ := h
  cases e
  refine ⟨ao, cap, rfl, by omega, h2, fun h0 => ?_, h4⟩
  obtain ⟨b, off, e, hlt, hN, hc⟩ := h3 (by omega)
  refine ⟨b, off, e, hlt, hN, fun i j hi hj => ?_⟩
  rw [hc i j (by omega) hj]
  have : nth l i = nth (tri l) i := by
    rw [← e1]; simp [nth, List.getD_eq_getElem?_getD, List.getElem?_take, hi]
  simp only [this]

set_option maxRecDepth 100000 in
set_option maxHeartbeats 1000000 in
theorem base_trimmed (l : List Int) (ao : Option Addr) (cap : Nat) (w : World) (h : IntsAt w (.slice ao l.length cap) l) (hd : isD l) :
    Calls Try.prog 152 #[.slice ao l.length cap] w fun e w' => e = .returned (.slice ao (tri l).length cap) ∧ w = w' := by
  obtain ⟨ao', cap', e, h1, h2, h3⟩ := h.opn
  cases e
  unfold maxLen at h2
  clear h
  go_enter Try.func152, Try.ntmps152
  go_wp2_with fail
  go_loop [3] (fun i => ∃ n : Nat, n ≤ l.length ∧ i = .int .i64 n ∧ Hid (∀ j, n ≤ j → nth l j = 0)) (fun i => (intOf i).toNat)
  case atStart => exact ⟨l.length, Nat.le_refl _, rfl, hid (fun j hj => dnth_ge hj)⟩
  case round =>
    obtain ⟨n, hn, rfl, HZ⟩ := hrel
    by_cases h0 : n = 0
    · subst h0
      have HE : Hid ((tri l).length = 0) := hid (by unfold tri; rw [← trim_eq hd (Nat.zero_le _) HZ.out (Or.inl rfl)]; rfl)
      go_wp2_with fail
      go_ret
      exact ⟨by rw [HE.out]; rfl, rfl⟩
    · obtain ⟨m, rfl⟩ : ∃ m, n = m + 1 := ⟨n - 1, by omega⟩
      obtain ⟨b, off, rfl, hb, hc⟩ := h3 m (by omega)
      have c0 := hc m (by omega)
      obtain ⟨d, hdd⟩ : ∃ d, d = nth l m := ⟨_, rfl⟩
      rw [← hdd] at c0
      have HD := hid hdd
      clear hc h3 hdd
      have hpos : (0 : Int) < ((m + 1 : Nat) : Int) := by omega
      by_cases hz : d = 0
      · subst hz
        go_wp2_with fail
        go_round
        case rel =>
          refine ⟨m, by omega, by go_num, hid (fun j hj => ?_)⟩
          rcases Nat.lt_or_ge m j with h | h
          · exact HZ.out j h
          · rw [show j = m from by omega]; exact HD.out.symm
        case measure => simp [intOf]
      · have HE : Hid ((tri l).length = m + 1) := hid (by
          unfold tri
          rw [← trim_eq hd hn HZ.out (Or.inr (by rw [Nat.add_sub_cancel, ← HD.out]; exact hz)), List.length_take]; omega)
        go_wp2_with fail
        go_ret
        exact ⟨by rw [HE.out]; rfl, rfl⟩

set_option maxRecDepth 100000 in
set_option maxHeartbeats 1000000 in
theorem base_digit (l : List Int) (v : Value) (w : World) (h : IntsAt w v l) (i : Nat) (hi : i ≤ 9000000000000000000) :
    Calls Try.prog 156 #[v, .int .i64 i] w fun e w' => e = .returned (.int .i64 (nth l i)) ∧ w = w' := by
  obtain ⟨ao, cap, rfl, h1, h2, h3⟩ := h.opn
  unfold maxLen at h2
  by_cases hlt : i < l.length
  · obtain ⟨b, off, rfl, hb, hc⟩ := h3 i hlt
    have c0 := hc i hlt
    obtain ⟨d, hd⟩ : ∃ d, d = nth l i := ⟨_, rfl⟩
    rw [← hd] at c0 ⊢
    clear hc h3 h hd
    go_enter Try.func156, Try.ntmps156
    go_wp2_with fail
    go_ret
    exact ⟨rfl, rfl⟩
  · have HE := hid (dnth_ge (l := l) (i := i) (by omega))
    clear h3 h
    go_enter Try.func156, Try.ntmps156
    go_wp2_with fail
    go_ret
    exact ⟨by rw [HE.out]; rfl, rfl⟩

def cmpN (a b : Nat) : Int := if a < b then -1 else if a = b then 0 else 1

set_option maxRecDepth 100000 in
set_option maxHeartbeats 1000000 in
theorem base_cmpDigits (a b : Nat) (u v : Value) (w : World) (h : IntsAt w u (dig a)) (g : IntsAt w v (dig b)) :
    Calls Try.prog 150 #[u, v] w fun e w' => e = .returned (.int .i64 (cmpN a b)) ∧ Below w.heap.size w w' := by
  obtain ⟨ao, cap, rfl, h1, h2, h3⟩ := h.opn
  obtain ⟨bo, cap2, rfl, g1, g2, g3⟩ := g.opn
  obtain ⟨la, hla⟩ : ∃ la, la = dig a := ⟨_, rfl⟩
  obtain ⟨lb, hlb⟩ : ∃ lb, lb = dig b := ⟨_, rfl⟩
  rw [← hla] at h1 h3 ⊢
  rw [← hlb] at g1 g3 ⊢
  have HA := hid hla
  have HB := hid hlb
  unfold maxLen at h2 g2
  clear h g hla hlb
  by_cases hl : la.length = lb.length
  · have HL := hid hl
    go_enter Try.func150, Try.ntmps150
    go_wp2_with fail
    go_loopw [5] (fun i wr => ∃ n : Nat, n ≤ la.length ∧ i = .int .i64 ((n : Int) - 1) ∧ Hid (∀ j, n ≤ j → nth la j = nth lb j) ∧ Below w.heap.size w wr) (fun i _ => (intOf i + 1).toNat)
    case atStart => exact ⟨la.length, Nat.le_refl _, by go_num, hid (fun j hj => by rw [dnth_ge hj, dnth_ge (by omega)]), Below.refl _ _⟩
    case round =>
      obtain ⟨n, hn, rfl, HZ, hbel⟩ := hrel
      by_cases h0 : n = 0
      · subst h0
        have HE : Hid (cmpN a b = 0) := hid (by
          have : la = lb := list_nth_eq HL.out (fun i => HZ.out i (Nat.zero_le _))
          rw [HA.out, HB.out] at this
          have := congrArg dval this
          rw [dval_dig, dval_dig] at this
          unfold cmpN; rw [if_neg (by omega), if_pos (by omega)])
        go_wp2_with fail
        go_ret
        exact ⟨by rw [HE.out]; rfl, by (repeat (with_reducible first | exact Below.refl _ _ | assumption | refine Below.drewN _ ?_ | refine Below.drew ?_ | refine Below_alloc ?_ _ | refine Below.alloc ?_ (by first | (simp; done) | (simp; omega) | omega) _ | refine Below.setCell ?_ (by first | (simp; done) | (simp; omega) | omega) _ | refine Below_call ?_ (by assumption) | refine Below.trans ?_ (by assumption)))⟩
      · obtain ⟨m, rfl⟩ : ∃ m, n = m + 1 := ⟨n - 1, by omega⟩
        obtain ⟨b1, off1, rfl, hb1, hc1⟩ := h3 m (by omega)
        obtain ⟨b2, off2, rfl, hb2, hc2⟩ := g3 m (by omega)
        have c1 := (hbel.cell (p := ⟨b1, off1 + m, none⟩) hb1).trans (hc1 m (by omega))
        have c2 := (hbel.cell (p := ⟨b2, off2 + m, none⟩) hb2).trans (hc2 m (by omega))
        have hzw := hbel.size
        have hbw1 : b1 < wr.heap.size := by omega
        have hbw2 : b2 < wr.heap.size := by omega
        obtain ⟨d, hd⟩ : ∃ d, d = nth la m := ⟨_, rfl⟩
        obtain ⟨e, he⟩ : ∃ e, e = nth lb m := ⟨_, rfl⟩
        rw [← hd] at c1
        rw [← he] at c2
        have HD := hid hd
        have HEE := hid he
        clear hc1 hc2 h3 g3 hd he
        rw [show ((m + 1 : Nat) : Int) - 1 = m from by omega]
        have HS : Hid (∀ j, m < j → nth la j = nth lb j) := hid (fun j hj => HZ.out j hj)
        rcases Int.lt_trichotomy d e with hlt | heq | hgt
        · have HE : Hid (cmpN a b = -1) := hid (by
            have := dval_cmp (by rw [HA.out]; exact isD_dig a) (by rw [HB.out]; exact isD_dig b) HL.out (show m < la.length by omega) HS.out (by rw [← HD.out, ← HEE.out]; exact hlt)
            rw [HA.out, HB.out, dval_dig, dval_dig] at this
            unfold cmpN; rw [if_pos (by omega)])
          go_wp2_with fail
          refine wp_mixC (fun wc => Below (w.heap.size) wr wc) 9 [.q [0, 1, 2, 3, 4, 5, 6, 7, 8]] [] (by kernel_rfl) (by kernel_rfl) ((Below.refl _ _).drew) ?_
          intro Q' hQ'
          (rw [wpMixC]; simp only [pick, List.drop_succ_cons, List.drop_zero, List.head?_cons, Option.toList_some, List.cons_append, List.nil_append])
          (repeat (first | go_big_quiet_skip | (go_big_quiet_want; refine quiet_simple rfl ?_; go_big_quiet_op; go_big_quiet_on) | (go_big_quiet_want; refine quiet_cellB (ty := 3) rfl rfl (by kernel_rfl) (by assumption) (by first | omega | (simp; omega)) ?_; simp only [Act.put, List.setIfInBounds_toArray, List.set_cons_succ, List.set_cons_zero]; go_big_quiet_on)))
          (try refine wpQuiet_nil ?_)
          (rw [wpMixC])
          (rw [wpMix])
          (refine hQ' _ _ ?_)
          go_wp2_with fail
          go_ret
          exact ⟨by rw [HE.out]; rfl, by (repeat (with_reducible first | exact Below.refl _ _ | assumption | refine Below.drewN _ ?_ | refine Below.drew ?_ | refine Below_alloc ?_ _ | refine Below.alloc ?_ (by first | (simp; done) | (simp; omega) | omega) _ | refine Below.setCell ?_ (by first | (simp; done) | (simp; omega) | omega) _ | refine Below_call ?_ (by assumption) | refine Below.trans ?_ (by assumption)))⟩
        · subst heq
          go_wp2_with fail
          refine wp_mixC (fun wc => Below (w.heap.size) wr wc) 9 [.q [0, 1, 2, 3, 4, 5, 6, 7, 8]] [] (by kernel_rfl) (by kernel_rfl) ((Below.refl _ _).drew) ?_
          intro Q' hQ'
          (rw [wpMixC]; simp only [pick, List.drop_succ_cons, List.drop_zero, List.head?_cons, Option.toList_some, List.cons_append, List.nil_append])
          (repeat (first | go_big_quiet_skip | (go_big_quiet_want; refine quiet_simple rfl ?_; go_big_quiet_op; go_big_quiet_on) | (go_big_quiet_want; refine quiet_cellB (ty := 3) rfl rfl (by kernel_rfl) (by assumption) (by first | omega | (simp; omega)) ?_; simp only [Act.put, List.setIfInBounds_toArray, List.set_cons_succ, List.set_cons_zero]; go_big_quiet_on)))
          (try refine wpQuiet_nil ?_)
          (rw [wpMixC])
          (rw [wpMix])
          (refine hQ' _ _ ?_)
          go_wp2_with fail
          have c1' : wr.drew.cell? ⟨b1, off1 + m, none⟩ = _ := c1
          have c2' : wr.drew.cell? ⟨b2, off2 + m, none⟩ = _ := c2
          refine wp_mixC (fun wc => Below (w.heap.size) wr.drew wc) 9 [.q [0, 1, 2, 3, 4, 5, 6, 7, 8]] [] (by kernel_rfl) (by kernel_rfl) ((Below.refl _ _).drew) ?_
          intro Q' hQ'
          (rw [wpMixC]; simp only [pick, List.drop_succ_cons, List.drop_zero, List.head?_cons, Option.toList_some, List.cons_append, List.nil_append])
          (repeat (first | go_big_quiet_skip | (go_big_quiet_want; refine quiet_simple rfl ?_; go_big_quiet_op; go_big_quiet_on) | (go_big_quiet_want; refine quiet_cellB (ty := 3) rfl rfl (by kernel_rfl) (by assumption) (by first | omega | (simp; omega)) ?_; simp only [Act.put, List.setIfInBounds_toArray, List.set_cons_succ, List.set_cons_zero]; go_big_quiet_on)))
          (try refine wpQuiet_nil ?_)
          (rw [wpMixC])
          (rw [wpMix])
          (refine hQ' _ _ ?_)
          go_wp2_with fail
          go_roundw
          case rel =>
            refine ⟨m, by omega, by go_num, hid (fun j hj => ?_), by (repeat (with_reducible first | exact Below.refl _ _ | assumption | refine Below.drewN _ ?_ | refine Below.drew ?_ | refine Below_alloc ?_ _ | refine Below.alloc ?_ (by first | (simp; done) | (simp; omega) | omega) _ | refine Below.setCell ?_ (by first | (simp; done) | (simp; omega) | omega) _ | refine Below_call ?_ (by assumption) | refine Below.trans ?_ (by assumption)))⟩
            rcases Nat.lt_or_ge m j with h | h
            · exact HZ.out j h
            · rw [show j = m from by omega, ← HD.out, ← HEE.out]
          case measure => simp [intOf]
        · have HE : Hid (cmpN a b = 1) := hid (by
            have := dval_cmp (by rw [HB.out]; exact isD_dig b) (by rw [HA.out]; exact isD_dig a) HL.out.symm (show m < lb.length by omega) (fun j hj => (HS.out j hj).symm) (by rw [← HD.out, ← HEE.out]; exact hgt)
            rw [HA.out, HB.out, dval_dig, dval_dig] at this
            unfold cmpN; rw [if_neg (by omega), if_neg (by omega)])
          go_wp2_with fail
          refine wp_mixC (fun wc => Below (w.heap.size) wr wc) 9 [.q [0, 1, 2, 3, 4, 5, 6, 7, 8]] [] (by kernel_rfl) (by kernel_rfl) ((Below.refl _ _).drew) ?_
          intro Q' hQ'
          (rw [wpMixC]; simp only [pick, List.drop_succ_cons, List.drop_zero, List.head?_cons, Option.toList_some, List.cons_append, List.nil_append])
          (repeat (first | go_big_quiet_skip | (go_big_quiet_want; refine quiet_simple rfl ?_; go_big_quiet_op; go_big_quiet_on) | (go_big_quiet_want; refine quiet_cellB (ty := 3) rfl rfl (by kernel_rfl) (by assumption) (by first | omega | (simp; omega)) ?_; simp only [Act.put, List.setIfInBounds_toArray, List.set_cons_succ, List.set_cons_zero]; go_big_quiet_on)))
          (try refine wpQuiet_nil ?_)
          (rw [wpMixC])
          (rw [wpMix])
          (refine hQ' _ _ ?_)
          go_wp2_with fail
          have c1' : wr.drew.cell? ⟨b1, off1 + m, none⟩ = _ := c1
          have c2' : wr.drew.cell? ⟨b2, off2 + m, none⟩ = _ := c2
          refine wp_mixC (fun wc => Below (w.heap.size) wr.drew wc) 9 [.q [0, 1, 2, 3, 4, 5, 6, 7, 8]] [] (by kernel_rfl) (by kernel_rfl) ((Below.refl _ _).drew) ?_
          intro Q' hQ'
          (rw [wpMixC]; simp only [pick, List.drop_succ_cons, List.drop_zero, List.head?_cons, Option.toList_some, List.cons_append, List.nil_append])
          (repeat (first | go_big_quiet_skip | (go_big_quiet_want; refine quiet_simple rfl ?_; go_big_quiet_op; go_big_quiet_on) | (go_big_quiet_want; refine quiet_cellB (ty := 3) rfl rfl (by kernel_rfl) (by assumption) (by first | omega | (simp; omega)) ?_; simp only [Act.put, List.setIfInBounds_toArray, List.set_cons_succ, List.set_cons_zero]; go_big_quiet_on)))
          (try refine wpQuiet_nil ?_)
          (rw [wpMixC])
          (rw [wpMix])
          (refine hQ' _ _ ?_)
          go_wp2_with fail
          go_ret
          exact ⟨by rw [HE.out]; rfl, by (repeat (with_reducible first | exact Below.refl _ _ | assumption | refine Below.drewN _ ?_ | refine Below.drew ?_ | refine Below_alloc ?_ _ | refine Below.alloc ?_ (by first | (simp; done) | (simp; omega) | omega) _ | refine Below.setCell ?_ (by first | (simp; done) | (simp; omega) | omega) _ | refine Below_call ?_ (by assumption) | refine Below.trans ?_ (by assumption)))⟩
  · have HL : Hid ((la.length < lb.length → cmpN a b = -1) ∧ (lb.length < la.length → cmpN a b = 1)) := hid (by
      rw [HA.out, HB.out]
      refine ⟨fun h => ?_, fun h => ?_⟩
      · have := dig_len_lt h; unfold cmpN; rw [if_pos this]
      · have := dig_len_lt h; unfold cmpN; rw [if_neg (by omega), if_neg (by omega)])
    by_cases hlt : la.length < lb.length
    · go_enter Try.func150, Try.ntmps150
      go_wp2_with fail
      go_ret
      exact ⟨by rw [HL.out.1 hlt]; rfl, by (repeat (with_reducible first | exact Below.refl _ _ | assumption | refine Below.drewN _ ?_ | refine Below.drew ?_ | refine Below_alloc ?_ _ | refine Below.alloc ?_ (by first | (simp; done) | (simp; omega) | omega) _ | refine Below.setCell ?_ (by first | (simp; done) | (simp; omega) | omega) _ | refine Below_call ?_ (by assumption) | refine Below.trans ?_ (by assumption)))⟩
    · go_enter Try.func150, Try.ntmps150
      go_wp2_with fail
      go_ret
      exact ⟨by rw [HL.out.2 (by omega)]; rfl, by (repeat (with_reducible first | exact Below.refl _ _ | assumption | refine Below.drewN _ ?_ | refine Below.drew ?_ | refine Below_alloc ?_ _ | refine Below.alloc ?_ (by first | (simp; done) | (simp; omega) | omega) _ | refine Below.setCell ?_ (by first | (simp; done) | (simp; omega) | omega) _ | refine Below_call ?_ (by assumption) | refine Below.trans ?_ (by assumption)))⟩

end Go.Proofs.Ytlmdmpjfehpjeaa

