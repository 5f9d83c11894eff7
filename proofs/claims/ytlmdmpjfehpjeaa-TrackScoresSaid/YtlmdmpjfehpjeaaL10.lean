/- Tracks: hits copied, numbers compared. -/
import Derived.Test.YtlmdmpjfehpjeaaL9
import Derived.Test.YtlmdmpjfehpjeaaL5
set_option linter.unusedVariables false
set_option linter.unusedSimpArgs false
namespace Go.Proofs.Ytlmdmpjfehpjeaa
open Go.RowKit

theorem elemHit : Elem Try.prog 61 92 5 40 := Elem.mk (z := .agg #[.int .i64 0, .int .i64 0, .int .i64 0, .int .i64 0, .int .i64 0]) Try.underlying61 (by kernel_rfl) rfl (by decide)
theorem hcell_one (x : THit) (j : Nat) : (x.cell j).oneCell' = true := by
  unfold THit.cell; split <;> rfl
def RetHits (w : World) (l : List THit) (e : Ending) (w' : World) : Prop := ∃ ao cap, e = .returned (.slice ao l.length cap) ∧ HitsAt w' (.slice ao l.length cap) l ∧ Below w.heap.size w w'
set_option maxRecDepth 100000 in
theorem ref_CopyHits (l : List THit) (v : Value) (w : World) (h : HitsAt w v l) (hl : l.length ≤ 100) :
    Calls Try.prog 30 #[v] w (RetHits w l) := by
  obtain ⟨ao, cap, rfl, h1, h2, h3⟩ := SlAt.src h
  have HE : (w.alloc (.cells #[] 92)).ownsRow w.heap.size 92 5 (.slice (some ⟨w.heap.size, 0, none⟩) 0 0) 0 [] := ownsRow_empty w elemHit
  have HS := h3 (w.alloc (.cells #[] 92)) ((Below.refl _ _).alloc (Nat.le_refl _) _)
  clear h3
  go_enter Try.func30, Try.ntmps30
  go_wp2_with (at_builtin; go_must (refine wpList_append_list rfl (.tmp 3) (.tmp 4) _ rfl elemHit w.heap.size (.slice (some ⟨w.heap.size, 0, none⟩) 0 0) 0 [] rfl HE ao l.length cap _ rfl (flat_len _ _ _) (flat_one fun i j _ _ => hcell_one _ j) HS (by omega) (by unfold maxLen; omega) (by simp) ?_); intro v3 w3 hown4 hp4 _)
  go_ret
  rw [Nat.zero_add, List.nil_append] at hown4
  have hs : HitsAt w3 v3 l := ownsRow_sl hown4
  obtain ⟨ao', cap', rfl, _, _, _⟩ := hs.opn
  exact ⟨_, _, rfl, hs, ((Below.refl _ _).alloc (Nat.le_refl _) _).trans hp4.below⟩

/-- the same numbers. -/
theorem base_Ints (l m : List Int) (v u : Value) (w : World) (h : IntsAt w v l) (h' : IntsAt w u m) :
    Calls Try.prog 34 #[v, u] w fun e w' => e = .returned (.bool (decide (l = m))) ∧ ∃ k, w' = w.drewN k := by
  obtain ⟨ao, cap, rfl, h1, h2, h3⟩ := h.opn
  obtain ⟨ao', cap', rfl, h1', h2', h3'⟩ := h'.opn
  unfold maxLen at h2 h2'
  by_cases hlen : l.length = m.length
  · rw [← hlen] at h3' h1' ⊢
    have HLEN := hid hlen
    clear hlen h h'
    go_enter Try.func34, Try.ntmps34
    go_wp2_with fail
    go_loopw [5] (fun i wr => ∃ k : Nat, k ≤ l.length ∧ i = .int .i64 k ∧ Hid (l.take k = m.take k) ∧ ∃ q, wr = w.drewN q) (fun i _ => l.length - (intOf i).toNat)
    case atStart => exact ⟨0, Nat.zero_le _, rfl, hid (by simp), 0, rfl⟩
    case round =>
      obtain ⟨k, hk, rfl, HZ, q, rfl⟩ := hrel
      by_cases hlt : k < l.length
      · obtain ⟨b, off, rfl, hb, hc⟩ := h3 k hlt
        obtain ⟨b', off', rfl, hb', hc'⟩ := h3' k hlt
        have hck := hc k hlt
        have hck' := hc' k hlt
        obtain ⟨y, hy⟩ : ∃ y, y = nth l k := ⟨_, rfl⟩
        obtain ⟨y', hy'⟩ : ∃ y', y' = nth m k := ⟨_, rfl⟩
        rw [← hy] at hck
        rw [← hy'] at hck'
        have HY := hid hy
        have HY' := hid hy'
        clear hc h3 hc' h3' hy hy'
        cases ht : (y != y')
        · have HT := hid ht
          go_wp2_with fail
          ((refine wp_three [] [0, 1, 2, 3, 4, 5, 6, 7] 8 (by kernel_rfl) (by kernel_rfl) ?_); (intro _ _); (simp only [pick, List.drop_succ_cons, List.drop_zero, List.head?_cons, Option.toList_some, List.cons_append, List.nil_append]); (repeat (first | (go_big_quiet_step (fail)) | (quiet_step (fail)))); (try refine wpQuiet_nil ?_); (repeat (first | (go_big_quiet_step (fail)) | (quiet_step (fail)))); (try refine wpQuiet_nil ?_); (intro nq))
          go_wp2
          go_roundw
          case rel =>
            refine ⟨k + 1, by omega, by go_num, hid ?_, q + nq, by simp⟩
            have : y = y' := by simpa using HT.out
            rw [take_nth hlt, take_nth (by have := HLEN.out; omega), HZ.out, ← HY.out, ← HY'.out, this]
          case measure => simp [intOf]; omega
        · have HT := hid ht
          go_wp2_with fail
          ((refine wp_three [] [0, 1, 2, 3, 4, 5, 6, 7] 8 (by kernel_rfl) (by kernel_rfl) ?_); (intro _ _); (simp only [pick, List.drop_succ_cons, List.drop_zero, List.head?_cons, Option.toList_some, List.cons_append, List.nil_append]); (repeat (first | (go_big_quiet_step (fail)) | (quiet_step (fail)))); (try refine wpQuiet_nil ?_); (repeat (first | (go_big_quiet_step (fail)) | (quiet_step (fail)))); (try refine wpQuiet_nil ?_); (intro nq))
          go_wp2
          go_ret
          refine ⟨ret_bool ?_, q + nq, by simp⟩
          have hne : y ≠ y' := by simpa using HT.out
          have : l ≠ m := fun e => hne (by rw [HY.out, HY'.out, e])
          simp [this]
      · have hkl : k = l.length := by omega
        subst hkl
        go_wp2_with fail
        go_ret
        refine ⟨ret_bool ?_, q, rfl⟩
        have := HZ.out
        rw [List.take_length, HLEN.out, List.take_length] at this
        simp [this]
  · have hne : ¬ ((l.length : Int) = (m.length : Int)) := by omega
    go_enter Try.func34, Try.ntmps34
    go_wp2_with fail
    go_ret
    refine ⟨ret_bool ?_, 0, rfl⟩
    have : l ≠ m := fun e => hlen (by rw [e])
    simp [this]
end Go.Proofs.Ytlmdmpjfehpjeaa

/- Tracks: scores by the program. -/
set_option linter.unusedVariables false
set_option linter.unusedSimpArgs false
namespace Go.Proofs.Ytlmdmpjfehpjeaa
open Go.RowKit

theorem score_take (m : TMod) (s : V3) {l : List THit} {k : Nat} (h : k < l.length) : m.score s (l.take (k + 1)) = m.score s (l.take k) + m.pen s (hitAt l k) := by
  rw [hitAt_take h]; unfold TMod.score TMod.pens; rw [List.map_append, List.foldl_append]; rfl
theorem pen_rg {m : TMod} {s : V3} {h : THit} (ho : m.Ok) (hh : h.Ok) : -10000 ≤ m.pen s h ∧ m.pen s h ≤ 10000 := by
  have h1 := mul_rg (x := h.w) (y := m.mi) (A := 100) (B := 100) (C := 10000) (by have := hh.w; omega) (by have := ho.mi; omega) (by decide)
  have h2 := mul_rg (x := h.w) (y := m.no) (A := 100) (B := 100) (C := 10000) (by have := hh.w; omega) (by have := ho.no; omega) (by decide)
  unfold TMod.pen
  split
  · exact h1
  · split
    · exact h2
    · omega
theorem hitsE_ok {l : List THit} (h : hitsE l = 0) : l.length ≤ 12 ∧ ∀ i, i < l.length → (hitAt l i).Ok := by
  unfold hitsE at h
  split at h
  · cases h
  · next hb => exact ⟨by omega, fun i hi => hit_ok (scan_zero h i hi)⟩

set_option maxRecDepth 100000 in
set_option maxHeartbeats 4000000 in
theorem track_score (m : TMod) (s : V3) (l : List THit) (v : Value) (w : World) (h : HitsAt w v l) (hl : l.length ≤ 12) (hok : ∀ i, i < l.length → (hitAt l i).Ok) (ho : m.Ok) (hs : s.inS 20 = true) (hpm : m.permit s) :
    Calls Try.prog 91 #[m.v, s.v, v] w fun e w' => e = .returned (.int .i64 (m.score s l)) ∧ Below w.heap.size w w' := by
  obtain ⟨ao, cap, rfl, h1, h2, h3⟩ := h.opn
  unfold maxLen at h2
  have HPE : Hid (∀ i, i < l.length → ∀ W, Calls Try.prog 90 #[m.v, s.v, (hitAt l i).v] W fun e w' => e = .returned (.int .i64 (m.pen s (hitAt l i))) ∧ Below W.heap.size W w') := hid (fun i hi W => track_penalty m s _ W ho hs hpm (hok i hi))
  have HRG : Hid (∀ i, i < l.length → -10000 ≤ m.pen s (hitAt l i) ∧ m.pen s (hitAt l i) ≤ 10000) := hid (fun i hi => pen_rg ho (hok i hi))
  have HST : Hid (∀ k, k < l.length → m.score s (l.take (k + 1)) = m.score s (l.take k) + m.pen s (hitAt l k)) := hid (fun k hk => score_take m s hk)
  have HS0 : Hid (m.score s (l.take 0) = 0) := hid (by simp [TMod.score, TMod.pens])
  have HSN : Hid (m.score s (l.take l.length) = m.score s l) := hid (by rw [List.take_length])
  generalize hSC : m.score s l = SC at HSN ⊢
  clear hSC
  generalize hFK : (fun k => m.score s (l.take k)) = FK
  have HFK : Hid (∀ k, m.score s (l.take k) = FK k) := hid (fun k => by rw [← hFK])
  simp only [HFK.out] at HST HS0 HSN
  generalize hPK : (fun k => m.pen s (hitAt l k)) = PK
  have HPK : Hid (∀ k, m.pen s (hitAt l k) = PK k) := hid (fun k => by rw [← hPK])
  simp only [HPK.out] at HST HRG HPE
  clear hFK HFK hPK HPK h hok ho hs hpm
  obtain ⟨px, py, pz, tm, tk, lo, hi, li, ea, la, no, mi⟩ := m
  obtain ⟨sx, sy, sz⟩ := s
  unfold TMod.v V3.v at *
  simp only at *
  obtain ⟨W0, hW0⟩ : ∃ W0, W0 = (w.alloc (.cells #[.int .i64 px, .int .i64 py, .int .i64 pz, .int .i64 tm, .int .i64 tk, .int .i64 lo, .int .i64 hi, .int .i64 li, .int .i64 ea, .int .i64 la, .int .i64 no, .int .i64 mi] 134)).alloc (.cells #[.int .i64 sx, .int .i64 sy, .int .i64 sz] 135) := ⟨_, rfl⟩
  have hbW0 : Below w.heap.size w W0 := by rw [hW0]; (repeat (with_reducible first | exact Below.refl _ _ | assumption | refine Below.drewN _ ?_ | refine Below.drew ?_ | refine Below_alloc ?_ _ | refine Below.alloc ?_ (by first | (simp; done) | (simp; omega) | omega) _ | refine Below.setCell ?_ (by first | (simp; done) | (simp; omega) | omega) _ | refine Below_call ?_ (by assumption) | refine Below.trans ?_ (by assumption)))
  obtain ⟨q0, q1, l0, l1⟩ := al2 w _ _ _ _ W0 hW0
  have Q0 := hid q0
  have Q1 := hid q1
  have hzW0 := hbW0.size
  clear q0 q1
  go_enter Try.func91, Try.ntmps91
  go_wp2_with fail
  rw [← hW0]
  clear hW0
  go_loopw [7, 12] (fun n i wr => ∃ (k : Nat) (N : Int), k ≤ l.length ∧ i = .int .i64 k ∧ n = .int .i64 N ∧ Hid (N = FK k) ∧ -10000 * (k : Int) ≤ N ∧ N ≤ 10000 * (k : Int) ∧ Below W0.heap.size W0 wr) (fun _ i _ => l.length - (intOf i).toNat)
  case atStart => exact ⟨0, 0, Nat.zero_le _, rfl, rfl, hid HS0.out.symm, by omega, by omega, Below.refl _ _⟩
  case round =>
    obtain ⟨k, N, hk, rfl, rfl, HN, hN1, hN2, hbel⟩ := hrel
    have hzw := hbel.size
    by_cases hlt : k < l.length
    · obtain ⟨b, off, rfl, hb, hc⟩ := h3 k hlt
      obtain ⟨c0, c1, c2, c3, c4⟩ := hc k hlt
      have hbx : Below w.heap.size w wr := hbW0.trans (hbel.mono hzW0)
      have hcb : ∀ o, wr.cell? ⟨b, o, none⟩ = w.cell? ⟨b, o, none⟩ := fun o => hbx.cell (p := ⟨b, o, none⟩) hb
      rw [← hcb] at c0 c1 c2 c3 c4
      have hbw : b < wr.heap.size := by omega
      have HP := hid (HPE.out k hlt)
      have hR := HRG.out k hlt
      have HT := hid (HST.out k hlt)
      generalize hX : hitAt l k = x at *
      generalize PK k = PN at hR HT HP
      obtain ⟨⟨x0, x1, x2⟩, t, u⟩ := x
      simp only [THit.v] at *
      clear hX hc h3 hcb HPE HRG
      obtain ⟨W1, hW1⟩ : ∃ W1, W1 = wr.alloc (.cells #[.int .i64 x0, .int .i64 x1, .int .i64 x2, .int .i64 t, .int .i64 u] 92) := ⟨_, rfl⟩
      have HW1 := hid hW1
      have hB1 : Below wr.heap.size wr W1 := by rw [hW1]; (repeat (with_reducible first | exact Below.refl _ _ | assumption | refine Below.drewN _ ?_ | refine Below.drew ?_ | refine Below_alloc ?_ _ | refine Below.alloc ?_ (by first | (simp; done) | (simp; omega) | omega) _ | refine Below.setCell ?_ (by first | (simp; done) | (simp; omega) | omega) _ | refine Below_call ?_ (by assumption) | refine Below.trans ?_ (by assumption)))
      have l0r : w.heap.size < wr.heap.size := by omega
      have l1r : w.heap.size + 1 < wr.heap.size := by omega
      obtain ⟨m0, m1, m2, m3, m4, m5, m6, m7, m8, m9, m10, m11, ml⟩ := tw_cells ((hbel.block w.heap.size l0).trans Q0.out)
      obtain ⟨s0, s1, s2, fs0, fs1, fs2, hls⟩ := three_cells ((hbel.block (w.heap.size + 1) l1).trans Q1.out)
      clear hW1 fs0 fs1 fs2
      go_wp2_with (go_at_call 90; rw [← HW1.out]; refine (HP.out _).mono ?_; rintro _ w2 ⟨rfl, hb2⟩)
      go_roundw
      case rel => exact ⟨k + 1, N + PN, by omega, by go_num, by go_num, hid (by rw [HT.out, HN.out]), by push_cast; omega, by push_cast; omega, (hbel.trans (hB1.mono hzw)).trans (hb2.mono (Nat.le_trans hzw hB1.size))⟩
      case measure => simp [intOf]; omega
    · have hkl : k = l.length := by omega
      subst hkl
      have hbx : Below w.heap.size w wr := hbW0.trans (hbel.mono hzW0)
      go_wp2_with fail
      go_ret
      exact ⟨ret_int (by rw [HN.out]; exact HSN.out), hbx⟩

set_option maxRecDepth 100000 in
set_option maxHeartbeats 4000000 in
theorem track_ScoreOf (m : TMod) (s : V3) (l : List THit) (v : Value) (w : World) (h : HitsAt w v l) :
    Calls Try.prog 32 #[m.v, s.v, v] w fun e w' => (firstNZ [m.both s, hitsE l] = 0 → e = .returned (.tuple #[.int .i64 (m.score s l), .int .i64 0])) ∧ (firstNZ [m.both s, hitsE l] ≠ 0 → e = .returned (.tuple #[.int .i64 0, .int .i64 (firstNZ [m.both s, hitsE l])])) ∧ Below w.heap.size w w' := by
  have HO : Hid (∀ W, Calls Try.prog 73 #[m.v, s.v] W fun e w' => e = .returned (.tuple #[m.v, s.v, .int .i64 (m.both s)]) ∧ Below W.heap.size W w') := hid (fun W => track_openStep m s W)
  have HM : Hid (∀ W, Below w.heap.size w W → Calls Try.prog 89 #[v] W fun e w' => e = .returned (.int .i64 (hitsE l)) ∧ Below W.heap.size W w') := hid (fun W hb => track_hitsErr l v W (h.below hb))
  have HFI : Hid (∀ v w, IntsAt w v [m.both s, hitsE l] → Calls Try.prog 69 #[v] w fun e w' => e = .returned (.int .i64 (firstNZ [m.both s, hitsE l])) ∧ w = w') := hid (fun v w h => track_first _ v w h)
  have HR : Hid (firstNZ [m.both s, hitsE l] = 0 → ∀ W, Below w.heap.size w W → Calls Try.prog 91 #[m.v, s.v, v] W fun e w' => e = .returned (.int .i64 (m.score s l)) ∧ Below W.heap.size W w') := hid (fun h0 W hb => by
    obtain ⟨h1, h2⟩ := two_zero h0
    obtain ⟨o1, o2, o3, o4⟩ := both_ok h1
    obtain ⟨g1, g2⟩ := hitsE_ok h2
    exact track_score m s l v W (h.below hb) g1 g2 o1 o2 o3)
  obtain ⟨ao, cap, rfl, _, _, _⟩ := h.opn
  clear h
  generalize firstNZ [m.both s, hitsE l] = E1 at HFI HR ⊢
  generalize m.both s = EB at HO HFI
  generalize hitsE l = EM at HM HFI
  generalize m.score s l = R at HR ⊢
  obtain ⟨px, py, pz, tm, tk, lo, hi, li, ea, la, no, mi⟩ := m
  obtain ⟨sx, sy, sz⟩ := s
  unfold TMod.v V3.v at *
  simp only at *
  obtain ⟨W0, hW0⟩ : ∃ W0, W0 = (w.alloc (.cells #[.int .i64 px, .int .i64 py, .int .i64 pz, .int .i64 tm, .int .i64 tk, .int .i64 lo, .int .i64 hi, .int .i64 li, .int .i64 ea, .int .i64 la, .int .i64 no, .int .i64 mi] 26)).alloc (.cells #[.int .i64 sx, .int .i64 sy, .int .i64 sz] 22) := ⟨_, rfl⟩
  have hbW0 : Below w.heap.size w W0 := by rw [hW0]; (repeat (with_reducible first | exact Below.refl _ _ | assumption | refine Below.drewN _ ?_ | refine Below.drew ?_ | refine Below_alloc ?_ _ | refine Below.alloc ?_ (by first | (simp; done) | (simp; omega) | omega) _ | refine Below.setCell ?_ (by first | (simp; done) | (simp; omega) | omega) _ | refine Below_call ?_ (by assumption) | refine Below.trans ?_ (by assumption)))
  have hzW0 := hbW0.size
  have hcase : E1 = 0 ∨ E1 ≠ 0 := by omega
  rcases hcase with h1 | h1
  · subst h1
    have HR2 := hid (HR.out rfl)
    go_enter Try.func32, Try.ntmps32
    go_wp2_with (first | (go_at_call 73; rw [← hW0]; refine (HO.out _).mono ?_; rintro _ w1 ⟨rfl, hb1⟩; have hz1 := hb1.size) | (go_at_call 89; obtain ⟨WB, hWB⟩ : ∃ WB, WB = (w1.alloc (.cells #[.int .i64 px, .int .i64 py, .int .i64 pz, .int .i64 tm, .int .i64 tk, .int .i64 lo, .int .i64 hi, .int .i64 li, .int .i64 ea, .int .i64 la, .int .i64 no, .int .i64 mi] 134)).alloc (.cells #[.int .i64 sx, .int .i64 sy, .int .i64 sz] 135) := ⟨_, rfl⟩; rw [← hWB]; have hbWB : Below w1.heap.size w1 WB := (by rw [hWB]; (repeat (with_reducible first | exact Below.refl _ _ | assumption | refine Below.drewN _ ?_ | refine Below.drew ?_ | refine Below_alloc ?_ _ | refine Below.alloc ?_ (by first | (simp; done) | (simp; omega) | omega) _ | refine Below.setCell ?_ (by first | (simp; done) | (simp; omega) | omega) _ | refine Below_call ?_ (by assumption) | refine Below.trans ?_ (by assumption)))); obtain ⟨r0, r1, hr0, hr1⟩ := al2 w1 _ _ _ _ WB hWB; clear hWB; have hbWw : Below w.heap.size w WB := (hbW0.trans (hb1.mono hzW0)).trans (hbWB.mono (Nat.le_trans hzW0 hz1)); refine (HM.out _ hbWw).mono ?_; rintro _ w2 ⟨rfl, hb2⟩; have hbf : Below w.heap.size w w2 := hbWw.trans (hb2.mono hbWw.size); have R0 := hid ((hb2.block w1.heap.size hr0).trans r0); have R1 := hid ((hb2.block (w1.heap.size + 1) hr1).trans r1); obtain ⟨m0, m1, m2, m3, m4, m5, m6, m7, m8, m9, m10, m11, ml⟩ := tw_cells (R0.out); obtain ⟨s0, s1, s2, fs0, fs1, fs2, hls⟩ := three_cells R1.out; clear fs0 fs1 fs2 r0 r1) | (go_at_call 69; refine (HFI.out _ _ (intsAt_new _ _ _ _ _ rfl (by simp) (by first | rfl | simp))).mono ?_; rintro _ _ ⟨rfl, rfl⟩) | (go_at_call 91; refine (HR2.out _ (by (repeat (with_reducible first | exact Below.refl _ _ | assumption | refine Below.drewN _ ?_ | refine Below.drew ?_ | refine Below_alloc ?_ _ | refine Below.alloc ?_ (by first | (simp; done) | (simp; omega) | omega) _ | refine Below.setCell ?_ (by first | (simp; done) | (simp; omega) | omega) _ | refine Below_call ?_ (by assumption) | refine Below.trans ?_ (by assumption))))).mono ?_; rintro _ w3 ⟨rfl, hb3⟩))
    ((try simp only [Exit.inBlock, Exit.then]); refine bodyPost_ret (v := .tuple #[.int .i64 R, .int .i64 0]) ?_ rfl ?_; (next => simp [results, Try.results32, go_sem]))
    exact ⟨fun _ => rfl, fun h => absurd rfl h, by (repeat (with_reducible first | exact Below.refl _ _ | assumption | refine Below.drewN _ ?_ | refine Below.drew ?_ | refine Below_alloc ?_ _ | refine Below.alloc ?_ (by first | (simp; done) | (simp; omega) | omega) _ | refine Below.setCell ?_ (by first | (simp; done) | (simp; omega) | omega) _ | refine Below_call ?_ (by assumption) | refine Below.trans ?_ (by assumption)))⟩
  · have hne : (E1 != 0) = true := by simpa using h1
    have HN := hid h1
    clear h1
    go_enter Try.func32, Try.ntmps32
    go_wp2_with (first | (go_at_call 73; rw [← hW0]; refine (HO.out _).mono ?_; rintro _ w1 ⟨rfl, hb1⟩; have hz1 := hb1.size) | (go_at_call 89; obtain ⟨WB, hWB⟩ : ∃ WB, WB = (w1.alloc (.cells #[.int .i64 px, .int .i64 py, .int .i64 pz, .int .i64 tm, .int .i64 tk, .int .i64 lo, .int .i64 hi, .int .i64 li, .int .i64 ea, .int .i64 la, .int .i64 no, .int .i64 mi] 134)).alloc (.cells #[.int .i64 sx, .int .i64 sy, .int .i64 sz] 135) := ⟨_, rfl⟩; rw [← hWB]; have hbWB : Below w1.heap.size w1 WB := (by rw [hWB]; (repeat (with_reducible first | exact Below.refl _ _ | assumption | refine Below.drewN _ ?_ | refine Below.drew ?_ | refine Below_alloc ?_ _ | refine Below.alloc ?_ (by first | (simp; done) | (simp; omega) | omega) _ | refine Below.setCell ?_ (by first | (simp; done) | (simp; omega) | omega) _ | refine Below_call ?_ (by assumption) | refine Below.trans ?_ (by assumption)))); obtain ⟨r0, r1, hr0, hr1⟩ := al2 w1 _ _ _ _ WB hWB; clear hWB; have hbWw : Below w.heap.size w WB := (hbW0.trans (hb1.mono hzW0)).trans (hbWB.mono (Nat.le_trans hzW0 hz1)); refine (HM.out _ hbWw).mono ?_; rintro _ w2 ⟨rfl, hb2⟩; have hbf : Below w.heap.size w w2 := hbWw.trans (hb2.mono hbWw.size); have R0 := hid ((hb2.block w1.heap.size hr0).trans r0); have R1 := hid ((hb2.block (w1.heap.size + 1) hr1).trans r1); obtain ⟨m0, m1, m2, m3, m4, m5, m6, m7, m8, m9, m10, m11, ml⟩ := tw_cells (R0.out); obtain ⟨s0, s1, s2, fs0, fs1, fs2, hls⟩ := three_cells R1.out; clear fs0 fs1 fs2 r0 r1) | (go_at_call 69; refine (HFI.out _ _ (intsAt_new _ _ _ _ _ rfl (by simp) (by first | rfl | simp))).mono ?_; rintro _ _ ⟨rfl, rfl⟩))
    ((try simp only [Exit.inBlock, Exit.then]); refine bodyPost_ret (v := .tuple #[.int .i64 0, .int .i64 E1]) ?_ rfl ?_; (next => simp [results, Try.results32, go_sem]))
    exact ⟨fun h => absurd h HN.out, fun _ => rfl, by (repeat (with_reducible first | exact Below.refl _ _ | assumption | refine Below.drewN _ ?_ | refine Below.drew ?_ | refine Below_alloc ?_ _ | refine Below.alloc ?_ (by first | (simp; done) | (simp; omega) | omega) _ | refine Below.setCell ?_ (by first | (simp; done) | (simp; omega) | omega) _ | refine Below_call ?_ (by assumption) | refine Below.trans ?_ (by assumption)))⟩
end Go.Proofs.Ytlmdmpjfehpjeaa

/- Tracks: penalties by the reference. -/
set_option linter.unusedVariables false
set_option linter.unusedSimpArgs false
namespace Go.Proofs.Ytlmdmpjfehpjeaa
open Go.RowKit

/-- the call returns numbers, and leaves old memory alone. -/
def RetNums (w : World) (l : List Int) (e : Ending) (w' : World) : Prop := ∃ ao cap, e = .returned (.slice ao l.length cap) ∧ IntsAt w' (.slice ao l.length cap) l ∧ Below w.heap.size w w'
theorem ownsRow_nums {w : World} {base : Nat} {e : TypeId} {v : Value} {l : List Int} (h : w.ownsRow base e 1 v l.length (l.map (Value.int .i64))) : ∃ ao cap, v = .slice ao l.length cap ∧ IntsAt w (.slice ao l.length cap) l := by
  have h0 : w.ownsRow base e 1 v l.length (flat l.length 1 (fun i _ => .int .i64 (nth l i))) := by rw [flat_ints]; exact h
  have h1 : IntsAt w v l := ownsRow_sl h0
  obtain ⟨ao, cap, rfl, _, _, _⟩ := h1.opn
  exact ⟨ao, cap, rfl, h1⟩
theorem pens_take (m : TMod) (s : V3) {l : List THit} {k : Nat} (h : k < l.length) : m.pens s (l.take (k + 1)) = m.pens s (l.take k) ++ [m.pen s (hitAt l k)] := by
  rw [hitAt_take h]; unfold TMod.pens; rw [List.map_append]; rfl
theorem pens_len (m : TMod) (s : V3) (l : List THit) : (m.pens s l).length = l.length := by unfold TMod.pens; simp

set_option maxRecDepth 100000 in
set_option maxHeartbeats 16000000 in
theorem ref_Penalties (m : TMod) (s : V3) (l : List THit) (v : Value) (w : World) (h : HitsAt w v l) (hl : l.length ≤ 12) (hok : ∀ i, i < l.length → (hitAt l i).Ok) (ho : m.Ok) (hs : s.inS 20 = true) (hpm : m.permit s) :
    Calls Try.prog 35 #[m.v, s.v, v] w (RetNums w (m.pens s l)) := by
  obtain ⟨ao, cap, rfl, h1, h2, h3⟩ := h.opn
  unfold maxLen at h2
  have HR1 : Hid (∀ k, k < l.length → ∀ W, Calls Try.prog 22 #[m.v, s.v, .agg #[.int .i64 (hitAt l k).p.x, .int .i64 (hitAt l k).p.y, .int .i64 (hitAt l k).p.z], .int .i64 ((hitAt l k).t + m.ea)] W fun e w' => e = .returned (.bool (m.reached s (hitAt l k).p ((hitAt l k).t + m.ea))) ∧ Below W.heap.size W w') := hid (fun k hk W => ref_Reached m s _ _ W ho hs hpm (hok k hk).p (by have h1 := (hok k hk).t; have h2 := ho.ea; omega))
  have HR2 : Hid (∀ k, k < l.length → ∀ W, Calls Try.prog 22 #[m.v, s.v, .agg #[.int .i64 (hitAt l k).p.x, .int .i64 (hitAt l k).p.y, .int .i64 (hitAt l k).p.z], .int .i64 ((hitAt l k).t - m.la - 1)] W fun e w' => e = .returned (.bool (m.reached s (hitAt l k).p ((hitAt l k).t - m.la - 1))) ∧ Below W.heap.size W w') := hid (fun k hk W => ref_Reached m s _ _ W ho hs hpm (hok k hk).p (by have h1 := (hok k hk).t; have h2 := ho.la; omega))
  have HTM : Hid (∀ k, k < l.length → -10000 ≤ (hitAt l k).t ∧ (hitAt l k).t ≤ 10000) := hid (fun k hk => (hok k hk).t)
  have HPR : Hid (∀ k, k < l.length → IntKind.i64.wrap ((hitAt l k).w * m.mi) = (hitAt l k).w * m.mi ∧ IntKind.i64.wrap ((hitAt l k).w * m.no) = (hitAt l k).w * m.no) := hid (fun k hk => by
    have g1 := mul_rg (x := (hitAt l k).w) (y := m.mi) (A := 100) (B := 100) (C := 10000) (by have := (hok k hk).w; omega) (by have := ho.mi; omega) (by decide)
    have g2 := mul_rg (x := (hitAt l k).w) (y := m.no) (A := 100) (B := 100) (C := 10000) (by have := (hok k hk).w; omega) (by have := ho.no; omega) (by decide)
    exact ⟨IntWalk.i64_in _ (by omega), IntWalk.i64_in _ (by omega)⟩)
  have HEA : Hid ((0 ≤ m.ea ∧ m.ea ≤ 100) ∧ (0 ≤ m.la ∧ m.la ≤ 100)) := hid ⟨ho.ea, ho.la⟩
  have HPN : Hid (∀ k, m.pen s (hitAt l k) = if m.reached s (hitAt l k).p ((hitAt l k).t + m.ea) = false then (hitAt l k).w * m.mi else if m.reached s (hitAt l k).p ((hitAt l k).t - m.la - 1) = true then (hitAt l k).w * m.no else 0) := hid (fun k => rfl)
  have HST : Hid (∀ k, k < l.length → m.pens s (l.take (k + 1)) = m.pens s (l.take k) ++ [m.pen s (hitAt l k)]) := hid (fun k hk => pens_take m s hk)
  have HLN : Hid (∀ k, k ≤ l.length → (m.pens s (l.take k)).length = k) := hid (fun k hk => by rw [pens_len, List.length_take]; omega)
  have HS0 : Hid (m.pens s (l.take 0) = []) := hid (by simp [TMod.pens])
  have HSN : Hid (m.pens s (l.take l.length) = m.pens s l ∧ (m.pens s l).length = l.length) := hid ⟨by rw [List.take_length], pens_len m s l⟩
  generalize hSC : m.pens s l = SC at HSN ⊢
  clear hSC
  generalize hFK : (fun k => m.pens s (l.take k)) = FK
  have HFK : Hid (∀ k, m.pens s (l.take k) = FK k) := hid (fun k => by rw [← hFK])
  simp only [HFK.out] at HST HLN HS0 HSN
  clear hFK HFK
  generalize hPK : (fun k => m.pen s (hitAt l k)) = PK
  have HPK : Hid (∀ k, m.pen s (hitAt l k) = PK k) := hid (fun k => by rw [← hPK])
  simp only [HPK.out] at HST HPN
  clear hPK HPK
  generalize m.reached s = RR at HR1 HR2 HPN
  clear h hok ho hs hpm
  obtain ⟨px, py, pz, tm, tk, lo, hi, li, ea, la, no, mi⟩ := m
  obtain ⟨sx, sy, sz⟩ := s
  unfold TMod.v V3.v at *
  simp only at *
  obtain ⟨W0, hW0⟩ : ∃ W0, W0 = (w.alloc (.cells #[.int .i64 px, .int .i64 py, .int .i64 pz, .int .i64 tm, .int .i64 tk, .int .i64 lo, .int .i64 hi, .int .i64 li, .int .i64 ea, .int .i64 la, .int .i64 no, .int .i64 mi] 26)).alloc (.cells #[.int .i64 sx, .int .i64 sy, .int .i64 sz] 22) := ⟨_, rfl⟩
  have hbW0 : Below w.heap.size w W0 := by rw [hW0]; (repeat (with_reducible first | exact Below.refl _ _ | assumption | refine Below.drewN _ ?_ | refine Below.drew ?_ | refine Below_alloc ?_ _ | refine Below.alloc ?_ (by first | (simp; done) | (simp; omega) | omega) _ | refine Below.setCell ?_ (by first | (simp; done) | (simp; omega) | omega) _ | refine Below_call ?_ (by assumption) | refine Below.trans ?_ (by assumption)))
  obtain ⟨q0, q1, l0, l1⟩ := al2 w _ _ _ _ W0 hW0
  have Q0 := hid q0
  have Q1 := hid q1
  have hzW0 := hbW0.size
  clear q0 q1
  go_enter Try.func35, Try.ntmps35
  go_wp2_with fail
  rw [← hW0]
  clear hW0
  go_loopw [7, 8] (fun o i wr => ∃ (k : Nat), k ≤ l.length ∧ i = .int .i64 k ∧ wr.ownsRow W0.heap.size 3 1 o k ((FK k).map (Value.int .i64)) ∧ Below W0.heap.size W0 wr) (fun _ i _ => l.length - (intOf i).toNat)
  case atStart => exact ⟨0, Nat.zero_le _, rfl, by rw [HS0.out]; exact World.ownsRow_nil _ _ _ _, Below.refl _ _⟩
  case round =>
    obtain ⟨k, hk, rfl, hown, hbel⟩ := hrel
    obtain ⟨oo, on, oc, rfl⟩ := ownsRow_shape hown
    have hzr := hbel.size
    have hbx : Below w.heap.size w wr := hbW0.trans (hbel.mono hzW0)
    have HBX := hid hbx
    by_cases hlt : k < l.length
    · obtain ⟨bb, off, rfl, hb, hcc⟩ := h3 k hlt
      obtain ⟨d0, d1, d2, d3, d4⟩ := hcc k hlt
      have HC1 := hid (HR1.out k hlt)
      have HC2 := hid (HR2.out k hlt)
      have HP := HPR.out k hlt
      have ht := HTM.out k hlt
      have hea := HEA.out
      have HN := hid (HST.out k hlt)
      have HV := hid (HPN.out k)
      have HFL := hid (HLN.out k hk)
      generalize hitAt l k = x at *
      generalize RR x.p (x.t + ea) = R1 at HC1 HV
      generalize RR x.p (x.t - la - 1) = R2 at HC2 HV
      obtain ⟨TE, hTE⟩ : ∃ TE, x.t + ea = TE := ⟨_, rfl⟩
      obtain ⟨TA, hTA⟩ : ∃ TA, x.t - la = TA := ⟨_, rfl⟩
      obtain ⟨TL, hTL⟩ : ∃ TL, TA - 1 = TL := ⟨_, rfl⟩
      have kE : IntKind.i64.wrap (x.t + ea) = TE := by rw [hTE]; exact IntWalk.i64_in _ (by omega)
      have kA : IntKind.i64.wrap (x.t - la) = TA := by rw [hTA]; exact IntWalk.i64_in _ (by omega)
      have kL : IntKind.i64.wrap (TA - 1) = TL := by rw [hTL]; exact IntWalk.i64_in _ (by omega)
      rw [hTE] at HC1
      rw [hTA, hTL] at HC2
      obtain ⟨MI, hMI⟩ : ∃ MI, x.w * mi = MI := ⟨_, rfl⟩
      obtain ⟨NO, hNO⟩ : ∃ NO, x.w * no = NO := ⟨_, rfl⟩
      have kM : IntKind.i64.wrap (x.w * mi) = MI := by rw [HP.1]; exact hMI
      have kN : IntKind.i64.wrap (x.w * no) = NO := by rw [HP.2]; exact hNO
      rw [hMI, hNO] at HV
      generalize PK k = PN at HV HN
      generalize hFX : FK k = xs at hown HN HFL
      clear hFX
      obtain ⟨⟨x0, x1, x2⟩, t, u⟩ := x
      simp only at *
      clear HP hTE hTA hTL hMI hNO hcc h3 HR1 HR2 HTM HPR HPN HST HLN ht hea hbx
      have lay : ∀ w2 : World, Below wr.heap.size wr w2 → Below W0.heap.size W0 w2 := fun w2 h => hbel.trans (h.mono hzr)
      have LAY := hid lay
      clear lay
      have hb0 : Below w.heap.size w wr := HBX.out
      have e0 : wr.cell? ⟨bb, off + k * 5, none⟩ = some (.int .i64 x0) := (hb0.cell (p := ⟨bb, _, none⟩) hb).trans d0
      have e1 : wr.cell? ⟨bb, off + k * 5 + 1, none⟩ = some (.int .i64 x1) := (hb0.cell (p := ⟨bb, _, none⟩) hb).trans d1
      have e2 : wr.cell? ⟨bb, off + k * 5 + 2, none⟩ = some (.int .i64 x2) := (hb0.cell (p := ⟨bb, _, none⟩) hb).trans d2
      have e3 : wr.cell? ⟨bb, off + k * 5 + 3, none⟩ = some (.int .i64 t) := (hb0.cell (p := ⟨bb, _, none⟩) hb).trans d3
      have hbw : bb < wr.heap.size := by omega
      obtain ⟨m0, m1, m2, m3, m4, m5, m6, m7, m8, m9, m10, m11, ml⟩ := tw_cells ((hbel.block w.heap.size l0).trans Q0.out)
      obtain ⟨s0, s1, s2, fs0, fs1, fs2, hls⟩ := three_cells ((hbel.block (w.heap.size + 1) l1).trans Q1.out)
      clear fs0 fs1 fs2
      have D := hid (And.intro d0 (And.intro d1 (And.intro d2 (And.intro d3 d4))))
      have HOWN := hid hown
      clear d0 d1 d2 d3 d4 hown hb0
      go_wp2_with fail
      refine wp_mixC (fun wc => Below (wr.heap.size) wr wc) 17 [.q [0, 1, 2, 3, 4, 5, 6, 7, 8, 9, 10, 11, 12, 13, 14], .f [15], .q [16]] [] (by kernel_rfl) (by kernel_rfl) ((Below.refl _ _).drew) ?_
      intro Q' hQ'
      (rw [wpMixC]; simp only [pick, List.drop_succ_cons, List.drop_zero, List.head?_cons, Option.toList_some, List.cons_append, List.nil_append])
      (repeat (first | go_big_quiet_skip | (go_big_quiet_want; refine quiet_simple rfl ?_; go_big_quiet_op; go_big_quiet_on) | (go_big_quiet_want; refine quiet_cellB (ty := 3) rfl rfl (by kernel_rfl) (by assumption) (by first | omega | (simp; omega)) ?_; simp only [Act.put, List.setIfInBounds_toArray, List.set_cons_succ, List.set_cons_zero]; go_big_quiet_on) | (go_big_quiet_want; refine quiet_agg3B (ty := 22) rfl rfl (by kernel_rfl) (by assumption) (by assumption) (by assumption) (by first | omega | (simp; omega)) ?_; simp only [Act.put, List.setIfInBounds_toArray, List.set_cons_succ, List.set_cons_zero]; go_big_quiet_on) | (go_big_quiet_want; refine quiet_agg12B (ty := 26) rfl rfl (by kernel_rfl) (by assumption) (by assumption) (by assumption) (by assumption) (by assumption) (by assumption) (by assumption) (by assumption) (by assumption) (by assumption) (by assumption) (by assumption) (by first | omega | (simp; omega)) ?_; simp only [Act.put, List.setIfInBounds_toArray, List.set_cons_succ, List.set_cons_zero]; go_big_quiet_on)))
      (try refine wpQuiet_nil ?_)
      (rw [wpMixC]; simp only [pick, List.drop_succ_cons, List.drop_zero, List.head?_cons, Option.toList_some, List.cons_append, List.nil_append])
      (rw [wpSteps]; go_wp2_with ((go_at_call 22; ((with_reducible refine (HC1.out _).mono ?_); rintro _ w2 ⟨rfl, hb2⟩))); rw [contF]; refine ⟨?_, ?_⟩; (next => (repeat (with_reducible first | exact Below.refl _ _ | assumption | refine Below.drewN _ ?_ | refine Below.drew ?_ | refine Below_alloc ?_ _ | refine Below.alloc ?_ (by first | (simp; done) | (simp; omega) | omega) _ | refine Below.setCell ?_ (by first | (simp; done) | (simp; omega) | omega) _ | refine Below_call ?_ (by assumption) | refine Below.trans ?_ (by assumption)))))
      (rw [wpSteps])
      (rw [wpMixC]; simp only [pick, List.drop_succ_cons, List.drop_zero, List.head?_cons, Option.toList_some, List.cons_append, List.nil_append])
      (repeat (first | go_big_quiet_skip | (go_big_quiet_want; refine quiet_simple rfl ?_; go_big_quiet_op; go_big_quiet_on) | (go_big_quiet_want; refine quiet_cellB (ty := 3) rfl rfl (by kernel_rfl) (by assumption) (by first | omega | (simp; omega)) ?_; simp only [Act.put, List.setIfInBounds_toArray, List.set_cons_succ, List.set_cons_zero]; go_big_quiet_on) | (go_big_quiet_want; refine quiet_agg3B (ty := 22) rfl rfl (by kernel_rfl) (by assumption) (by assumption) (by assumption) (by first | omega | (simp; omega)) ?_; simp only [Act.put, List.setIfInBounds_toArray, List.set_cons_succ, List.set_cons_zero]; go_big_quiet_on) | (go_big_quiet_want; refine quiet_agg12B (ty := 26) rfl rfl (by kernel_rfl) (by assumption) (by assumption) (by assumption) (by assumption) (by assumption) (by assumption) (by assumption) (by assumption) (by assumption) (by assumption) (by assumption) (by assumption) (by first | omega | (simp; omega)) ?_; simp only [Act.put, List.setIfInBounds_toArray, List.set_cons_succ, List.set_cons_zero]; go_big_quiet_on)))
      (try refine wpQuiet_nil ?_)
      (rw [wpMixC])
      (rw [wpMix])
      (refine hQ' _ _ ?_)
      have HB2 : Hid (Below wr.heap.size wr w2) := hid (by (repeat (with_reducible first | exact Below.refl _ _ | assumption | refine Below.drewN _ ?_ | refine Below.drew ?_ | refine Below_alloc ?_ _ | refine Below.alloc ?_ (by first | (simp; done) | (simp; omega) | omega) _ | refine Below.setCell ?_ (by first | (simp; done) | (simp; omega) | omega) _ | refine Below_call ?_ (by assumption) | refine Below.trans ?_ (by assumption))))
      clear e0 e1 e2 e3 m0 m1 m2 m3 m4 m5 m6 m7 m8 m9 m10 m11 ml s0 s1 s2 hls hbw hb2
      cases R1
      · have HPV : Hid (PN = MI) := hid (by rw [HV.out]; rfl)
        have hb2 := HB2.out
        obtain ⟨d0, d1, d2, d3, d4⟩ := D.out
        have e0 : w2.cell? ⟨bb, off + k * 5, none⟩ = some (.int .i64 x0) := ((HBX.out.trans (hb2.mono HBX.out.size)).cell (p := ⟨bb, _, none⟩) hb).trans d0
        have e1 : w2.cell? ⟨bb, off + k * 5 + 1, none⟩ = some (.int .i64 x1) := ((HBX.out.trans (hb2.mono HBX.out.size)).cell (p := ⟨bb, _, none⟩) hb).trans d1
        have e2 : w2.cell? ⟨bb, off + k * 5 + 2, none⟩ = some (.int .i64 x2) := ((HBX.out.trans (hb2.mono HBX.out.size)).cell (p := ⟨bb, _, none⟩) hb).trans d2
        have e3 : w2.cell? ⟨bb, off + k * 5 + 3, none⟩ = some (.int .i64 t) := ((HBX.out.trans (hb2.mono HBX.out.size)).cell (p := ⟨bb, _, none⟩) hb).trans d3
        have e4 : w2.cell? ⟨bb, off + k * 5 + 4, none⟩ = some (.int .i64 u) := ((HBX.out.trans (hb2.mono HBX.out.size)).cell (p := ⟨bb, _, none⟩) hb).trans d4
        have hbw : bb < w2.heap.size := by have := hb2.size; omega
        have hb0 := LAY.out _ hb2
        obtain ⟨m0, m1, m2, m3, m4, m5, m6, m7, m8, m9, m10, m11, ml⟩ := tw_cells ((hb0.block w.heap.size l0).trans Q0.out)
        obtain ⟨s0, s1, s2, fs0, fs1, fs2, hls⟩ := three_cells ((hb0.block (w.heap.size + 1) l1).trans Q1.out)
        clear fs0 fs1 fs2 d0 d1 d2 d3 d4 hb0
        go_wp2_with fail
        refine wp_mixC (fun wc => Below (w2.heap.size) w2 wc) 8 [.q [0, 1, 2, 3, 4, 5, 6, 7]] [.q [8]] (by kernel_rfl) (by kernel_rfl) ((Below.refl _ _).drew) ?_
        intro Q' hQ'
        (rw [wpMixC]; simp only [pick, List.drop_succ_cons, List.drop_zero, List.head?_cons, Option.toList_some, List.cons_append, List.nil_append])
        (repeat (first | go_big_quiet_skip | (go_big_quiet_want; refine quiet_simple rfl ?_; go_big_quiet_op; go_big_quiet_on) | (go_big_quiet_want; refine quiet_cellB (ty := 3) rfl rfl (by kernel_rfl) (by assumption) (by first | omega | (simp; omega)) ?_; simp only [Act.put, List.setIfInBounds_toArray, List.set_cons_succ, List.set_cons_zero]; go_big_quiet_on)))
        (try refine wpQuiet_nil ?_)
        (rw [wpMixC])
        (rw [wpMix]; simp only [pick, List.drop_succ_cons, List.drop_zero, List.head?_cons, Option.toList_some, List.cons_append, List.nil_append])
        (repeat (first | (go_big_quiet_step (fail)) | (quiet_step (fail))))
        (try refine wpQuiet_nil ?_)
        (rw [wpMix])
        (refine hQ' _ _ ?_)
        obtain ⟨V, hV⟩ : ∃ V, V = w2.drew := ⟨_, rfl⟩
        rw [← hV]
        have hbwV : Below wr.heap.size wr V := by rw [hV]; exact hb2.drew
        clear hV e0 e1 e2 e3 e4
        have hownV := ownsRow_below HOWN.out hbwV
        have hbV := LAY.out _ hbwV
        have hzV := hbV.size
        clear m0 m1 m2 m3 m4 m5 m6 m7 m8 m9 m10 m11 ml s0 s1 s2 hls hbw
        go_wp2_with (at_builtin; refine wpList_push rfl _ _ _ rfl elemInt W0.heap.size _ k _ rfl V hownV [.int .i64 MI] rfl (by simp [Value.oneCell']) rfl _ rfl rfl (by omega) (by unfold maxLen; omega) hzV ?_; intro v1 w9 hown3 hb9 _ _)
        go_roundw
        case rel => exact ⟨k + 1, by omega, by go_num, by rw [HN.out, HPV.out, List.map_append]; exact hown3, hbV.trans hb9⟩
        case measure => simp [intOf]; omega
      · have hb2 := HB2.out
        obtain ⟨d0, d1, d2, d3, d4⟩ := D.out
        have e0 : w2.cell? ⟨bb, off + k * 5, none⟩ = some (.int .i64 x0) := ((HBX.out.trans (hb2.mono HBX.out.size)).cell (p := ⟨bb, _, none⟩) hb).trans d0
        have e1 : w2.cell? ⟨bb, off + k * 5 + 1, none⟩ = some (.int .i64 x1) := ((HBX.out.trans (hb2.mono HBX.out.size)).cell (p := ⟨bb, _, none⟩) hb).trans d1
        have e2 : w2.cell? ⟨bb, off + k * 5 + 2, none⟩ = some (.int .i64 x2) := ((HBX.out.trans (hb2.mono HBX.out.size)).cell (p := ⟨bb, _, none⟩) hb).trans d2
        have e3 : w2.cell? ⟨bb, off + k * 5 + 3, none⟩ = some (.int .i64 t) := ((HBX.out.trans (hb2.mono HBX.out.size)).cell (p := ⟨bb, _, none⟩) hb).trans d3
        have e4 : w2.cell? ⟨bb, off + k * 5 + 4, none⟩ = some (.int .i64 u) := ((HBX.out.trans (hb2.mono HBX.out.size)).cell (p := ⟨bb, _, none⟩) hb).trans d4
        have hbw : bb < w2.heap.size := by have := hb2.size; omega
        have hb0 := LAY.out _ hb2
        obtain ⟨m0, m1, m2, m3, m4, m5, m6, m7, m8, m9, m10, m11, ml⟩ := tw_cells ((hb0.block w.heap.size l0).trans Q0.out)
        obtain ⟨s0, s1, s2, fs0, fs1, fs2, hls⟩ := three_cells ((hb0.block (w.heap.size + 1) l1).trans Q1.out)
        clear fs0 fs1 fs2 d0 d1 d2 d3 d4 hb0
        go_wp2_with fail
        refine wp_mixC (fun wc => Below (w2.heap.size) w2 wc) 17 [.q [0, 1, 2, 3, 4, 5, 6, 7, 8, 9, 10, 11, 12, 13, 14, 15], .f [16]] [] (by kernel_rfl) (by kernel_rfl) ((Below.refl _ _).drew) ?_
        intro Q' hQ'
        (rw [wpMixC]; simp only [pick, List.drop_succ_cons, List.drop_zero, List.head?_cons, Option.toList_some, List.cons_append, List.nil_append])
        (repeat (first | go_big_quiet_skip | (go_big_quiet_want; refine quiet_simple rfl ?_; go_big_quiet_op; go_big_quiet_on) | (go_big_quiet_want; refine quiet_cellB (ty := 3) rfl rfl (by kernel_rfl) (by assumption) (by first | omega | (simp; omega)) ?_; simp only [Act.put, List.setIfInBounds_toArray, List.set_cons_succ, List.set_cons_zero]; go_big_quiet_on) | (go_big_quiet_want; refine quiet_agg3B (ty := 22) rfl rfl (by kernel_rfl) (by assumption) (by assumption) (by assumption) (by first | omega | (simp; omega)) ?_; simp only [Act.put, List.setIfInBounds_toArray, List.set_cons_succ, List.set_cons_zero]; go_big_quiet_on) | (go_big_quiet_want; refine quiet_agg12B (ty := 26) rfl rfl (by kernel_rfl) (by assumption) (by assumption) (by assumption) (by assumption) (by assumption) (by assumption) (by assumption) (by assumption) (by assumption) (by assumption) (by assumption) (by assumption) (by first | omega | (simp; omega)) ?_; simp only [Act.put, List.setIfInBounds_toArray, List.set_cons_succ, List.set_cons_zero]; go_big_quiet_on)))
        (try refine wpQuiet_nil ?_)
        (rw [wpMixC]; simp only [pick, List.drop_succ_cons, List.drop_zero, List.head?_cons, Option.toList_some, List.cons_append, List.nil_append])
        (rw [wpSteps]; go_wp2_with ((go_at_call 22; ((with_reducible refine (HC2.out _).mono ?_); rintro _ w3 ⟨rfl, hb3⟩))); rw [contF]; refine ⟨?_, ?_⟩; (next => (repeat (with_reducible first | exact Below.refl _ _ | assumption | refine Below.drewN _ ?_ | refine Below.drew ?_ | refine Below_alloc ?_ _ | refine Below.alloc ?_ (by first | (simp; done) | (simp; omega) | omega) _ | refine Below.setCell ?_ (by first | (simp; done) | (simp; omega) | omega) _ | refine Below_call ?_ (by assumption) | refine Below.trans ?_ (by assumption)))))
        (rw [wpSteps])
        (rw [wpMixC])
        (rw [wpMix])
        (refine hQ' _ _ ?_)
        have HB3 : Hid (Below wr.heap.size wr w3) := hid (by (repeat (with_reducible first | exact Below.refl _ _ | assumption | refine Below.drewN _ ?_ | refine Below.drew ?_ | refine Below_alloc ?_ _ | refine Below.alloc ?_ (by first | (simp; done) | (simp; omega) | omega) _ | refine Below.setCell ?_ (by first | (simp; done) | (simp; omega) | omega) _ | refine Below_call ?_ (by assumption) | refine Below.trans ?_ (by assumption))))
        clear e0 e1 e2 e3 m0 m1 m2 m3 m4 m5 m6 m7 m8 m9 m10 m11 ml s0 s1 s2 hls hbw e4 hb2 hb3
        cases R2
        · have HPV : Hid (PN = 0) := hid (by rw [HV.out]; rfl)
          have hb3 := HB3.out
          obtain ⟨d0, d1, d2, d3, d4⟩ := D.out
          have e0 : w3.cell? ⟨bb, off + k * 5, none⟩ = some (.int .i64 x0) := ((HBX.out.trans (hb3.mono HBX.out.size)).cell (p := ⟨bb, _, none⟩) hb).trans d0
          have e1 : w3.cell? ⟨bb, off + k * 5 + 1, none⟩ = some (.int .i64 x1) := ((HBX.out.trans (hb3.mono HBX.out.size)).cell (p := ⟨bb, _, none⟩) hb).trans d1
          have e2 : w3.cell? ⟨bb, off + k * 5 + 2, none⟩ = some (.int .i64 x2) := ((HBX.out.trans (hb3.mono HBX.out.size)).cell (p := ⟨bb, _, none⟩) hb).trans d2
          have e3 : w3.cell? ⟨bb, off + k * 5 + 3, none⟩ = some (.int .i64 t) := ((HBX.out.trans (hb3.mono HBX.out.size)).cell (p := ⟨bb, _, none⟩) hb).trans d3
          have e4 : w3.cell? ⟨bb, off + k * 5 + 4, none⟩ = some (.int .i64 u) := ((HBX.out.trans (hb3.mono HBX.out.size)).cell (p := ⟨bb, _, none⟩) hb).trans d4
          have hbw : bb < w3.heap.size := by have := hb3.size; omega
          have hb0 := LAY.out _ hb3
          obtain ⟨m0, m1, m2, m3, m4, m5, m6, m7, m8, m9, m10, m11, ml⟩ := tw_cells ((hb0.block w.heap.size l0).trans Q0.out)
          obtain ⟨s0, s1, s2, fs0, fs1, fs2, hls⟩ := three_cells ((hb0.block (w.heap.size + 1) l1).trans Q1.out)
          clear fs0 fs1 fs2 d0 d1 d2 d3 d4 hb0
          clear e0 e1 e2 e3 e4
          have hownV := ownsRow_below HOWN.out hb3
          have hbV := LAY.out _ hb3
          have hzV := hbV.size
          clear m0 m1 m2 m3 m4 m5 m6 m7 m8 m9 m10 m11 ml s0 s1 s2 hls hbw
          go_wp2_with (at_builtin; refine wpList_push rfl _ _ _ rfl elemInt W0.heap.size _ k _ rfl w3 hownV [.int .i64 0] rfl (by simp [Value.oneCell']) rfl _ rfl rfl (by omega) (by unfold maxLen; omega) hzV ?_; intro v1 w9 hown3 hb9 _ _)
          go_roundw
          case rel => exact ⟨k + 1, by omega, by go_num, by rw [HN.out, HPV.out, List.map_append]; exact hown3, hbV.trans hb9⟩
          case measure => simp [intOf]; omega
        · have HPV : Hid (PN = NO) := hid (by rw [HV.out]; rfl)
          have hb3 := HB3.out
          obtain ⟨d0, d1, d2, d3, d4⟩ := D.out
          have e0 : w3.cell? ⟨bb, off + k * 5, none⟩ = some (.int .i64 x0) := ((HBX.out.trans (hb3.mono HBX.out.size)).cell (p := ⟨bb, _, none⟩) hb).trans d0
          have e1 : w3.cell? ⟨bb, off + k * 5 + 1, none⟩ = some (.int .i64 x1) := ((HBX.out.trans (hb3.mono HBX.out.size)).cell (p := ⟨bb, _, none⟩) hb).trans d1
          have e2 : w3.cell? ⟨bb, off + k * 5 + 2, none⟩ = some (.int .i64 x2) := ((HBX.out.trans (hb3.mono HBX.out.size)).cell (p := ⟨bb, _, none⟩) hb).trans d2
          have e3 : w3.cell? ⟨bb, off + k * 5 + 3, none⟩ = some (.int .i64 t) := ((HBX.out.trans (hb3.mono HBX.out.size)).cell (p := ⟨bb, _, none⟩) hb).trans d3
          have e4 : w3.cell? ⟨bb, off + k * 5 + 4, none⟩ = some (.int .i64 u) := ((HBX.out.trans (hb3.mono HBX.out.size)).cell (p := ⟨bb, _, none⟩) hb).trans d4
          have hbw : bb < w3.heap.size := by have := hb3.size; omega
          have hb0 := LAY.out _ hb3
          obtain ⟨m0, m1, m2, m3, m4, m5, m6, m7, m8, m9, m10, m11, ml⟩ := tw_cells ((hb0.block w.heap.size l0).trans Q0.out)
          obtain ⟨s0, s1, s2, fs0, fs1, fs2, hls⟩ := three_cells ((hb0.block (w.heap.size + 1) l1).trans Q1.out)
          clear fs0 fs1 fs2 d0 d1 d2 d3 d4 hb0
          go_wp2_with fail
          refine wp_mixC (fun wc => Below (w3.heap.size) w3 wc) 8 [.q [0, 1, 2, 3, 4, 5, 6, 7]] [.q [8]] (by kernel_rfl) (by kernel_rfl) ((Below.refl _ _).drew) ?_
          intro Q' hQ'
          (rw [wpMixC]; simp only [pick, List.drop_succ_cons, List.drop_zero, List.head?_cons, Option.toList_some, List.cons_append, List.nil_append])
          (repeat (first | go_big_quiet_skip | (go_big_quiet_want; refine quiet_simple rfl ?_; go_big_quiet_op; go_big_quiet_on) | (go_big_quiet_want; refine quiet_cellB (ty := 3) rfl rfl (by kernel_rfl) (by assumption) (by first | omega | (simp; omega)) ?_; simp only [Act.put, List.setIfInBounds_toArray, List.set_cons_succ, List.set_cons_zero]; go_big_quiet_on)))
          (try refine wpQuiet_nil ?_)
          (rw [wpMixC])
          (rw [wpMix]; simp only [pick, List.drop_succ_cons, List.drop_zero, List.head?_cons, Option.toList_some, List.cons_append, List.nil_append])
          (repeat (first | (go_big_quiet_step (fail)) | (quiet_step (fail))))
          (try refine wpQuiet_nil ?_)
          (rw [wpMix])
          (refine hQ' _ _ ?_)
          obtain ⟨V, hV⟩ : ∃ V, V = w3.drew := ⟨_, rfl⟩
          rw [← hV]
          have hbwV : Below wr.heap.size wr V := by rw [hV]; exact hb3.drew
          clear hV e0 e1 e2 e3 e4
          have hownV := ownsRow_below HOWN.out hbwV
          have hbV := LAY.out _ hbwV
          have hzV := hbV.size
          clear m0 m1 m2 m3 m4 m5 m6 m7 m8 m9 m10 m11 ml s0 s1 s2 hls hbw
          go_wp2_with (at_builtin; refine wpList_push rfl _ _ _ rfl elemInt W0.heap.size _ k _ rfl V hownV [.int .i64 NO] rfl (by simp [Value.oneCell']) rfl _ rfl rfl (by omega) (by unfold maxLen; omega) hzV ?_; intro v1 w9 hown3 hb9 _ _)
          go_roundw
          case rel => exact ⟨k + 1, by omega, by go_num, by rw [HN.out, HPV.out, List.map_append]; exact hown3, hbV.trans hb9⟩
          case measure => simp [intOf]; omega
    · have hkl : k = l.length := by omega
      subst hkl
      have e1 := HSN.out
      rw [e1.1] at hown
      have hlen := e1.2
      have HO := hid hown
      clear hown e1
      go_wp2_with fail
      ((try simp only [Exit.inBlock, Exit.then]); refine bodyPost_ret (v := .slice oo on oc) ?_ rfl ?_; (next => simp [results, Try.results35, go_sem]))
      obtain ⟨a2, c2, h5, h6⟩ := ownsRow_nums (l := SC) (by rw [hlen]; exact HO.out)
      exact ⟨a2, c2, by rw [h5], h6, hbx⟩
end Go.Proofs.Ytlmdmpjfehpjeaa

/- Tracks: the score by the reference, penalties by the program. -/
set_option linter.unusedVariables false
set_option linter.unusedSimpArgs false
namespace Go.Proofs.Ytlmdmpjfehpjeaa
open Go.RowKit

def totI (l : List Int) : Int := l.foldl (· + ·) 0
theorem tot_take {l : List Int} {k : Nat} (h : k < l.length) : totI (l.take (k + 1)) = totI (l.take k) + nth l k := by
  have e : l.take (k + 1) = l.take k ++ [nth l k] := by
    unfold nth
    rw [List.take_succ_eq_append_getElem h, List.getD_eq_getElem?_getD, List.getElem?_eq_getElem h]; rfl
  rw [e]; unfold totI; rw [List.foldl_append]; rfl
theorem pens_rg {m : TMod} {s : V3} {l : List THit} (ho : m.Ok) (hok : ∀ i, i < l.length → (hitAt l i).Ok) : ∀ k, k < l.length → -10000 ≤ nth (m.pens s l) k ∧ nth (m.pens s l) k ≤ 10000 := by
  intro k hk
  have e : nth (m.pens s l) k = m.pen s (hitAt l k) := by
    unfold nth TMod.pens
    rw [List.getD_eq_getElem?_getD, List.getElem?_map, List.getElem?_eq_getElem hk, hitAt_lt hk]; rfl
  rw [e]; exact pen_rg ho (hok k hk)

set_option maxRecDepth 100000 in
set_option maxHeartbeats 8000000 in
theorem ref_Score (m : TMod) (s : V3) (l : List THit) (v : Value) (w : World) (h : HitsAt w v l) (hl : l.length ≤ 12) (hok : ∀ i, i < l.length → (hitAt l i).Ok) (ho : m.Ok) (hs : s.inS 20 = true) (hpm : m.permit s) :
    Calls Try.prog 36 #[m.v, s.v, v] w fun e w' => e = .returned (.int .i64 (m.score s l)) ∧ Below w.heap.size w w' := by
  have HP : Hid (∀ W, Below w.heap.size w W → Calls Try.prog 35 #[m.v, s.v, v] W (RetNums W (m.pens s l))) := hid (fun W hb => ref_Penalties m s l v W (h.below hb) hl hok ho hs hpm)
  have HLN : Hid ((m.pens s l).length ≤ 12) := hid (by rw [pens_len]; exact hl)
  have HRG : Hid (∀ k, k < (m.pens s l).length → -10000 ≤ nth (m.pens s l) k ∧ nth (m.pens s l) k ≤ 10000) := hid (fun k hk => pens_rg ho hok k (by rw [pens_len] at hk; exact hk))
  have HV : Hid (m.score s l = totI (m.pens s l)) := hid rfl
  generalize m.score s l = SC at HV ⊢
  generalize m.pens s l = ps at HP HLN HRG HV
  have HST : Hid (∀ k, k < ps.length → totI (ps.take (k + 1)) = totI (ps.take k) + nth ps k) := hid (fun k hk => tot_take hk)
  have HS0 : Hid (totI (ps.take 0) = 0) := hid (by simp [totI])
  have HSN : Hid (totI (ps.take ps.length) = SC) := hid (by rw [List.take_length]; exact HV.out.symm)
  generalize hFK : (fun k => totI (ps.take k)) = FK
  have HFK : Hid (∀ k, totI (ps.take k) = FK k) := hid (fun k => by rw [← hFK])
  simp only [HFK.out] at HST HS0 HSN
  clear hFK HFK HV
  obtain ⟨ao, cap, rfl, _, _, _⟩ := h.opn
  clear h hok ho hs hpm
  obtain ⟨px, py, pz, tm, tk, lo, hi, li, ea, la, no, mi⟩ := m
  obtain ⟨sx, sy, sz⟩ := s
  unfold TMod.v V3.v at *
  simp only at *
  obtain ⟨W0, hW0⟩ : ∃ W0, W0 = (w.alloc (.cells #[.int .i64 px, .int .i64 py, .int .i64 pz, .int .i64 tm, .int .i64 tk, .int .i64 lo, .int .i64 hi, .int .i64 li, .int .i64 ea, .int .i64 la, .int .i64 no, .int .i64 mi] 26)).alloc (.cells #[.int .i64 sx, .int .i64 sy, .int .i64 sz] 22) := ⟨_, rfl⟩
  have hbW0 : Below w.heap.size w W0 := by rw [hW0]; (repeat (with_reducible first | exact Below.refl _ _ | assumption | refine Below.drewN _ ?_ | refine Below.drew ?_ | refine Below_alloc ?_ _ | refine Below.alloc ?_ (by first | (simp; done) | (simp; omega) | omega) _ | refine Below.setCell ?_ (by first | (simp; done) | (simp; omega) | omega) _ | refine Below_call ?_ (by assumption) | refine Below.trans ?_ (by assumption)))
  have hzW0 := hbW0.size
  go_enter Try.func36, Try.ntmps36
  go_wp2_with (go_at_call 35; rw [← hW0]; refine (HP.out _ hbW0).mono ?_; rintro _ w1 ⟨ao1, cap1, rfl, hv1, hb1⟩)
  obtain ⟨ao1', cap1', ea, g1, g2, g3⟩ := hv1.opn
  cases ea
  unfold maxLen at g2
  have hbf : Below w.heap.size w w1 := hbW0.trans (hb1.mono hzW0)
  have HLN2 := HLN.out
  clear hW0 hv1 hb1
  go_loopw [7, 9] (fun n i wr => ∃ (k : Nat) (N : Int), k ≤ ps.length ∧ i = .int .i64 k ∧ n = .int .i64 N ∧ Hid (N = FK k) ∧ -10000 * (k : Int) ≤ N ∧ N ≤ 10000 * (k : Int) ∧ wr = w1) (fun _ i _ => ps.length - (intOf i).toNat)
  case atStart => exact ⟨0, 0, Nat.zero_le _, rfl, rfl, hid HS0.out.symm, by omega, by omega, rfl⟩
  case round =>
    obtain ⟨k, N, hk, rfl, rfl, HN, hN1, hN2, rfl⟩ := hrel
    by_cases hlt : k < ps.length
    · obtain ⟨b, off, rfl, hb, hc⟩ := g3 k hlt
      have c0 := hc k hlt
      have hR := HRG.out k hlt
      have HT := hid (HST.out k hlt)
      generalize nth ps k = PN at c0 hR HT
      clear hc g3
      go_wp2_with fail
      go_roundw
      case rel => exact ⟨k + 1, N + PN, by omega, by go_num, by go_num, hid (by rw [HT.out, HN.out]), by push_cast; omega, by push_cast; omega, by first | rfl | trivial⟩
      case measure => simp [intOf]; omega
    · have hkl : k = ps.length := by omega
      subst hkl
      go_wp2_with fail
      go_ret
      exact ⟨ret_int (by rw [HN.out]; exact HSN.out), hbf⟩
end Go.Proofs.Ytlmdmpjfehpjeaa

/- Tracks: penalties by the program. -/
set_option linter.unusedVariables false
set_option linter.unusedSimpArgs false
namespace Go.Proofs.Ytlmdmpjfehpjeaa
open Go.RowKit

set_option maxRecDepth 100000 in
set_option maxHeartbeats 8000000 in
theorem track_PenaltiesOf (m : TMod) (s : V3) (l : List THit) (v : Value) (w : World) (h : HitsAt w v l) :
    Calls Try.prog 31 #[m.v, s.v, v] w fun e w' => (firstNZ [m.both s, hitsE l] = 0 → ∃ ao cap, e = .returned (.tuple #[.slice ao l.length cap, .int .i64 0]) ∧ IntsAt w' (.slice ao l.length cap) (m.pens s l)) ∧ (firstNZ [m.both s, hitsE l] ≠ 0 → e = .returned (.tuple #[.slice none 0 0, .int .i64 (firstNZ [m.both s, hitsE l])])) ∧ Below w.heap.size w w' := by
  have HO : Hid (∀ W, Calls Try.prog 73 #[m.v, s.v] W fun e w' => e = .returned (.tuple #[m.v, s.v, .int .i64 (m.both s)]) ∧ Below W.heap.size W w') := hid (fun W => track_openStep m s W)
  have HM : Hid (∀ W, Below w.heap.size w W → Calls Try.prog 89 #[v] W fun e w' => e = .returned (.int .i64 (hitsE l)) ∧ Below W.heap.size W w') := hid (fun W hb => track_hitsErr l v W (h.below hb))
  have HFI : Hid (∀ v w, IntsAt w v [m.both s, hitsE l] → Calls Try.prog 69 #[v] w fun e w' => e = .returned (.int .i64 (firstNZ [m.both s, hitsE l])) ∧ w = w') := hid (fun v w h => track_first _ v w h)
  have HR : Hid (firstNZ [m.both s, hitsE l] = 0 → l.length ≤ 12 ∧ ∀ k, k < l.length → ∀ W, Calls Try.prog 90 #[m.v, s.v, (hitAt l k).v] W fun e w' => e = .returned (.int .i64 (m.pen s (hitAt l k))) ∧ Below W.heap.size W w') := hid (fun h0 => by
    obtain ⟨h1, h2⟩ := two_zero h0
    obtain ⟨o1, o2, o3, o4⟩ := both_ok h1
    obtain ⟨g1, g2⟩ := hitsE_ok h2
    exact ⟨g1, fun k hk W => track_penalty m s _ W o1 o2 o3 (g2 k hk)⟩)
  have HST : Hid (∀ k, k < l.length → m.pens s (l.take (k + 1)) = m.pens s (l.take k) ++ [m.pen s (hitAt l k)]) := hid (fun k hk => pens_take m s hk)
  have HS0 : Hid (m.pens s (l.take 0) = []) := hid (by simp [TMod.pens])
  have HSN : Hid (m.pens s (l.take l.length) = m.pens s l ∧ (m.pens s l).length = l.length) := hid ⟨by rw [List.take_length], pens_len m s l⟩
  obtain ⟨ao, cap, rfl, h1', h2', h3⟩ := h.opn
  unfold maxLen at h2'
  clear h
  generalize firstNZ [m.both s, hitsE l] = E1 at HFI HR ⊢
  generalize m.both s = EB at HO HFI
  generalize hitsE l = EM at HM HFI
  generalize hSC : m.pens s l = SC at HSN ⊢
  clear hSC
  generalize hFK : (fun k => m.pens s (l.take k)) = FK
  have HFK : Hid (∀ k, m.pens s (l.take k) = FK k) := hid (fun k => by rw [← hFK])
  simp only [HFK.out] at HST HS0 HSN
  clear hFK HFK
  generalize hPK : (fun k => m.pen s (hitAt l k)) = PK
  have HPK : Hid (∀ k, m.pen s (hitAt l k) = PK k) := hid (fun k => by rw [← hPK])
  simp only [HPK.out] at HST HR
  clear hPK HPK
  obtain ⟨px, py, pz, tm, tk, lo, hi, li, ea, la, no, mi⟩ := m
  obtain ⟨sx, sy, sz⟩ := s
  unfold TMod.v V3.v at *
  simp only at *
  obtain ⟨W0, hW0⟩ : ∃ W0, W0 = (w.alloc (.cells #[.int .i64 px, .int .i64 py, .int .i64 pz, .int .i64 tm, .int .i64 tk, .int .i64 lo, .int .i64 hi, .int .i64 li, .int .i64 ea, .int .i64 la, .int .i64 no, .int .i64 mi] 26)).alloc (.cells #[.int .i64 sx, .int .i64 sy, .int .i64 sz] 22) := ⟨_, rfl⟩
  have hbW0 : Below w.heap.size w W0 := by rw [hW0]; (repeat (with_reducible first | exact Below.refl _ _ | assumption | refine Below.drewN _ ?_ | refine Below.drew ?_ | refine Below_alloc ?_ _ | refine Below.alloc ?_ (by first | (simp; done) | (simp; omega) | omega) _ | refine Below.setCell ?_ (by first | (simp; done) | (simp; omega) | omega) _ | refine Below_call ?_ (by assumption) | refine Below.trans ?_ (by assumption)))
  have hzW0 := hbW0.size
  have hcase : E1 = 0 ∨ E1 ≠ 0 := by omega
  rcases hcase with h1 | h1
  · subst h1
    obtain ⟨hl12, HPN0⟩ := HR.out rfl
    have HPN := hid HPN0
    clear HPN0 HR
    go_enter Try.func31, Try.ntmps31
    go_wp2_with (first | (go_at_call 73; rw [← hW0]; refine (HO.out _).mono ?_; rintro _ w1 ⟨rfl, hb1⟩; have hz1 := hb1.size) | (go_at_call 89; obtain ⟨WB, hWB⟩ : ∃ WB, WB = (w1.alloc (.cells #[.int .i64 px, .int .i64 py, .int .i64 pz, .int .i64 tm, .int .i64 tk, .int .i64 lo, .int .i64 hi, .int .i64 li, .int .i64 ea, .int .i64 la, .int .i64 no, .int .i64 mi] 134)).alloc (.cells #[.int .i64 sx, .int .i64 sy, .int .i64 sz] 135) := ⟨_, rfl⟩; rw [← hWB]; have hbWB : Below w1.heap.size w1 WB := (by rw [hWB]; (repeat (with_reducible first | exact Below.refl _ _ | assumption | refine Below.drewN _ ?_ | refine Below.drew ?_ | refine Below_alloc ?_ _ | refine Below.alloc ?_ (by first | (simp; done) | (simp; omega) | omega) _ | refine Below.setCell ?_ (by first | (simp; done) | (simp; omega) | omega) _ | refine Below_call ?_ (by assumption) | refine Below.trans ?_ (by assumption)))); obtain ⟨r0, r1, hr0, hr1⟩ := al2 w1 _ _ _ _ WB hWB; clear hWB; have hbWw : Below w.heap.size w WB := (hbW0.trans (hb1.mono hzW0)).trans (hbWB.mono (Nat.le_trans hzW0 hz1)); refine (HM.out _ hbWw).mono ?_; rintro _ w2 ⟨rfl, hb2⟩; have hbf : Below w.heap.size w w2 := hbWw.trans (hb2.mono hbWw.size); have R0 := hid ((hb2.block w1.heap.size hr0).trans r0); have R1 := hid ((hb2.block (w1.heap.size + 1) hr1).trans r1); have hlr0 : w1.heap.size < w2.heap.size := Nat.lt_of_lt_of_le hr0 hb2.size; have hlr1 : w1.heap.size + 1 < w2.heap.size := Nat.lt_of_lt_of_le hr1 hb2.size; clear r0 r1) | (go_at_call 69; refine (HFI.out _ _ (intsAt_new _ _ _ _ _ rfl (by simp) (by first | rfl | simp))).mono ?_; rintro _ _ ⟨rfl, rfl⟩))
    obtain ⟨V, hV⟩ : ∃ V, V = w2.alloc (.cells #[.int .i64 EB, .int .i64 EM] 30) := ⟨_, rfl⟩
    have hb2V : Below w2.heap.size w2 V := by rw [hV]; (repeat (with_reducible first | exact Below.refl _ _ | assumption | refine Below.drewN _ ?_ | refine Below.drew ?_ | refine Below_alloc ?_ _ | refine Below.alloc ?_ (by first | (simp; done) | (simp; omega) | omega) _ | refine Below.setCell ?_ (by first | (simp; done) | (simp; omega) | omega) _ | refine Below_call ?_ (by assumption) | refine Below.trans ?_ (by assumption)))
    rw [← hV]
    have V0 := hid ((hb2V.block w1.heap.size hlr0).trans R0.out)
    have V1 := hid ((hb2V.block (w1.heap.size + 1) hlr1).trans R1.out)
    have hbfV : Below w.heap.size w V := hbf.trans (hb2V.mono hbf.size)
    have HBFV := hid hbfV
    have hzV := hbfV.size
    have hzV2 := hb2V.size
    clear hV hW0 hb1 hbWB hb2 hbWw hbf hb2V hbfV
    go_loopw [11, 31] (fun o i wr => ∃ (k : Nat), k ≤ l.length ∧ i = .int .i64 k ∧ wr.ownsRow V.heap.size 3 1 o k ((FK k).map (Value.int .i64)) ∧ Below V.heap.size V wr) (fun _ i _ => l.length - (intOf i).toNat)
    case atStart => exact ⟨0, Nat.zero_le _, rfl, by rw [HS0.out]; exact World.ownsRow_nil _ _ _ _, Below.refl _ _⟩
    case round =>
      obtain ⟨k, hk, rfl, hown, hbel⟩ := hrel
      obtain ⟨oo, on, oc, rfl⟩ := ownsRow_shape hown
      have hzr := hbel.size
      have hbx : Below w.heap.size w wr := HBFV.out.trans (hbel.mono hzV)
      by_cases hlt : k < l.length
      · obtain ⟨bb, off, rfl, hb, hcc⟩ := h3 k hlt
        obtain ⟨d0, d1, d2, d3, d4⟩ := hcc k hlt
        have hcb : ∀ o, wr.cell? ⟨bb, o, none⟩ = w.cell? ⟨bb, o, none⟩ := fun o => hbx.cell (p := ⟨bb, o, none⟩) hb
        rw [← hcb] at d0 d1 d2 d3 d4
        have hbw : bb < wr.heap.size := by omega
        have HP := hid (HPN.out k hlt)
        have HN := hid (HST.out k hlt)
        generalize hX : hitAt l k = x at *
        generalize PK k = PN at HP HN
        obtain ⟨⟨x0, x1, x2⟩, t, u⟩ := x
        simp only [THit.v] at *
        clear hX hcc h3 hcb HPN HST
        obtain ⟨Y, hY⟩ : ∃ Y, Y = wr.alloc (.cells #[.int .i64 x0, .int .i64 x1, .int .i64 x2, .int .i64 t, .int .i64 u] 92) := ⟨_, rfl⟩
        have HY := hid hY
        have hBY : Below wr.heap.size wr Y := by rw [hY]; (repeat (with_reducible first | exact Below.refl _ _ | assumption | refine Below.drewN _ ?_ | refine Below.drew ?_ | refine Below_alloc ?_ _ | refine Below.alloc ?_ (by first | (simp; done) | (simp; omega) | omega) _ | refine Below.setCell ?_ (by first | (simp; done) | (simp; omega) | omega) _ | refine Below_call ?_ (by assumption) | refine Below.trans ?_ (by assumption)))
        obtain ⟨m0, m1, m2, m3, m4, m5, m6, m7, m8, m9, m10, m11, ml⟩ := tw_cells ((hbel.block w1.heap.size (by omega)).trans V0.out)
        obtain ⟨s0, s1, s2, fs0, fs1, fs2, hls⟩ := three_cells ((hbel.block (w1.heap.size + 1) (by omega)).trans V1.out)
        have HOWN := hid hown
        clear hY fs0 fs1 fs2 hown
        go_wp2_with (first | (go_at_call 90; rw [← HY.out]; refine (HP.out _).mono ?_; rintro _ w4 ⟨rfl, hb4⟩; have hbr4 : Below wr.heap.size wr w4 := hBY.trans (hb4.mono hBY.size); have hownV := ownsRow_below HOWN.out hbr4; have hbV4 : Below V.heap.size V w4 := hbel.trans (hbr4.mono hzr); have hzV4 := hbV4.size; clear m0 m1 m2 m3 m4 m5 m6 m7 m8 m9 m10 m11 ml s0 s1 s2 hls) | (at_builtin; refine wpList_push rfl _ _ _ rfl elemInt V.heap.size _ k _ rfl w4 hownV [.int .i64 PN] rfl (by simp [Value.oneCell']) rfl _ rfl rfl (by omega) (by unfold maxLen; omega) hzV4 ?_; intro v1 w9 hown3 hb9 _ _))
        go_roundw
        case rel => exact ⟨k + 1, by omega, by go_num, by rw [HN.out, List.map_append]; exact hown3, hbV4.trans hb9⟩
        case measure => simp [intOf]; omega
      · have hkl : k = l.length := by omega
        subst hkl
        have e1 := HSN.out
        rw [e1.1] at hown
        have hlen := e1.2
        have HOO := hid hown
        clear hown e1
        go_wp2_with fail
        obtain ⟨a2, c2, h5, h6⟩ := ownsRow_nums (l := SC) (by rw [hlen]; exact HOO.out)
        rw [hlen] at h5 h6
        cases h5
        ((try simp only [Exit.inBlock, Exit.then]); refine bodyPost_ret (v := .tuple #[.slice oo l.length oc, .int .i64 0]) ?_ rfl ?_; (next => simp [results, Try.results31, go_sem]))
        exact ⟨fun _ => ⟨oo, oc, rfl, h6⟩, fun h => absurd rfl h, hbx⟩
  · have hne : (E1 != 0) = true := by simpa using h1
    have HN := hid h1
    clear h1 HR
    go_enter Try.func31, Try.ntmps31
    go_wp2_with (first | (go_at_call 73; rw [← hW0]; refine (HO.out _).mono ?_; rintro _ w1 ⟨rfl, hb1⟩; have hz1 := hb1.size) | (go_at_call 89; obtain ⟨WB, hWB⟩ : ∃ WB, WB = (w1.alloc (.cells #[.int .i64 px, .int .i64 py, .int .i64 pz, .int .i64 tm, .int .i64 tk, .int .i64 lo, .int .i64 hi, .int .i64 li, .int .i64 ea, .int .i64 la, .int .i64 no, .int .i64 mi] 134)).alloc (.cells #[.int .i64 sx, .int .i64 sy, .int .i64 sz] 135) := ⟨_, rfl⟩; rw [← hWB]; have hbWB : Below w1.heap.size w1 WB := (by rw [hWB]; (repeat (with_reducible first | exact Below.refl _ _ | assumption | refine Below.drewN _ ?_ | refine Below.drew ?_ | refine Below_alloc ?_ _ | refine Below.alloc ?_ (by first | (simp; done) | (simp; omega) | omega) _ | refine Below.setCell ?_ (by first | (simp; done) | (simp; omega) | omega) _ | refine Below_call ?_ (by assumption) | refine Below.trans ?_ (by assumption)))); obtain ⟨r0, r1, hr0, hr1⟩ := al2 w1 _ _ _ _ WB hWB; clear hWB; have hbWw : Below w.heap.size w WB := (hbW0.trans (hb1.mono hzW0)).trans (hbWB.mono (Nat.le_trans hzW0 hz1)); refine (HM.out _ hbWw).mono ?_; rintro _ w2 ⟨rfl, hb2⟩; have hbf : Below w.heap.size w w2 := hbWw.trans (hb2.mono hbWw.size); have R0 := hid ((hb2.block w1.heap.size hr0).trans r0); have R1 := hid ((hb2.block (w1.heap.size + 1) hr1).trans r1); have hlr0 : w1.heap.size < w2.heap.size := Nat.lt_of_lt_of_le hr0 hb2.size; have hlr1 : w1.heap.size + 1 < w2.heap.size := Nat.lt_of_lt_of_le hr1 hb2.size; clear r0 r1) | (go_at_call 69; refine (HFI.out _ _ (intsAt_new _ _ _ _ _ rfl (by simp) (by first | rfl | simp))).mono ?_; rintro _ _ ⟨rfl, rfl⟩))
    ((try simp only [Exit.inBlock, Exit.then]); refine bodyPost_ret (v := .tuple #[.slice none 0 0, .int .i64 E1]) ?_ rfl ?_; (next => simp [results, Try.results31, go_sem]))
    exact ⟨fun h => absurd h HN.out, fun _ => rfl, by (repeat (with_reducible first | exact Below.refl _ _ | assumption | refine Below.drewN _ ?_ | refine Below.drew ?_ | refine Below_alloc ?_ _ | refine Below.alloc ?_ (by first | (simp; done) | (simp; omega) | omega) _ | refine Below.setCell ?_ (by first | (simp; done) | (simp; omega) | omega) _ | refine Below_call ?_ (by assumption) | refine Below.trans ?_ (by assumption)))⟩
end Go.Proofs.Ytlmdmpjfehpjeaa

