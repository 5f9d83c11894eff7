/- Tracks: the scores in a box, with the errors, by the program. -/
import Derived.Test.YtlmdmpjfehpjeaaM7
import Derived.Test.YtlmdmpjfehpjeaaM2
set_option linter.unusedVariables false
set_option linter.unusedSimpArgs false
namespace Go.Proofs.Ytlmdmpjfehpjeaa
open Go.RowKit

def TMod.inE (m : TMod) (b : TBox) (l : List THit) : Int := firstNZ [firstNZ [firstNZ [m.err, b.err], hitsE l], unl (m.canB b) 12]
theorem inE_ok {m : TMod} {b : TBox} {l : List THit} (h : m.inE b l = 0) : m.Ok ∧ b.err = 0 ∧ m.canBe b ∧ hitsE l = 0 := by
  unfold TMod.inE at h
  obtain ⟨h1, h2⟩ := two_zero h
  obtain ⟨h3, h4⟩ := two_zero h1
  obtain ⟨h5, h6⟩ := two_zero h3
  rw [unl_zero (by decide)] at h2
  exact ⟨err_ok h5, h6, canB_iff.1 h2, h4⟩

set_option maxRecDepth 100000 in
set_option maxHeartbeats 8000000 in
theorem track_ScoresIn (m : TMod) (b : TBox) (l : List THit) (v : Value) (w : World) (h : HitsAt w v l) (hl : b.lo.inS 20 = true) (hh : b.hi.inS 20 = true) :
    Calls Try.prog 38 #[m.v, b.v, v] w fun e w' => (m.inE b l = 0 → e = .returned (.tuple #[(m.scores b l).v, .int .i64 0])) ∧ (m.inE b l ≠ 0 → e = .returned (.tuple #[.agg #[.int .i64 0, .int .i64 0], .int .i64 (m.inE b l)])) ∧ Below w.heap.size w w' := by
  have HO : Hid (∀ W, Below w.heap.size w W → Calls Try.prog 95 #[m.v, b.v, v] W fun e w' => e = .returned (.tuple #[m.v, .int .i64 (firstNZ [firstNZ [m.err, b.err], hitsE l])]) ∧ Below W.heap.size W w') := hid (fun W hb => track_openHits m b l v W (h.below hb))
  have HS : Hid (∀ W, Calls Try.prog 93 #[m.v, b.v] W fun e w' => e = .returned (.tuple #[b.squares.v, .bool (m.canB b)]) ∧ Below W.heap.size W w') := hid (fun W => track_squares m b W hl hh)
  have HFI : Hid (∀ v w, IntsAt w v [firstNZ [firstNZ [m.err, b.err], hitsE l], unl (m.canB b) 12] → Calls Try.prog 69 #[v] w fun e w' => e = .returned (.int .i64 (m.inE b l)) ∧ w = w') := hid (fun v w h => track_first _ v w h)
  have HR : Hid (m.inE b l = 0 → ∀ W, Below w.heap.size w W → Calls Try.prog 96 #[m.v, b.v, v] W fun e w' => e = .returned (m.scores b l).v ∧ Below W.heap.size W w') := hid (fun h0 W hb => by
    obtain ⟨o1, o2, o3, o4⟩ := inE_ok h0
    obtain ⟨g1, g2⟩ := hitsE_ok o4
    exact track_scores m b l v W (h.below hb) g1 g2 o1 hl hh o3)
  obtain ⟨ao, cap, rfl, _, _, _⟩ := h.opn
  clear h hl hh
  generalize m.inE b l = E1 at HFI HR ⊢
  generalize firstNZ [firstNZ [m.err, b.err], hitsE l] = E0 at HO HFI
  generalize m.canB b = CB at HS HFI
  generalize b.squares = SQ at HS
  generalize m.scores b l = SC at HR ⊢
  obtain ⟨px, py, pz, tm, tk, lo, hi, li, ea, la, no, mi⟩ := m
  obtain ⟨⟨lx, ly, lz⟩, ⟨hx, hy, hz⟩⟩ := b
  obtain ⟨sl, sh⟩ := SQ
  obtain ⟨rl, rh⟩ := SC
  unfold TMod.v TBox.v Rg.v at *
  simp only at *
  obtain ⟨W0, hW0⟩ : ∃ W0, W0 = ((w.alloc (.cells #[.int .i64 px, .int .i64 py, .int .i64 pz, .int .i64 tm, .int .i64 tk, .int .i64 lo, .int .i64 hi, .int .i64 li, .int .i64 ea, .int .i64 la, .int .i64 no, .int .i64 mi] 26)).alloc (.cells #[.int .i64 lx, .int .i64 ly, .int .i64 lz, .int .i64 hx, .int .i64 hy, .int .i64 hz] 75)).alloc (.cells #[.int .i64 0, .int .i64 0] 24) := ⟨_, rfl⟩
  have hbW0 : Below w.heap.size w W0 := by rw [hW0]; (repeat (with_reducible first | exact Below.refl _ _ | assumption | refine Below.drewN _ ?_ | refine Below.drew ?_ | refine Below_alloc ?_ _ | refine Below.alloc ?_ (by first | (simp; done) | (simp; omega) | omega) _ | refine Below.setCell ?_ (by first | (simp; done) | (simp; omega) | omega) _ | refine Below_call ?_ (by assumption) | refine Below.trans ?_ (by assumption)))
  obtain ⟨q0, q1, q2⟩ := al3 w _ _ _ _ _ _ W0 hW0
  have l1 := (Array.getElem?_eq_some_iff.1 q1).1
  have l2 := (Array.getElem?_eq_some_iff.1 q2).1
  have Q1 := hid q1
  have Q2 := hid q2
  have hzW0 := hbW0.size
  clear q0 q1 q2
  have hcase : E1 = 0 ∨ E1 ≠ 0 := by omega
  rcases hcase with h1 | h1
  · subst h1
    have HR2 := hid (HR.out rfl)
    go_enter Try.func38, Try.ntmps38
    go_wp2_with (first | (go_at_call 95; rw [← hW0]; refine (HO.out _ hbW0).mono ?_; rintro _ w1 ⟨rfl, hb1⟩; have hz1 := hb1.size; obtain ⟨b0, b1, b2, b3, b4, b5, hlb⟩ := six_row ((hb1.block (w.heap.size + 1) l1).trans Q1.out)) | (go_at_call 93; obtain ⟨WB, hWB⟩ : ∃ WB, WB = w1.alloc (.cells #[.int .i64 px, .int .i64 py, .int .i64 pz, .int .i64 tm, .int .i64 tk, .int .i64 lo, .int .i64 hi, .int .i64 li, .int .i64 ea, .int .i64 la, .int .i64 no, .int .i64 mi] 134) := ⟨_, rfl⟩; rw [← hWB]; have hbWB : Below w1.heap.size w1 WB := (by rw [hWB]; (repeat (with_reducible first | exact Below.refl _ _ | assumption | refine Below.drewN _ ?_ | refine Below.drew ?_ | refine Below_alloc ?_ _ | refine Below.alloc ?_ (by first | (simp; done) | (simp; omega) | omega) _ | refine Below.setCell ?_ (by first | (simp; done) | (simp; omega) | omega) _ | refine Below_call ?_ (by assumption) | refine Below.trans ?_ (by assumption)))); have r0 : WB.heap[w1.heap.size]? = some (.cells #[.int .i64 px, .int .i64 py, .int .i64 pz, .int .i64 tm, .int .i64 tk, .int .i64 lo, .int .i64 hi, .int .i64 li, .int .i64 ea, .int .i64 la, .int .i64 no, .int .i64 mi] 134 (0, 0)) := (by rw [hWB]; exact heap_alloc_new w1 _); clear hWB; refine (HS.out _).mono ?_; rintro _ w2 ⟨rfl, hb2⟩; have hb02 : Below W0.heap.size W0 w2 := (hb1.trans (hbWB.mono hz1)).trans (hb2.mono (Nat.le_trans hz1 hbWB.size)); have HB02 := hid hb02; have R0 := hid ((hb2.block w1.heap.size (Array.getElem?_eq_some_iff.1 r0).1).trans r0); clear b0 b1 b2 b3 b4 b5 hlb; obtain ⟨b0, b1, b2, b3, b4, b5, hlb⟩ := six_row ((hb02.block (w.heap.size + 1) l1).trans Q1.out); obtain ⟨m0, m1, m2, m3, m4, m5, m6, m7, m8, m9, m10, m11, ml⟩ := tw_cells (R0.out); have ml' : w1.heap.size < w2.heap.size + 1 := Nat.lt_succ_of_lt ml; have hlb' : w.heap.size + 1 < w2.heap.size + 1 := Nat.lt_succ_of_lt hlb; obtain ⟨g0, g1, fg0, fg1, hlg⟩ := two_cells ((hb02.block (w.heap.size + 1 + 1) l2).trans Q2.out); have hlg' : w.heap.size + 1 + 1 < w2.heap.size + 1 := Nat.lt_succ_of_lt hlg; have hbf : Below w.heap.size w w2 := hbW0.trans (hb02.mono hzW0)) | (go_at_call 72; refine (track_unless _ _ _).mono ?_; rintro _ _ ⟨rfl, rfl⟩) | (go_at_call 69; refine (HFI.out _ _ (intsAt_new _ _ _ _ _ rfl (by simp) (by first | rfl | simp))).mono ?_; rintro _ _ ⟨rfl, rfl⟩) | (go_at_call 96; have hbw : Below w2.heap.size w2 ((w2.alloc (.cells #[.int .i64 sl, .int .i64 sh] 157)).alloc (.cells #[.int .i64 E0, .int .i64 (unl CB 12)] 30)) := (by (repeat (with_reducible first | exact Below.refl _ _ | assumption | refine Below.drewN _ ?_ | refine Below.drew ?_ | refine Below_alloc ?_ _ | refine Below.alloc ?_ (by first | (simp; done) | (simp; omega) | omega) _ | refine Below.setCell ?_ (by first | (simp; done) | (simp; omega) | omega) _ | refine Below_call ?_ (by assumption) | refine Below.trans ?_ (by assumption)))); have hbw2 := hbf.trans (hbw.mono hbf.size); refine (HR2.out _ hbw2).mono ?_; rintro _ w3 ⟨rfl, hb3⟩; have hb23 : Below w2.heap.size w2 w3 := hbw.trans (hb3.mono hbw.size); have hb03 := HB02.out.trans (hb23.mono HB02.out.size); have hbE : Below w.heap.size w w3 := hbW0.trans (hb03.mono hzW0); clear g0 g1 fg0 fg1 hlg hlg'; obtain ⟨g0, g1, fg0, fg1, hlg⟩ := two_cells ((hb03.block (w.heap.size + 1 + 1) l2).trans Q2.out)))
    ((try simp only [Exit.inBlock, Exit.then]); refine bodyPost_ret (v := .tuple #[.agg #[.int .i64 rl, .int .i64 rh], .int .i64 0]) ?_ rfl ?_; (next => simp [results, Try.results38, go_sem, hlg, g0, g1]))
    exact ⟨fun _ => rfl, fun h => absurd rfl h, by (repeat (with_reducible first | exact Below.refl _ _ | assumption | refine Below.drewN _ ?_ | refine Below.drew ?_ | refine Below_alloc ?_ _ | refine Below.alloc ?_ (by first | (simp; done) | (simp; omega) | omega) _ | refine Below.setCell ?_ (by first | (simp; done) | (simp; omega) | omega) _ | refine Below_call ?_ (by assumption) | refine Below.trans ?_ (by assumption)))⟩
  · have hne : (E1 != 0) = true := by simpa using h1
    have HN := hid h1
    clear h1
    go_enter Try.func38, Try.ntmps38
    go_wp2_with (first | (go_at_call 95; rw [← hW0]; refine (HO.out _ hbW0).mono ?_; rintro _ w1 ⟨rfl, hb1⟩; have hz1 := hb1.size; obtain ⟨b0, b1, b2, b3, b4, b5, hlb⟩ := six_row ((hb1.block (w.heap.size + 1) l1).trans Q1.out)) | (go_at_call 93; obtain ⟨WB, hWB⟩ : ∃ WB, WB = w1.alloc (.cells #[.int .i64 px, .int .i64 py, .int .i64 pz, .int .i64 tm, .int .i64 tk, .int .i64 lo, .int .i64 hi, .int .i64 li, .int .i64 ea, .int .i64 la, .int .i64 no, .int .i64 mi] 134) := ⟨_, rfl⟩; rw [← hWB]; have hbWB : Below w1.heap.size w1 WB := (by rw [hWB]; (repeat (with_reducible first | exact Below.refl _ _ | assumption | refine Below.drewN _ ?_ | refine Below.drew ?_ | refine Below_alloc ?_ _ | refine Below.alloc ?_ (by first | (simp; done) | (simp; omega) | omega) _ | refine Below.setCell ?_ (by first | (simp; done) | (simp; omega) | omega) _ | refine Below_call ?_ (by assumption) | refine Below.trans ?_ (by assumption)))); have r0 : WB.heap[w1.heap.size]? = some (.cells #[.int .i64 px, .int .i64 py, .int .i64 pz, .int .i64 tm, .int .i64 tk, .int .i64 lo, .int .i64 hi, .int .i64 li, .int .i64 ea, .int .i64 la, .int .i64 no, .int .i64 mi] 134 (0, 0)) := (by rw [hWB]; exact heap_alloc_new w1 _); clear hWB; refine (HS.out _).mono ?_; rintro _ w2 ⟨rfl, hb2⟩; have hb02 : Below W0.heap.size W0 w2 := (hb1.trans (hbWB.mono hz1)).trans (hb2.mono (Nat.le_trans hz1 hbWB.size)); have HB02 := hid hb02; have R0 := hid ((hb2.block w1.heap.size (Array.getElem?_eq_some_iff.1 r0).1).trans r0); clear b0 b1 b2 b3 b4 b5 hlb; obtain ⟨b0, b1, b2, b3, b4, b5, hlb⟩ := six_row ((hb02.block (w.heap.size + 1) l1).trans Q1.out); obtain ⟨m0, m1, m2, m3, m4, m5, m6, m7, m8, m9, m10, m11, ml⟩ := tw_cells (R0.out); have ml' : w1.heap.size < w2.heap.size + 1 := Nat.lt_succ_of_lt ml; have hlb' : w.heap.size + 1 < w2.heap.size + 1 := Nat.lt_succ_of_lt hlb; obtain ⟨g0, g1, fg0, fg1, hlg⟩ := two_cells ((hb02.block (w.heap.size + 1 + 1) l2).trans Q2.out); have hlg' : w.heap.size + 1 + 1 < w2.heap.size + 1 := Nat.lt_succ_of_lt hlg; have hbf : Below w.heap.size w w2 := hbW0.trans (hb02.mono hzW0)) | (go_at_call 72; refine (track_unless _ _ _).mono ?_; rintro _ _ ⟨rfl, rfl⟩) | (go_at_call 69; refine (HFI.out _ _ (intsAt_new _ _ _ _ _ rfl (by simp) (by first | rfl | simp))).mono ?_; rintro _ _ ⟨rfl, rfl⟩))
    ((try simp only [Exit.inBlock, Exit.then]); refine bodyPost_ret (v := .tuple #[.agg #[.int .i64 0, .int .i64 0], .int .i64 E1]) ?_ rfl ?_; (next => simp [results, Try.results38, go_sem, hlg, hlg', g0, g1]))
    exact ⟨fun h => absurd h HN.out, fun _ => rfl, by (repeat (with_reducible first | exact Below.refl _ _ | assumption | refine Below.drewN _ ?_ | refine Below.drew ?_ | refine Below_alloc ?_ _ | refine Below.alloc ?_ (by first | (simp; done) | (simp; omega) | omega) _ | refine Below.setCell ?_ (by first | (simp; done) | (simp; omega) | omega) _ | refine Below_call ?_ (by assumption) | refine Below.trans ?_ (by assumption)))⟩
end Go.Proofs.Ytlmdmpjfehpjeaa

/- Digits to the base 10^9: plain law of sums, differences, products, comparison. -/
set_option linter.unusedVariables false
set_option linter.unusedSimpArgs false
namespace Go.Proofs.Ytlmdmpjfehpjeaa

def dpw : Nat → Int
  | 0 => 1
  | i + 1 => 1000000000 * dpw i
theorem dpw_pos (i : Nat) : 0 < dpw i := by
  induction i with
  | zero => decide
  | succ i ih => simp only [dpw]; omega
theorem dpw_add (i j : Nat) : dpw (i + j) = dpw i * dpw j := by
  induction i with
  | zero => simp [dpw]
  | succ i ih => rw [Nat.succ_add]; simp only [dpw]; rw [ih, Int.mul_assoc]
theorem dpw_mono {i j : Nat} (h : i ≤ j) : dpw i ≤ dpw j := by
  induction j with
  | zero => rw [show i = 0 from by omega]; exact Int.le_refl _
  | succ j ih =>
    rcases Nat.lt_or_ge j i with h1 | h1
    · rw [show i = j + 1 from by omega]; exact Int.le_refl _
    · have := ih h1
      have := dpw_pos j
      simp only [dpw]; omega
def dval : List Int → Int
  | [] => 0
  | d :: l => d + 1000000000 * dval l
def isD (l : List Int) : Prop := ∀ d ∈ l, 0 ≤ d ∧ d < 1000000000
theorem isD_cons {d : Int} {l : List Int} : isD (d :: l) ↔ (0 ≤ d ∧ d < 1000000000) ∧ isD l := by simp [isD]
theorem isD_app {l m : List Int} : isD (l ++ m) ↔ isD l ∧ isD m := by
  constructor
  · intro h; exact ⟨fun d hd => h d (by simp [hd]), fun d hd => h d (by simp [hd])⟩
  · rintro ⟨h, g⟩ d hd; rcases List.mem_append.1 hd with h1 | h1; exact h d h1; exact g d h1
theorem isD_nil : isD [] := by simp [isD]
theorem isD_take {l : List Int} (h : isD l) (n : Nat) : isD (l.take n) := fun d hd => h d (List.mem_of_mem_take hd)
theorem isD_nth {l : List Int} (h : isD l) (i : Nat) : 0 ≤ nth l i ∧ nth l i < 1000000000 := by
  unfold nth
  rcases Nat.lt_or_ge i l.length with h1 | h1
  · rw [List.getD_eq_getElem?_getD, List.getElem?_eq_getElem h1]; exact h _ (List.getElem_mem h1)
  · rw [List.getD_eq_getElem?_getD, List.getElem?_eq_none h1]; simp
theorem dval_app (l m : List Int) : dval (l ++ m) = dval l + dpw l.length * dval m := by
  induction l with
  | nil => simp [dval, dpw]
  | cons d l ih => simp only [List.cons_append, dval, List.length_cons, dpw]; rw [ih, Int.mul_add, Int.mul_assoc, Int.add_assoc]
theorem dval_range {l : List Int} (h : isD l) : 0 ≤ dval l ∧ dval l < dpw l.length := by
  induction l with
  | nil => simp [dval, dpw]
  | cons d l ih =>
    obtain ⟨h1, h2⟩ := isD_cons.1 h
    have := ih h2
    simp only [dval, List.length_cons, dpw]; omega
theorem dnth_lt {l : List Int} {i : Nat} (h : i < l.length) : nth l i = l[i] := by
  unfold nth; rw [List.getD_eq_getElem?_getD, List.getElem?_eq_getElem h]; rfl
theorem dnth_ge {l : List Int} {i : Nat} (h : l.length ≤ i) : nth l i = 0 := by
  unfold nth; rw [List.getD_eq_getElem?_getD, List.getElem?_eq_none h]; rfl
theorem dval_take (l : List Int) (i : Nat) : dval (l.take (i + 1)) = dval (l.take i) + nth l i * dpw i := by
  rcases Nat.lt_or_ge i l.length with h | h
  · rw [← List.take_append_getElem h, dval_app, dnth_lt h, List.length_take, Nat.min_eq_left (by omega)]
    simp [dval, Int.mul_comm]
  · rw [List.take_of_length_le (by omega), List.take_of_length_le h, dnth_ge h]; simp
theorem dval_set (l : List Int) (i : Nat) (d : Int) (h : i < l.length) : dval (l.set i d) = dval l + (d - nth l i) * dpw i := by
  induction l generalizing i with
  | nil => simp at h
  | cons a l ih =>
    cases i with
    | zero => simp [dval, dpw, nth]; omega
    | succ i =>
      have h1 : i < l.length := by simpa using h
      have h2 : nth (a :: l) (i + 1) = nth l i := by simp [nth]
      simp only [List.set_cons_succ, dval, dpw, h2]
      rw [ih i h1, Int.mul_add]
      rw [show 1000000000 * ((d - nth l i) * dpw i) = (d - nth l i) * (1000000000 * dpw i) from by rw [← Int.mul_assoc, ← Int.mul_assoc, Int.mul_comm 1000000000]]
      omega
theorem isD_set {l : List Int} (h : isD l) (i : Nat) {d : Int} (hd : 0 ≤ d ∧ d < 1000000000) : isD (l.set i d) := by
  intro x hx
  rcases List.mem_or_eq_of_mem_set hx with h1 | h1
  · exact h x h1
  · rw [h1]; exact hd
theorem dnth_set (l : List Int) (i j : Nat) (d : Int) (h : i < l.length) : nth (l.set i d) j = if i = j then d else nth l j := by
  simp only [nth, List.getD_eq_getElem?_getD, List.getElem?_set]
  split
  · next e => subst e; simp [h]
  · rfl
theorem dval_zero {l : List Int} (h : ∀ i, nth l i = 0) : dval l = 0 := by
  induction l with
  | nil => rfl
  | cons d l ih =>
    have h0 := h 0
    have : dval l = 0 := ih (fun i => by have := h (i + 1); simpa [nth] using this)
    simp only [nth, List.getD_cons_zero] at h0
    simp only [dval, this, h0]; rfl
/-- the digits of a number. -/
def dig (n : Nat) : List Int := if h : n = 0 then [] else ((n % 1000000000 : Nat) : Int) :: dig (n / 1000000000)
termination_by n
decreasing_by omega
theorem dig_zero : dig 0 = [] := by rw [dig]; simp
theorem dig_step {n : Nat} (h : n ≠ 0) : dig n = ((n % 1000000000 : Nat) : Int) :: dig (n / 1000000000) := by rw [dig]; simp [h]
theorem dval_dig (n : Nat) : dval (dig n) = n := by
  induction n using Nat.strongRecOn with
  | _ n ih =>
    by_cases h : n = 0
    · subst h; rw [dig_zero]; rfl
    · rw [dig_step h, dval, ih _ (by omega)]; omega
theorem isD_dig (n : Nat) : isD (dig n) := by
  induction n using Nat.strongRecOn with
  | _ n ih =>
    by_cases h : n = 0
    · subst h; rw [dig_zero]; exact isD_nil
    · rw [dig_step h, isD_cons]; exact ⟨by omega, ih _ (by omega)⟩
theorem dig_nil {n : Nat} : (dig n).length = 0 ↔ n = 0 := by
  constructor
  · intro h; by_cases hn : n = 0
    · exact hn
    · rw [dig_step hn] at h; simp at h
  · rintro rfl; rw [dig_zero]; rfl
/-- canonical digits are the digits of their number. -/
theorem canon {l : List Int} (h : isD l) (hl : l.length = 0 ∨ nth l (l.length - 1) ≠ 0) : l = dig (dval l).toNat := by
  induction l with
  | nil => simp [dval, dig_zero]
  | cons d l ih =>
    obtain ⟨h1, h2⟩ := isD_cons.1 h
    have hr := dval_range h2
    have hc : l.length = 0 ∨ nth l (l.length - 1) ≠ 0 := by
      rcases hl with hl | hl
      · simp at hl
      · cases l with
        | nil => exact Or.inl rfl
        | cons e m => right; simpa [nth] using hl
    have e1 := ih h2 hc
    have hne : (dval (d :: l)).toNat ≠ 0 := by
      intro h0
      have h3 : dval l = 0 ∧ d = 0 := by simp only [dval] at h0; omega
      rw [h3.1] at e1
      rw [show (0 : Int).toNat = 0 from rfl, dig_zero] at e1
      subst e1
      rw [h3.2] at hl
      simp [nth] at hl
    rw [dig_step hne]
    have e2 : (dval (d :: l)).toNat % 1000000000 = d.toNat := by simp only [dval]; omega
    have e3 : (dval (d :: l)).toNat / 1000000000 = (dval l).toNat := by simp only [dval]; omega
    rw [e2, e3, ← e1]
    congr 1; omega
/-- the prefix without zeros at the end. -/
theorem trim_eq {l : List Int} (h : isD l) {n : Nat} (hn : n ≤ l.length) (hz : ∀ i, n ≤ i → nth l i = 0) (hc : n = 0 ∨ nth l (n - 1) ≠ 0) : l.take n = dig (dval l).toNat := by
  have e : dval l = dval (l.take n) := by
    conv => lhs; rw [← List.take_append_drop n l, dval_app]
    rw [dval_zero (l := l.drop n), Int.mul_zero, Int.add_zero]
    intro i; have := hz (n + i) (by omega); simpa [nth, List.getD_eq_getElem?_getD] using this
  rw [e]
  apply canon (isD_take h n)
  rw [List.length_take, Nat.min_eq_left hn]
  rcases hc with hc | hc
  · exact Or.inl hc
  · by_cases h0 : n = 0
    · exact Or.inl h0
    · right; simpa [nth, List.getD_eq_getElem?_getD, List.getElem?_take, show n - 1 < n from by omega] using hc
theorem dig_last {n : Nat} (h : (dig n).length ≠ 0) : nth (dig n) ((dig n).length - 1) ≠ 0 := by
  induction n using Nat.strongRecOn with
  | _ n ih =>
    by_cases h0 : n = 0
    · subst h0; simp [dig_zero] at h
    · rw [dig_step h0]
      by_cases h1 : n / 1000000000 = 0
      · rw [h1, dig_zero]; simp [nth]; omega
      · have h2 : (dig (n / 1000000000)).length ≠ 0 := fun h => h1 (dig_nil.1 h)
        have := ih _ (by omega) h2
        obtain ⟨k, hk⟩ := Nat.exists_eq_succ_of_ne_zero h2
        simp only [List.length_cons, hk, Nat.add_sub_cancel, Nat.succ_sub_one] at this ⊢
        simpa [nth] using this
/-- a number is at least the weight of its last digit. -/
theorem dig_low {n k : Nat} (h : (dig n).length = k + 1) : dpw k ≤ n := by
  have h1 := dig_last (n := n) (by omega)
  have h2 := isD_nth (isD_dig n) k
  have h3 := dval_take (dig n) k
  rw [List.take_of_length_le (by omega), dval_dig] at h3
  rw [h, Nat.add_sub_cancel] at h1
  have h4 := (dval_range (isD_take (isD_dig n) k)).1
  have h5 := Int.mul_le_mul_of_nonneg_right (show 1 ≤ nth (dig n) k from by omega) (Int.le_of_lt (dpw_pos k))
  omega
theorem dig_high (n : Nat) : (n : Int) < dpw (dig n).length := by
  have := (dval_range (isD_dig n)).2
  rwa [dval_dig] at this
theorem dig_len_lt {a b : Nat} (h : (dig a).length < (dig b).length) : a < b := by
  have h1 := dig_high a
  obtain ⟨k, hk⟩ : ∃ k, (dig b).length = k + 1 := ⟨(dig b).length - 1, by omega⟩
  have h2 := dig_low hk
  have h3 := dpw_mono (show (dig a).length ≤ k from by omega)
  omega
theorem dig_len_mono {a b : Nat} (h : a ≤ b) : (dig a).length ≤ (dig b).length := by
  rcases Nat.lt_or_ge (dig b).length (dig a).length with h1 | h1
  · have := dig_len_lt h1; omega
  · exact h1
/-- digits from a place on are alike, the one before is smaller. -/
theorem dval_cmp {a b : List Int} (ha : isD a) (hb : isD b) (hl : a.length = b.length) {i : Nat} (hi : i < a.length) (hs : ∀ j, i < j → nth a j = nth b j) (hlt : nth a i < nth b i) : dval a < dval b := by
  have key : ∀ k, dval (a.take (i + 1 + k)) < dval (b.take (i + 1 + k)) := by
    intro k
    induction k with
    | zero =>
      rw [Nat.add_zero, dval_take, dval_take]
      have h1 := dval_range (isD_take ha i)
      have h2 := dval_range (isD_take hb i)
      rw [List.length_take, Nat.min_eq_left (by omega)] at h1 h2
      have h5 := Int.mul_le_mul_of_nonneg_right (show nth a i + 1 ≤ nth b i from by omega) (Int.le_of_lt (dpw_pos i))
      rw [Int.add_mul] at h5
      omega
    | succ k ih =>
      rw [← Nat.add_assoc, dval_take, dval_take, hs _ (by omega)]
      omega
  have := key a.length
  rwa [List.take_of_length_le (by omega), List.take_of_length_le (by omega)] at this
theorem list_nth_eq {a b : List Int} (hl : a.length = b.length) (h : ∀ i, nth a i = nth b i) : a = b := by
  apply List.ext_getElem hl
  intro i h1 h2
  have := h i
  rwa [dnth_lt h1, dnth_lt h2] at this
/-- the sign of a number. -/
def sg (z : Int) : Int := if z < 0 then -1 else if z = 0 then 0 else 1
theorem dig_dval {l : List Int} {n : Nat} (h : l = dig n) : dval l = n := by rw [h, dval_dig]
end Go.Proofs.Ytlmdmpjfehpjeaa

/- Wide numbers: a value that is one; digits trimmed, compared, read. -/
set_option linter.unusedVariables false
set_option linter.unusedSimpArgs false
namespace Go.Proofs.Ytlmdmpjfehpjeaa
open Go.RowKit

/-- a slice of ints that lies in a block of a kind. -/
def DigIn (w : World) (v : Value) (l : List Int) (N : Nat → Prop) : Prop := SlIn w v l.length 1 (fun i _ => .int .i64 (nth l i)) N
theorem DigIn.ints {w : World} {v : Value} {l : List Int} {N : Nat → Prop} (h : DigIn w v l N) : IntsAt w v l := SlIn.sl h
theorem DigIn.keep {w w' : World} {v : Value} {l : List Int} {N N' : Nat → Prop} (h : DigIn w v l N) (hs : w.heap.size ≤ w'.heap.size) (hk : ∀ b, b < w.heap.size → N b → w'.heap[b]? = w.heap[b]? ∧ N' b) : DigIn w' v l N' := SlIn.keep h hs hk
theorem DigIn.mono {w w' : World} {v : Value} {l : List Int} {N N' : Nat → Prop} (h : DigIn w v l N) (hb : Below w.heap.size w w') (hk : ∀ b, b < w.heap.size → N b → N' b) : DigIn w' v l N' :=
  DigIn.keep h hb.size fun b hlt hN => ⟨hb.block b hlt, hk b hlt hN⟩
theorem IntsAt.dig {w : World} {v : Value} {l : List Int} (h : IntsAt w v l) : DigIn w v l (fun b => b < w.heap.size) := by
  obtain ⟨ao, cap, rfl, h1, h2, h3, h4⟩ := h
  exact ⟨ao, cap, rfl, h1, h2, fun h0 => by obtain ⟨b, off, e, hlt, hc⟩ := h3 h0; exact ⟨b, off, e, hlt, hlt, hc⟩, h4⟩
theorem ownsRow_dig {w : World} {base : Nat} {e : TypeId} {v : Value} {l : List Int} (h : w.ownsRow base e 1 v l.length (l.map (Value.int .i64))) : DigIn w v l (fun b => base ≤ b) := by
  have h1 := ownsRow_in (c := fun i _ => .int .i64 (nth l i)) (by rw [flat_ints]; exact h)
  exact SlIn.keep h1 (Nat.le_refl _) (fun b _ hN => ⟨rfl, hN.1⟩)
/-- a value is a wide number, in blocks of a kind. -/
def WideAt (w : World) (v : Value) (z : Int) (N : Nat → Prop) : Prop := ∃ ao cap, v = .agg #[.int .i64 (sg z), .slice ao (dig z.natAbs).length cap] ∧ DigIn w (.slice ao (dig z.natAbs).length cap) (dig z.natAbs) N
theorem WideAt.keep {w w' : World} {v : Value} {z : Int} {N N' : Nat → Prop} (h : WideAt w v z N) (hs : w.heap.size ≤ w'.heap.size) (hk : ∀ b, b < w.heap.size → N b → w'.heap[b]? = w.heap[b]? ∧ N' b) : WideAt w' v z N' := by
  obtain ⟨ao, cap, rfl, h1⟩ := h
  exact ⟨ao, cap, rfl, h1.keep hs hk⟩
theorem WideAt.mono {w w' : World} {v : Value} {z : Int} {N N' : Nat → Prop} (h : WideAt w v z N) (hb : Below w.heap.size w w') (hk : ∀ b, b < w.heap.size → N b → N' b) : WideAt w' v z N' :=
  WideAt.keep h hb.size fun b hlt hN => ⟨hb.block b hlt, hk b hlt hN⟩
/-- the call returns a wide number in blocks of a kind, and leaves old memory alone. -/
def RetWide (w : World) (z : Int) (N : Nat → Prop) (e : Ending) (w' : World) : Prop := ∃ v, e = .returned v ∧ WideAt w' v z N ∧ Below w.heap.size w w'

theorem IntsAt.prefix {w : World} {ao : Option Addr} {l : List Int} {cap n : Nat} (h : IntsAt w (.slice ao l.length cap) l) (hn : n ≤ l.length) : IntsAt w (.slice ao n cap) (l.take n) := by
  obtain ⟨ao', cap', e, h1, h2, h3, h4⟩ := h
  cases e
  refine ⟨ao, cap, by rw [List.length_take, Nat.min_eq_left hn], by rw [List.length_take, Nat.min_eq_left hn]; omega, h2, fun h0 => ?_, h4⟩
  rw [List.length_take, Nat.min_eq_left hn] at h0 ⊢
  obtain ⟨b, off, e, hlt, hc⟩ := h3 (by omega)
  refine ⟨b, off, e, hlt, fun i j hi hj => ?_⟩
  rw [hc i j (by omega) hj]
  simp [List.getD_eq_getElem?_getD, List.getElem?_take, hi]

theorem trim_ex (l : List Int) : ∃ n, n ≤ l.length ∧ (∀ j, n ≤ j → nth l j = 0) ∧ (n = 0 ∨ nth l (n - 1) ≠ 0) := by
  have key : ∀ n, n ≤ l.length → (∀ j, n ≤ j → nth l j = 0) → ∃ n, n ≤ l.length ∧ (∀ j, n ≤ j → nth l j = 0) ∧ (n = 0 ∨ nth l (n - 1) ≠ 0) := by
    intro n
    induction n with
    | zero => intro h1 h2; exact ⟨0, h1, h2, Or.inl rfl⟩
    | succ n ih =>
      intro h1 h2
      by_cases h : nth l n = 0
      · refine ih (by omega) (fun j hj => ?_)
        rcases Nat.lt_or_ge n j with h3 | h3
        · exact h2 j h3
        · rw [show j = n from by omega]; exact h
      · exact ⟨n + 1, h1, h2, Or.inr h⟩
  exact key l.length (Nat.le_refl _) (fun j hj => dnth_ge hj)
/-- the digits of what digits mean. -/
def tri (l : List Int) : List Int := dig (dval l).toNat
theorem tri_take {l : List Int} (hd : isD l) : l.take (tri l).length = tri l ∧ (tri l).length ≤ l.length := by
  obtain ⟨n, h1, h2, h3⟩ := trim_ex l
  have h4 := trim_eq hd h1 h2 h3
  have h5 := congrArg List.length h4
  rw [List.length_take, Nat.min_eq_left h1] at h5
  unfold tri
  rw [← h5]
  exact ⟨h4, h1⟩
theorem tri_at {w : World} {ao : Option Addr} {l : List Int} {cap : Nat} (h : IntsAt w (.slice ao l.length cap) l) (hd : isD l) : IntsAt w (.slice ao (tri l).length cap) (tri l) := by
  obtain ⟨h1, h2⟩ := tri_take hd
  have := h.prefix h2
  rwa [h1] at this
theorem DigIn.trim {w : World} {ao : Option Addr} {l : List Int} {cap : Nat} {N : Nat → Prop} (h : DigIn w (.slice ao l.length cap) l N) (hd : isD l) : DigIn w (.slice ao (tri l).length cap) (tri l) N := by
  obtain ⟨e1, e2⟩ := tri_take hd
  obtain ⟨ao', cap', e, h1, h2, h3, h4⟩ := h
  cases e
  refine ⟨ao, cap, rfl, by omega, h2, fun h0 => ?_, h4⟩
  obtain ⟨b, off, e, hlt, hN, hc⟩ := h3 (by omega)
  refine ⟨b, off, e, hlt, hN, fun i j hi hj => ?_⟩
  rw [hc i j (by omega) hj]
  have : nth l i = nth (tri l) i := by
    rw [← e1]; simp [nth, List.getD_eq_getElem?_getD, List.getElem?_take, hi]
  simp only [this]

set_option maxRecDepth 100000 in
set_option maxHeartbeats 1000000 in
theorem base_trimmed (l : List Int) (ao : Option Addr) (cap : Nat) (w : World) (h : IntsAt w (.slice ao l.length cap) l) (hd : isD l) :
    Calls Try.prog 152 #[.slice ao l.length cap] w fun e w' => e = .returned (.slice ao (tri l).length cap) ∧ w = w' := by
  obtain ⟨ao', cap', e, h1, h2, h3⟩ := h.opn
  cases e
  unfold maxLen at h2
  clear h
  go_enter Try.func152, Try.ntmps152
  go_wp2_with fail
  go_loop [3] (fun i => ∃ n : Nat, n ≤ l.length ∧ i = .int .i64 n ∧ Hid (∀ j, n ≤ j → nth l j = 0)) (fun i => (intOf i).toNat)
  case atStart => exact ⟨l.length, Nat.le_refl _, rfl, hid (fun j hj => dnth_ge hj)⟩
  case round =>
    obtain ⟨n, hn, rfl, HZ⟩ := hrel
    by_cases h0 : n = 0
    · subst h0
      have HE : Hid ((tri l).length = 0) := hid (by unfold tri; rw [← trim_eq hd (Nat.zero_le _) HZ.out (Or.inl rfl)]; rfl)
      go_wp2_with fail
      go_ret
      exact ⟨by rw [HE.out]; rfl, rfl⟩
    · obtain ⟨m, rfl⟩ : ∃ m, n = m + 1 := ⟨n - 1, by omega⟩
      obtain ⟨b, off, rfl, hb, hc⟩ := h3 m (by omega)
      have c0 := hc m (by omega)
      obtain ⟨d, hdd⟩ : ∃ d, d = nth l m := ⟨_, rfl⟩
      rw [← hdd] at c0
      have HD := hid hdd
      clear hc h3 hdd
      have hpos : (0 : Int) < ((m + 1 : Nat) : Int) := by omega
      by_cases hz : d = 0
      · subst hz
        go_wp2_with fail
        go_round
        case rel =>
          refine ⟨m, by omega, by go_num, hid (fun j hj => ?_)⟩
          rcases Nat.lt_or_ge m j with h | h
          · exact HZ.out j h
          · rw [show j = m from by omega]; exact HD.out.symm
        case measure => simp [intOf]
      · have HE : Hid ((tri l).length = m + 1) := hid (by
          unfold tri
          rw [← trim_eq hd hn HZ.out (Or.inr (by rw [Nat.add_sub_cancel, ← HD.out]; exact hz)), List.length_take]; omega)
        go_wp2_with fail
        go_ret
        exact ⟨by rw [HE.out]; rfl, rfl⟩

set_option maxRecDepth 100000 in
set_option maxHeartbeats 1000000 in
theorem base_digit (l : List Int) (v : Value) (w : World) (h : IntsAt w v l) (i : Nat) (hi : i ≤ 9000000000000000000) :
    Calls Try.prog 156 #[v, .int .i64 i] w fun e w' => e = .returned (.int .i64 (nth l i)) ∧ w = w' := by
  obtain ⟨ao, cap, rfl, h1, h2, h3⟩ := h.opn
  unfold maxLen at h2
  by_cases hlt : i < l.length
  · obtain ⟨b, off, rfl, hb, hc⟩ := h3 i hlt
    have c0 := hc i hlt
    obtain ⟨d, hd⟩ : ∃ d, d = nth l i := ⟨_, rfl⟩
    rw [← hd] at c0 ⊢
    clear hc h3 h hd
    go_enter Try.func156, Try.ntmps156
    go_wp2_with fail
    go_ret
    exact ⟨rfl, rfl⟩
  · have HE := hid (dnth_ge (l := l) (i := i) (by omega))
    clear h3 h
    go_enter Try.func156, Try.ntmps156
    go_wp2_with fail
    go_ret
    exact ⟨by rw [HE.out]; rfl, rfl⟩

def cmpN (a b : Nat) : Int := if a < b then -1 else if a = b then 0 else 1

set_option maxRecDepth 100000 in
set_option maxHeartbeats 1000000 in
theorem base_cmpDigits (a b : Nat) (u v : Value) (w : World) (h : IntsAt w u (dig a)) (g : IntsAt w v (dig b)) :
    Calls Try.prog 150 #[u, v] w fun e w' => e = .returned (.int .i64 (cmpN a b)) ∧ Below w.heap.size w w' := by
  obtain ⟨ao, cap, rfl, h1, h2, h3⟩ := h.opn
  obtain ⟨bo, cap2, rfl, g1, g2, g3⟩ := g.opn
  obtain ⟨la, hla⟩ : ∃ la, la = dig a := ⟨_, rfl⟩
  obtain ⟨lb, hlb⟩ : ∃ lb, lb = dig b := ⟨_, rfl⟩
  rw [← hla] at h1 h3 ⊢
  rw [← hlb] at g1 g3 ⊢
  have HA := hid hla
  have HB := hid hlb
  unfold maxLen at h2 g2
  clear h g hla hlb
  by_cases hl : la.length = lb.length
  · have HL := hid hl
    go_enter Try.func150, Try.ntmps150
    go_wp2_with fail
    go_loopw [5] (fun i wr => ∃ n : Nat, n ≤ la.length ∧ i = .int .i64 ((n : Int) - 1) ∧ Hid (∀ j, n ≤ j → nth la j = nth lb j) ∧ Below w.heap.size w wr) (fun i _ => (intOf i + 1).toNat)
    case atStart => exact ⟨la.length, Nat.le_refl _, by go_num, hid (fun j hj => by rw [dnth_ge hj, dnth_ge (by omega)]), Below.refl _ _⟩
    case round =>
      obtain ⟨n, hn, rfl, HZ, hbel⟩ := hrel
      by_cases h0 : n = 0
      · subst h0
        have HE : Hid (cmpN a b = 0) := hid (by
          have : la = lb := list_nth_eq HL.out (fun i => HZ.out i (Nat.zero_le _))
          rw [HA.out, HB.out] at this
          have := congrArg dval this
          rw [dval_dig, dval_dig] at this
          unfold cmpN; rw [if_neg (by omega), if_pos (by omega)])
        go_wp2_with fail
        go_ret
        exact ⟨by rw [HE.out]; rfl, by (repeat (with_reducible first | exact Below.refl _ _ | assumption | refine Below.drewN _ ?_ | refine Below.drew ?_ | refine Below_alloc ?_ _ | refine Below.alloc ?_ (by first | (simp; done) | (simp; omega) | omega) _ | refine Below.setCell ?_ (by first | (simp; done) | (simp; omega) | omega) _ | refine Below_call ?_ (by assumption) | refine Below.trans ?_ (by assumption)))⟩
      · obtain ⟨m, rfl⟩ : ∃ m, n = m + 1 := ⟨n - 1, by omega⟩
        obtain ⟨b1, off1, rfl, hb1, hc1⟩ := h3 m (by omega)
        obtain ⟨b2, off2, rfl, hb2, hc2⟩ := g3 m (by omega)
        have c1 := (hbel.cell (p := ⟨b1, off1 + m, none⟩) hb1).trans (hc1 m (by omega))
        have c2 := (hbel.cell (p := ⟨b2, off2 + m, none⟩) hb2).trans (hc2 m (by omega))
        have hzw := hbel.size
        have hbw1 : b1 < wr.heap.size := by omega
        have hbw2 : b2 < wr.heap.size := by omega
        obtain ⟨d, hd⟩ : ∃ d, d = nth la m := ⟨_, rfl⟩
        obtain ⟨e, he⟩ : ∃ e, e = nth lb m := ⟨_, rfl⟩
        rw [← hd] at c1
        rw [← he] at c2
        have HD := hid hd
        have HEE := hid he
        clear hc1 hc2 h3 g3 hd he
        rw [show ((m + 1 : Nat) : Int) - 1 = m from by omega]
        have HS : Hid (∀ j, m < j → nth la j = nth lb j) := hid (fun j hj => HZ.out j hj)
        rcases Int.lt_trichotomy d e with hlt | heq | hgt
        · have HE : Hid (cmpN a b = -1) := hid (by
            have := dval_cmp (by rw [HA.out]; exact isD_dig a) (by rw [HB.out]; exact isD_dig b) HL.out (show m < la.length by omega) HS.out (by rw [← HD.out, ← HEE.out]; exact hlt)
            rw [HA.out, HB.out, dval_dig, dval_dig] at this
            unfold cmpN; rw [if_pos (by omega)])
          go_wp2_with fail
          refine wp_mixC (fun wc => Below (w.heap.size) wr wc) 9 [.q [0, 1, 2, 3, 4, 5, 6, 7, 8]] [] (by kernel_rfl) (by kernel_rfl) ((Below.refl _ _).drew) ?_
          intro Q' hQ'
          (rw [wpMixC]; simp only [pick, List.drop_succ_cons, List.drop_zero, List.head?_cons, Option.toList_some, List.cons_append, List.nil_append])
          (repeat (first | go_big_quiet_skip | (go_big_quiet_want; refine quiet_simple rfl ?_; go_big_quiet_op; go_big_quiet_on) | (go_big_quiet_want; refine quiet_cellB (ty := 3) rfl rfl (by kernel_rfl) (by assumption) (by first | omega | (simp; omega)) ?_; simp only [Act.put, List.setIfInBounds_toArray, List.set_cons_succ, List.set_cons_zero]; go_big_quiet_on)))
          (try refine wpQuiet_nil ?_)
          (rw [wpMixC])
          (rw [wpMix])
          (refine hQ' _ _ ?_)
          go_wp2_with fail
          go_ret
          exact ⟨by rw [HE.out]; rfl, by (repeat (with_reducible first | exact Below.refl _ _ | assumption | refine Below.drewN _ ?_ | refine Below.drew ?_ | refine Below_alloc ?_ _ | refine Below.alloc ?_ (by first | (simp; done) | (simp; omega) | omega) _ | refine Below.setCell ?_ (by first | (simp; done) | (simp; omega) | omega) _ | refine Below_call ?_ (by assumption) | refine Below.trans ?_ (by assumption)))⟩
        · subst heq
          go_wp2_with fail
          refine wp_mixC (fun wc => Below (w.heap.size) wr wc) 9 [.q [0, 1, 2, 3, 4, 5, 6, 7, 8]] [] (by kernel_rfl) (by kernel_rfl) ((Below.refl _ _).drew) ?_
          intro Q' hQ'
          (rw [wpMixC]; simp only [pick, List.drop_succ_cons, List.drop_zero, List.head?_cons, Option.toList_some, List.cons_append, List.nil_append])
          (repeat (first | go_big_quiet_skip | (go_big_quiet_want; refine quiet_simple rfl ?_; go_big_quiet_op; go_big_quiet_on) | (go_big_quiet_want; refine quiet_cellB (ty := 3) rfl rfl (by kernel_rfl) (by assumption) (by first | omega | (simp; omega)) ?_; simp only [Act.put, List.setIfInBounds_toArray, List.set_cons_succ, List.set_cons_zero]; go_big_quiet_on)))
          (try refine wpQuiet_nil ?_)
          (rw [wpMixC])
          (rw [wpMix])
          (refine hQ' _ _ ?_)
          go_wp2_with fail
          have c1' : wr.drew.cell? ⟨b1, off1 + m, none⟩ = _ := c1
          have c2' : wr.drew.cell? ⟨b2, off2 + m, none⟩ = _ := c2
          refine wp_mixC (fun wc => Below (w.heap.size) wr.drew wc) 9 [.q [0, 1, 2, 3, 4, 5, 6, 7, 8]] [] (by kernel_rfl) (by kernel_rfl) ((Below.refl _ _).drew) ?_
          intro Q' hQ'
          (rw [wpMixC]; simp only [pick, List.drop_succ_cons, List.drop_zero, List.head?_cons, Option.toList_some, List.cons_append, List.nil_append])
          (repeat (first | go_big_quiet_skip | (go_big_quiet_want; refine quiet_simple rfl ?_; go_big_quiet_op; go_big_quiet_on) | (go_big_quiet_want; refine quiet_cellB (ty := 3) rfl rfl (by kernel_rfl) (by assumption) (by first | omega | (simp; omega)) ?_; simp only [Act.put, List.setIfInBounds_toArray, List.set_cons_succ, List.set_cons_zero]; go_big_quiet_on)))
          (try refine wpQuiet_nil ?_)
          (rw [wpMixC])
          (rw [wpMix])
          (refine hQ' _ _ ?_)
          go_wp2_with fail
          go_roundw
          case rel =>
            refine ⟨m, by omega, by go_num, hid (fun j hj => ?_), by (repeat (with_reducible first | exact Below.refl _ _ | assumption | refine Below.drewN _ ?_ | refine Below.drew ?_ | refine Below_alloc ?_ _ | refine Below.alloc ?_ (by first | (simp; done) | (simp; omega) | omega) _ | refine Below.setCell ?_ (by first | (simp; done) | (simp; omega) | omega) _ | refine Below_call ?_ (by assumption) | refine Below.trans ?_ (by assumption)))⟩
            rcases Nat.lt_or_ge m j with h | h
            · exact HZ.out j h
            · rw [show j = m from by omega, ← HD.out, ← HEE.out]
          case measure => simp [intOf]
        · have HE : Hid (cmpN a b = 1) := hid (by
            have := dval_cmp (by rw [HB.out]; exact isD_dig b) (by rw [HA.out]; exact isD_dig a) HL.out.symm (show m < lb.length by omega) (fun j hj => (HS.out j hj).symm) (by rw [← HD.out, ← HEE.out]; exact hgt)
            rw [HA.out, HB.out, dval_dig, dval_dig] at this
            unfold cmpN; rw [if_neg (by omega), if_neg (by omega)])
          go_wp2_with fail
          refine wp_mixC (fun wc => Below (w.heap.size) wr wc) 9 [.q [0, 1, 2, 3, 4, 5, 6, 7, 8]] [] (by kernel_rfl) (by kernel_rfl) ((Below.refl _ _).drew) ?_
          intro Q' hQ'
          (rw [wpMixC]; simp only [pick, List.drop_succ_cons, List.drop_zero, List.head?_cons, Option.toList_some, List.cons_append, List.nil_append])
          (repeat (first | go_big_quiet_skip | (go_big_quiet_want; refine quiet_simple rfl ?_; go_big_quiet_op; go_big_quiet_on) | (go_big_quiet_want; refine quiet_cellB (ty := 3) rfl rfl (by kernel_rfl) (by assumption) (by first | omega | (simp; omega)) ?_; simp only [Act.put, List.setIfInBounds_toArray, List.set_cons_succ, List.set_cons_zero]; go_big_quiet_on)))
          (try refine wpQuiet_nil ?_)
          (rw [wpMixC])
          (rw [wpMix])
          (refine hQ' _ _ ?_)
          go_wp2_with fail
          have c1' : wr.drew.cell? ⟨b1, off1 + m, none⟩ = _ := c1
          have c2' : wr.drew.cell? ⟨b2, off2 + m, none⟩ = _ := c2
          refine wp_mixC (fun wc => Below (w.heap.size) wr.drew wc) 9 [.q [0, 1, 2, 3, 4, 5, 6, 7, 8]] [] (by kernel_rfl) (by kernel_rfl) ((Below.refl _ _).drew) ?_
          intro Q' hQ'
          (rw [wpMixC]; simp only [pick, List.drop_succ_cons, List.drop_zero, List.head?_cons, Option.toList_some, List.cons_append, List.nil_append])
          (repeat (first | go_big_quiet_skip | (go_big_quiet_want; refine quiet_simple rfl ?_; go_big_quiet_op; go_big_quiet_on) | (go_big_quiet_want; refine quiet_cellB (ty := 3) rfl rfl (by kernel_rfl) (by assumption) (by first | omega | (simp; omega)) ?_; simp only [Act.put, List.setIfInBounds_toArray, List.set_cons_succ, List.set_cons_zero]; go_big_quiet_on)))
          (try refine wpQuiet_nil ?_)
          (rw [wpMixC])
          (rw [wpMix])
          (refine hQ' _ _ ?_)
          go_wp2_with fail
          go_ret
          exact ⟨by rw [HE.out]; rfl, by (repeat (with_reducible first | exact Below.refl _ _ | assumption | refine Below.drewN _ ?_ | refine Below.drew ?_ | refine Below_alloc ?_ _ | refine Below.alloc ?_ (by first | (simp; done) | (simp; omega) | omega) _ | refine Below.setCell ?_ (by first | (simp; done) | (simp; omega) | omega) _ | refine Below_call ?_ (by assumption) | refine Below.trans ?_ (by assumption)))⟩
  · have HL : Hid ((la.length < lb.length → cmpN a b = -1) ∧ (lb.length < la.length → cmpN a b = 1)) := hid (by
      rw [HA.out, HB.out]
      refine ⟨fun h => ?_, fun h => ?_⟩
      · have := dig_len_lt h; unfold cmpN; rw [if_pos this]
      · have := dig_len_lt h; unfold cmpN; rw [if_neg (by omega), if_neg (by omega)])
    by_cases hlt : la.length < lb.length
    · go_enter Try.func150, Try.ntmps150
      go_wp2_with fail
      go_ret
      exact ⟨by rw [HL.out.1 hlt]; rfl, by (repeat (with_reducible first | exact Below.refl _ _ | assumption | refine Below.drewN _ ?_ | refine Below.drew ?_ | refine Below_alloc ?_ _ | refine Below.alloc ?_ (by first | (simp; done) | (simp; omega) | omega) _ | refine Below.setCell ?_ (by first | (simp; done) | (simp; omega) | omega) _ | refine Below_call ?_ (by assumption) | refine Below.trans ?_ (by assumption)))⟩
    · go_enter Try.func150, Try.ntmps150
      go_wp2_with fail
      go_ret
      exact ⟨by rw [HL.out.2 (by omega)]; rfl, by (repeat (with_reducible first | exact Below.refl _ _ | assumption | refine Below.drewN _ ?_ | refine Below.drew ?_ | refine Below_alloc ?_ _ | refine Below.alloc ?_ (by first | (simp; done) | (simp; omega) | omega) _ | refine Below.setCell ?_ (by first | (simp; done) | (simp; omega) | omega) _ | refine Below_call ?_ (by assumption) | refine Below.trans ?_ (by assumption)))⟩

end Go.Proofs.Ytlmdmpjfehpjeaa

/- Wide numbers: made of digits, digits added and subtracted. -/
set_option linter.unusedVariables false
set_option linter.unusedSimpArgs false
namespace Go.Proofs.Ytlmdmpjfehpjeaa
open Go.RowKit

theorem dlen {n k : Nat} (h : (n : Int) < dpw k) : (dig n).length ≤ k := by
  rcases Nat.lt_or_ge k (dig n).length with h1 | h1
  · obtain ⟨m, hm⟩ : ∃ m, (dig n).length = m + 1 := ⟨(dig n).length - 1, by omega⟩
    have h2 := dig_low hm
    have h3 := dpw_mono (show k ≤ m from by omega)
    omega
  · exact h1

/-- the sign of a number of a sign and digits. -/
def sg0 (d s : Int) : Int := if d = 0 then 0 else s

set_option maxRecDepth 100000 in
set_option maxHeartbeats 1000000 in
theorem base_wideOf (s : Int) (l : List Int) (ao : Option Addr) (cap : Nat) (w : World) (h : IntsAt w (.slice ao l.length cap) l) (hd : isD l) :
    Calls Try.prog 140 #[.int .i64 s, .slice ao l.length cap] w fun e w' => e = .returned (.agg #[.int .i64 (sg0 (dval l) s), .slice ao (tri l).length cap]) ∧ Below w.heap.size w w' := by
  obtain ⟨ao', cap', e, h1, h2, h3⟩ := h.opn
  cases e
  have HI := hid h
  have hr := dval_range hd
  have HL := hid (dig_nil (n := (dval l).toNat))
  have HT : Hid (∀ W, Below w.heap.size w W → Calls Try.prog 152 #[.slice ao l.length cap] W fun e w' => e = .returned (.slice ao (tri l).length cap) ∧ W = w') := hid (fun W hW => base_trimmed l _ _ _ (HI.out.below hW) hd)
  obtain ⟨r, hrr⟩ : ∃ r, r = tri l := ⟨_, rfl⟩
  rw [show dig (dval l).toNat = r from hrr.symm] at HL
  rw [← hrr] at HT ⊢
  clear h3 h h2 hrr
  by_cases hz : dval l = 0
  · have hl0 : r.length = 0 := HL.out.2 (by omega)
    have HZ : Hid (sg0 (dval l) s = 0) := hid (by unfold sg0; rw [if_pos hz])
    clear hz hr
    rw [HZ.out]
    go_enter Try.func140, Try.ntmps140
    go_wp2_with (go_at_call 152; refine (HT.out _ (by (repeat (with_reducible first | exact Below.refl _ _ | assumption | refine Below.drewN _ ?_ | refine Below.drew ?_ | refine Below_alloc ?_ _ | refine Below.alloc ?_ (by first | (simp; done) | (simp; omega) | omega) _ | refine Below.setCell ?_ (by first | (simp; done) | (simp; omega) | omega) _ | refine Below_call ?_ (by assumption) | refine Below.trans ?_ (by assumption))))).mono ?_; rintro _ _ ⟨rfl, rfl⟩)
    ((try simp only [Exit.inBlock, Exit.then]); refine bodyPost_ret (v := .agg #[.int .i64 0, .slice ao 0 cap]) ?_ rfl ?_; (next => simp [results, Try.results140, go_sem]); refine ⟨?_, ?_⟩; (next => simp [hl0]); (next => (repeat (with_reducible first | exact Below.refl _ _ | assumption | refine Below.drewN _ ?_ | refine Below.drew ?_ | refine Below_alloc ?_ _ | refine Below.alloc ?_ (by first | (simp; done) | (simp; omega) | omega) _ | refine Below.setCell ?_ (by first | (simp; done) | (simp; omega) | omega) _ | refine Below_call ?_ (by assumption) | refine Below.trans ?_ (by assumption)))))
  · have hl0 : 0 < r.length := Nat.pos_of_ne_zero (fun h => hz (by have := HL.out.1 h; omega))
    have HZ : Hid (sg0 (dval l) s = s) := hid (by unfold sg0; rw [if_neg hz])
    clear hz hr
    rw [HZ.out]
    go_enter Try.func140, Try.ntmps140
    go_wp2_with (go_at_call 152; refine (HT.out _ (by (repeat (with_reducible first | exact Below.refl _ _ | assumption | refine Below.drewN _ ?_ | refine Below.drew ?_ | refine Below_alloc ?_ _ | refine Below.alloc ?_ (by first | (simp; done) | (simp; omega) | omega) _ | refine Below.setCell ?_ (by first | (simp; done) | (simp; omega) | omega) _ | refine Below_call ?_ (by assumption) | refine Below.trans ?_ (by assumption))))).mono ?_; rintro _ _ ⟨rfl, rfl⟩)
    ((try simp only [Exit.inBlock, Exit.then]); refine bodyPost_ret (v := .agg #[.int .i64 s, .slice ao r.length cap]) ?_ rfl ?_; (next => simp [results, Try.results140, go_sem]); refine ⟨?_, ?_⟩; (next => rfl); (next => (repeat (with_reducible first | exact Below.refl _ _ | assumption | refine Below.drewN _ ?_ | refine Below.drew ?_ | refine Below_alloc ?_ _ | refine Below.alloc ?_ (by first | (simp; done) | (simp; omega) | omega) _ | refine Below.setCell ?_ (by first | (simp; done) | (simp; omega) | omega) _ | refine Below_call ?_ (by assumption) | refine Below.trans ?_ (by assumption)))))

set_option maxRecDepth 100000 in
set_option maxHeartbeats 1000000 in
theorem base_addDigits (la lb : List Int) (u v : Value) (w : World) (h : IntsAt w u la) (g : IntsAt w v lb) (ha : isD la) (hb : isD lb) (M : Nat) (hM : M ≤ 1000000) (hal : la.length ≤ M) (hbl : lb.length ≤ M) :
    Calls Try.prog 149 #[u, v] w fun e w' => ∃ r, e = .returned r ∧ ∃ xs, DigIn w' r xs (fun b => w.heap.size ≤ b) ∧ isD xs ∧ dval xs = dval la + dval lb ∧ xs.length ≤ M + 1 ∧ Below w.heap.size w w' := by
  obtain ⟨ao, cap, rfl, h1, h2, h3⟩ := h.opn
  obtain ⟨bo, cap2, rfl, g1, g2, g3⟩ := g.opn
  have HA := hid h
  have HB := hid g
  have HDA := hid ha
  have HDB := hid hb
  unfold maxLen at h2 g2
  clear h g h3 g3 ha hb
  go_enter Try.func149, Try.ntmps149
  go_wp2_with fail
  go_loopw [5, 6, 7] (fun o c i wr => ∃ (k : Nat) (cc : Int) (xs : List Int), k ≤ M + 1 ∧ c = .int .i64 cc ∧ 0 ≤ cc ∧ cc ≤ 1 ∧ (M < k → cc = 0) ∧ i = .int .i64 k ∧ xs.length = k ∧ Hid (isD xs ∧ dval xs + cc * dpw k = dval (la.take k) + dval (lb.take k)) ∧ wr.ownsRow w.heap.size 3 1 o k (xs.map (Value.int .i64)) ∧ Below w.heap.size w wr) (fun _ _ i _ => M + 1 - (intOf i).toNat)
  case atStart => exact ⟨0, 0, [], by omega, rfl, by omega, by omega, fun _ => rfl, rfl, rfl, hid ⟨isD_nil, by simp [dval]⟩, World.ownsRow_nil _ _ _ _, Below.refl _ _⟩
  case round =>
    obtain ⟨k, cc, xs, hk, rfl, hc0, hc1, hc2, rfl, hxl, HX, hown, hbel⟩ := hrel
    obtain ⟨oo, on, oc, rfl⟩ := ownsRow_shape hown
    have hzw := hbel.size
    have hIa := HA.out.below hbel
    have hIb := HB.out.below hbel
    by_cases hdone : la.length ≤ k ∧ lb.length ≤ k ∧ cc = 0
    · obtain ⟨d1, d2, rfl⟩ := hdone
      have HE := HX.out.2
      rw [List.take_of_length_le d1, List.take_of_length_le d2, Int.zero_mul, Int.add_zero] at HE
      have HE := hid HE
      have HO := hid hown
      clear hown hIa hIb
      go_wp2_with fail
      go_ret
      exact ⟨_, rfl, xs, ownsRow_dig (by rw [hxl]; exact HO.out), HX.out.1, HE.out, by omega, hbel⟩
    · have hcase : k < la.length ∨ (¬ k < la.length ∧ k < lb.length) ∨ (¬ k < la.length ∧ ¬ k < lb.length ∧ 0 < cc) := by omega
      obtain ⟨x, hx⟩ : ∃ x, x = nth la k := ⟨_, rfl⟩
      obtain ⟨y, hy⟩ : ∃ y, y = nth lb k := ⟨_, rfl⟩
      have hxb := isD_nth HDA.out k
      have hyb := isD_nth HDB.out k
      have HCa : Hid (∀ W, Below w.heap.size w W → Calls Try.prog 156 #[.slice ao la.length cap, .int .i64 k] W fun e w' => e = .returned (.int .i64 x) ∧ W = w') := hid (fun W hW => by rw [hx]; exact base_digit la _ _ (HA.out.below hW) k (by omega))
      have HCb : Hid (∀ W, Below w.heap.size w W → Calls Try.prog 156 #[.slice bo lb.length cap2, .int .i64 k] W fun e w' => e = .returned (.int .i64 y) ∧ W = w') := hid (fun W hW => by rw [hy]; exact base_digit lb _ _ (HB.out.below hW) k (by omega))
      rw [← hx] at hxb
      rw [← hy] at hyb
      have hzero : la.length ≤ k → x = 0 := fun h => by rw [hx]; exact dnth_ge h
      have hzero2 : lb.length ≤ k → y = 0 := fun h => by rw [hy]; exact dnth_ge h
      obtain ⟨q, hq⟩ : ∃ q, q = (x + y + cc) / 1000000000 := ⟨_, rfl⟩
      obtain ⟨r, hr⟩ : ∃ r, r = (x + y + cc) % 1000000000 := ⟨_, rfl⟩
      have hdiv : (x + y + cc).tdiv 1000000000 = q := by rw [Int.tdiv_eq_ediv_of_nonneg (by omega), hq]
      have hmod : (x + y + cc).tmod 1000000000 = r := by rw [Int.tmod_eq_emod_of_nonneg (by omega), hr]
      have HQ : Hid (x + y + cc = r + 1000000000 * q ∧ 0 ≤ r ∧ r < 1000000000 ∧ 0 ≤ q ∧ q ≤ 1 ∧ (M < k + 1 → q = 0)) := hid (by omega)
      have HN : Hid (isD (xs ++ [r]) ∧ dval (xs ++ [r]) + q * dpw (k + 1) = dval (la.take (k + 1)) + dval (lb.take (k + 1))) := hid (by
        refine ⟨isD_app.2 ⟨HX.out.1, by intro d hd; rw [List.mem_singleton.1 hd]; exact ⟨HQ.out.2.1, HQ.out.2.2.1⟩⟩, ?_⟩
        rw [dval_app, hxl, dval_take, dval_take, ← hx, ← hy]
        have e1 := HX.out.2
        have e2 : (x + y + cc) * dpw k = (r + 1000000000 * q) * dpw k := by rw [HQ.out.1]
        rw [Int.add_mul, Int.add_mul, Int.add_mul] at e2
        have e3 : q * dpw (k + 1) = 1000000000 * q * dpw k := by simp only [dpw]; rw [← Int.mul_assoc, Int.mul_comm q]
        have e4 : dpw k * dval [r] = r * dpw k := by simp [dval, Int.mul_comm]
        omega)
      have hrq := HQ.out.2
      have tok1 : True := trivial
      clear hq hr hx hy hIa hIb hdone HQ
      rcases hcase with hcs | ⟨hcs, hcs2⟩ | ⟨hcs, hcs2, hcs3⟩
      all_goals
        go_wp2_with (first | (go_at_call 156; clear tok1; refine (HCa.out _ hbel).mono ?_; rintro _ _ ⟨rfl, rfl⟩) | (go_at_call 156; refine (HCb.out _ hbel).mono ?_; rintro _ _ ⟨rfl, rfl⟩) | (at_builtin; refine wpList_push rfl _ _ _ rfl elemInt w.heap.size _ k _ rfl wr hown [.int .i64 r] rfl (by simp [Value.oneCell']) rfl _ rfl rfl (by omega) (by unfold maxLen; omega) hzw ?_; intro v1 w2 hown3 hb3 _ _))
        go_roundw
        case rel => exact ⟨k + 1, q, xs ++ [r], by omega, rfl, by omega, by omega, by omega, by go_num, by simp [hxl], HN, by rw [List.map_append]; exact hown3, by (repeat (with_reducible first | exact Below.refl _ _ | assumption | refine Below.drewN _ ?_ | refine Below.drew ?_ | refine Below_alloc ?_ _ | refine Below.alloc ?_ (by first | (simp; done) | (simp; omega) | omega) _ | refine Below.setCell ?_ (by first | (simp; done) | (simp; omega) | omega) _ | refine Below_call ?_ (by assumption) | refine Below.trans ?_ (by assumption)))⟩
        case measure => simp [intOf]; omega

set_option maxRecDepth 100000 in
theorem base_WideSign (x : Int) (s : Value) (w : World) : Calls Try.prog 141 #[.agg #[.int .i64 x, s]] w fun e w' => e = .returned (.int .i64 x) ∧ Below w.heap.size w w' := by
  go_enter Try.func141, Try.ntmps141
  go_wp2_with fail
  go_ret
  exact ⟨rfl, by (repeat (with_reducible first | exact Below.refl _ _ | assumption | refine Below.drewN _ ?_ | refine Below.drew ?_ | refine Below_alloc ?_ _ | refine Below.alloc ?_ (by first | (simp; done) | (simp; omega) | omega) _ | refine Below.setCell ?_ (by first | (simp; done) | (simp; omega) | omega) _ | refine Below_call ?_ (by assumption) | refine Below.trans ?_ (by assumption)))⟩

end Go.Proofs.Ytlmdmpjfehpjeaa

/- Wide numbers: digits subtracted, opposite numbers, numbers made. -/
set_option linter.unusedVariables false
set_option linter.unusedSimpArgs false
namespace Go.Proofs.Ytlmdmpjfehpjeaa
open Go.RowKit

set_option maxRecDepth 100000 in
set_option maxHeartbeats 1000000 in
theorem base_subDigits (a b : Nat) (u v : Value) (w : World) (h : IntsAt w u (dig a)) (g : IntsAt w v (dig b)) (hle : b ≤ a) (hal : (dig a).length ≤ 1000000) :
    Calls Try.prog 151 #[u, v] w fun e w' => ∃ r, e = .returned r ∧ DigIn w' r (dig (a - b)) (fun b => w.heap.size ≤ b) ∧ Below w.heap.size w w' := by
  obtain ⟨ao, cap, rfl, h1, h2, h3⟩ := h.opn
  obtain ⟨bo, cap2, rfl, g1, g2, g3⟩ := g.opn
  have HA := hid h
  have HB := hid g
  have hlb := dig_len_mono hle
  obtain ⟨la, hla⟩ : ∃ la, la = dig a := ⟨_, rfl⟩
  obtain ⟨lb, hlbb⟩ : ∃ lb, lb = dig b := ⟨_, rfl⟩
  have HAE := hid hla
  have HBE := hid hlbb
  rw [← hla] at h1 h3 hal hlb HA ⊢
  rw [← hlbb] at g1 hlb HB ⊢
  have HDA : Hid (isD la) := hid (by rw [hla]; exact isD_dig a)
  have HDB : Hid (isD lb) := hid (by rw [hlbb]; exact isD_dig b)
  unfold maxLen at h2 g2
  clear h g g3 hla hlbb
  go_enter Try.func151, Try.ntmps151
  go_wp2_with fail
  go_loopw [5, 6, 7] (fun o c i wr => ∃ (k : Nat) (cc : Int) (xs : List Int), k ≤ la.length ∧ c = .int .i64 cc ∧ 0 ≤ cc ∧ cc ≤ 1 ∧ i = .int .i64 k ∧ xs.length = k ∧ Hid (isD xs ∧ dval xs - cc * dpw k = dval (la.take k) - dval (lb.take k)) ∧ wr.ownsRow w.heap.size 3 1 o k (xs.map (Value.int .i64)) ∧ Below w.heap.size w wr) (fun _ _ i _ => la.length - (intOf i).toNat)
  case atStart => exact ⟨0, 0, [], by omega, rfl, by omega, by omega, rfl, rfl, hid ⟨isD_nil, by simp [dval]⟩, World.ownsRow_nil _ _ _ _, Below.refl _ _⟩
  case round =>
    obtain ⟨k, cc, xs, hk, rfl, hc0, hc1, rfl, hxl, HX, hown, hbel⟩ := hrel
    obtain ⟨oo, on, oc, rfl⟩ := ownsRow_shape hown
    have hzw := hbel.size
    by_cases hlt : k < la.length
    · obtain ⟨b1, off1, rfl, hb1, hcell1⟩ := h3 k hlt
      have c0 := (hbel.cell (p := ⟨b1, off1 + k, none⟩) hb1).trans (hcell1 k hlt)
      have hbw : b1 < wr.heap.size := by omega
      obtain ⟨x, hx⟩ : ∃ x, x = nth la k := ⟨_, rfl⟩
      obtain ⟨y, hy⟩ : ∃ y, y = nth lb k := ⟨_, rfl⟩
      have hxb := isD_nth HDA.out k
      have hyb := isD_nth HDB.out k
      have HCb : Hid (∀ W, Below w.heap.size w W → Calls Try.prog 156 #[.slice bo lb.length cap2, .int .i64 k] W fun e w' => e = .returned (.int .i64 y) ∧ W = w') := hid (fun W hW => by rw [hy]; exact base_digit lb _ _ (HB.out.below hW) k (by omega))
      rw [← hx] at hxb c0
      rw [← hy] at hyb
      have HXY : Hid (x = nth la k ∧ y = nth lb k) := hid ⟨hx, hy⟩
      clear h3 hcell1 hx hy
      have hownd : wr.drew.ownsRow w.heap.size 3 1 (.slice oo on oc) k (xs.map (Value.int .i64)) := hown
      have hzd : w.heap.size ≤ wr.drew.heap.size := hzw
      have key : ∀ (r q : Int), x - y - cc = r - 1000000000 * q → 0 ≤ r → r < 1000000000 → isD (xs ++ [r]) ∧ dval (xs ++ [r]) - q * dpw (k + 1) = dval (la.take (k + 1)) - dval (lb.take (k + 1)) := by
        intro r q e hr0 hr1
        refine ⟨isD_app.2 ⟨HX.out.1, by intro d hd; rw [List.mem_singleton.1 hd]; exact ⟨hr0, hr1⟩⟩, ?_⟩
        rw [dval_app, hxl, dval_take, dval_take, ← HXY.out.1, ← HXY.out.2]
        have e1 := HX.out.2
        have e2 : (x - y - cc) * dpw k = (r - 1000000000 * q) * dpw k := by rw [e]
        rw [Int.sub_mul, Int.sub_mul, Int.sub_mul] at e2
        have e3 : q * dpw (k + 1) = 1000000000 * q * dpw k := by simp only [dpw]; rw [← Int.mul_assoc, Int.mul_comm q]
        have e4 : dpw k * dval [r] = r * dpw k := by simp [dval, Int.mul_comm]
        omega
      have KEY := hid key
      clear key hown
      by_cases hneg : x - y - cc < 0
      · obtain ⟨r, hr⟩ : ∃ r, r = x - y - cc + 1000000000 := ⟨_, rfl⟩
        have hrb : 0 ≤ r ∧ r < 1000000000 := by omega
        have HN := hid (KEY.out r 1 (by omega) hrb.1 hrb.2)
        have hrs := hr.symm
        clear hr
        go_wp2_with fail
        refine wp_mixC (fun wc => Below (w.heap.size) wr wc) 10 [.q [0, 1, 2, 3, 4, 5, 8], .f [6], .q [7, 9]] [.q [10]] (by kernel_rfl) (by kernel_rfl) ((Below.refl _ _).drew) ?_
        intro Q' hQ'
        (rw [wpMixC]; simp only [pick, List.drop_succ_cons, List.drop_zero, List.head?_cons, Option.toList_some, List.cons_append, List.nil_append])
        (repeat (first | go_big_quiet_skip | (go_big_quiet_want; refine quiet_simple rfl ?_; go_big_quiet_op; go_big_quiet_on) | (go_big_quiet_want; refine quiet_cellB (ty := 3) rfl rfl (by kernel_rfl) (by assumption) (by first | omega | (simp; omega)) ?_; simp only [Act.put, List.setIfInBounds_toArray, List.set_cons_succ, List.set_cons_zero]; go_big_quiet_on)))
        (try refine wpQuiet_nil ?_)
        (rw [wpMixC]; simp only [pick, List.drop_succ_cons, List.drop_zero, List.head?_cons, Option.toList_some, List.cons_append, List.nil_append])
        (rw [wpSteps]; go_wp2_with ((go_at_call 156; refine (HCb.out _ (by (repeat (with_reducible first | exact Below.refl _ _ | assumption | refine Below.drewN _ ?_ | refine Below.drew ?_ | refine Below_alloc ?_ _ | refine Below.alloc ?_ (by first | (simp; done) | (simp; omega) | omega) _ | refine Below.setCell ?_ (by first | (simp; done) | (simp; omega) | omega) _ | refine Below_call ?_ (by assumption) | refine Below.trans ?_ (by assumption))))).mono ?_; rintro _ _ ⟨rfl, rfl⟩)); rw [contF]; refine ⟨?_, ?_⟩; (next => (repeat (with_reducible first | exact Below.refl _ _ | assumption | refine Below.drewN _ ?_ | refine Below.drew ?_ | refine Below_alloc ?_ _ | refine Below.alloc ?_ (by first | (simp; done) | (simp; omega) | omega) _ | refine Below.setCell ?_ (by first | (simp; done) | (simp; omega) | omega) _ | refine Below_call ?_ (by assumption) | refine Below.trans ?_ (by assumption)))))
        (rw [wpSteps])
        (rw [wpMixC]; simp only [pick, List.drop_succ_cons, List.drop_zero, List.head?_cons, Option.toList_some, List.cons_append, List.nil_append])
        (repeat (first | go_big_quiet_skip | (go_big_quiet_want; refine quiet_simple rfl ?_; go_big_quiet_op; go_big_quiet_on) | (go_big_quiet_want; refine quiet_cellB (ty := 3) rfl rfl (by kernel_rfl) (by assumption) (by first | omega | (simp; omega)) ?_; simp only [Act.put, List.setIfInBounds_toArray, List.set_cons_succ, List.set_cons_zero]; go_big_quiet_on)))
        (try refine wpQuiet_nil ?_)
        (rw [wpMixC])
        (rw [wpMix]; simp only [pick, List.drop_succ_cons, List.drop_zero, List.head?_cons, Option.toList_some, List.cons_append, List.nil_append])
        (repeat (first | (go_big_quiet_step (fail)) | (quiet_step (fail))))
        (try refine wpQuiet_nil ?_)
        (rw [wpMix])
        (refine hQ' _ _ ?_)
        go_wp2_with (at_builtin; refine wpList_push rfl _ _ _ rfl elemInt w.heap.size _ k _ rfl _ hownd [.int .i64 r] rfl (by simp [Value.oneCell']) rfl _ rfl rfl (by omega) (by unfold maxLen; omega) hzd ?_; intro v1 w2 hown3 hb3 _ _)
        go_roundw
        case rel => exact ⟨k + 1, 1, xs ++ [r], by omega, rfl, by omega, by omega, by go_num, by simp [hxl], HN, by rw [List.map_append]; exact hown3, by (repeat (with_reducible first | exact Below.refl _ _ | assumption | refine Below.drewN _ ?_ | refine Below.drew ?_ | refine Below_alloc ?_ _ | refine Below.alloc ?_ (by first | (simp; done) | (simp; omega) | omega) _ | refine Below.setCell ?_ (by first | (simp; done) | (simp; omega) | omega) _ | refine Below_call ?_ (by assumption) | refine Below.trans ?_ (by assumption)))⟩
        case measure => simp [intOf]; omega
      · obtain ⟨r, hr⟩ : ∃ r, r = x - y - cc := ⟨_, rfl⟩
        have hrb : 0 ≤ r ∧ r < 1000000000 := by omega
        have HN := hid (KEY.out r 0 (by omega) hrb.1 hrb.2)
        have hrs := hr.symm
        clear hr
        go_wp2_with fail
        refine wp_mixC (fun wc => Below (w.heap.size) wr wc) 10 [.q [0, 1, 2, 3, 4, 5, 8], .f [6], .q [7, 9]] [.q [10]] (by kernel_rfl) (by kernel_rfl) ((Below.refl _ _).drew) ?_
        intro Q' hQ'
        (rw [wpMixC]; simp only [pick, List.drop_succ_cons, List.drop_zero, List.head?_cons, Option.toList_some, List.cons_append, List.nil_append])
        (repeat (first | go_big_quiet_skip | (go_big_quiet_want; refine quiet_simple rfl ?_; go_big_quiet_op; go_big_quiet_on) | (go_big_quiet_want; refine quiet_cellB (ty := 3) rfl rfl (by kernel_rfl) (by assumption) (by first | omega | (simp; omega)) ?_; simp only [Act.put, List.setIfInBounds_toArray, List.set_cons_succ, List.set_cons_zero]; go_big_quiet_on)))
        (try refine wpQuiet_nil ?_)
        (rw [wpMixC]; simp only [pick, List.drop_succ_cons, List.drop_zero, List.head?_cons, Option.toList_some, List.cons_append, List.nil_append])
        (rw [wpSteps]; go_wp2_with ((go_at_call 156; refine (HCb.out _ (by (repeat (with_reducible first | exact Below.refl _ _ | assumption | refine Below.drewN _ ?_ | refine Below.drew ?_ | refine Below_alloc ?_ _ | refine Below.alloc ?_ (by first | (simp; done) | (simp; omega) | omega) _ | refine Below.setCell ?_ (by first | (simp; done) | (simp; omega) | omega) _ | refine Below_call ?_ (by assumption) | refine Below.trans ?_ (by assumption))))).mono ?_; rintro _ _ ⟨rfl, rfl⟩)); rw [contF]; refine ⟨?_, ?_⟩; (next => (repeat (with_reducible first | exact Below.refl _ _ | assumption | refine Below.drewN _ ?_ | refine Below.drew ?_ | refine Below_alloc ?_ _ | refine Below.alloc ?_ (by first | (simp; done) | (simp; omega) | omega) _ | refine Below.setCell ?_ (by first | (simp; done) | (simp; omega) | omega) _ | refine Below_call ?_ (by assumption) | refine Below.trans ?_ (by assumption)))))
        (rw [wpSteps])
        (rw [wpMixC]; simp only [pick, List.drop_succ_cons, List.drop_zero, List.head?_cons, Option.toList_some, List.cons_append, List.nil_append])
        (repeat (first | go_big_quiet_skip | (go_big_quiet_want; refine quiet_simple rfl ?_; go_big_quiet_op; go_big_quiet_on) | (go_big_quiet_want; refine quiet_cellB (ty := 3) rfl rfl (by kernel_rfl) (by assumption) (by first | omega | (simp; omega)) ?_; simp only [Act.put, List.setIfInBounds_toArray, List.set_cons_succ, List.set_cons_zero]; go_big_quiet_on)))
        (try refine wpQuiet_nil ?_)
        (rw [wpMixC])
        (rw [wpMix]; simp only [pick, List.drop_succ_cons, List.drop_zero, List.head?_cons, Option.toList_some, List.cons_append, List.nil_append])
        (repeat (first | (go_big_quiet_step (fail)) | (quiet_step (fail))))
        (try refine wpQuiet_nil ?_)
        (rw [wpMix])
        (refine hQ' _ _ ?_)
        go_wp2_with (at_builtin; refine wpList_push rfl _ _ _ rfl elemInt w.heap.size _ k _ rfl _ hownd [.int .i64 r] rfl (by simp [Value.oneCell']) rfl _ rfl rfl (by omega) (by unfold maxLen; omega) hzd ?_; intro v1 w2 hown3 hb3 _ _)
        go_roundw
        case rel => exact ⟨k + 1, 0, xs ++ [r], by omega, rfl, by omega, by omega, by go_num, by simp [hxl], HN, by rw [List.map_append]; exact hown3, by (repeat (with_reducible first | exact Below.refl _ _ | assumption | refine Below.drewN _ ?_ | refine Below.drew ?_ | refine Below_alloc ?_ _ | refine Below.alloc ?_ (by first | (simp; done) | (simp; omega) | omega) _ | refine Below.setCell ?_ (by first | (simp; done) | (simp; omega) | omega) _ | refine Below_call ?_ (by assumption) | refine Below.trans ?_ (by assumption)))⟩
        case measure => simp [intOf]; omega
    · have HE : Hid (isD xs ∧ (tri xs) = dig (a - b)) := hid (by
        have e1 := HX.out.2
        rw [List.take_of_length_le (by omega), List.take_of_length_le (by omega), HAE.out, HBE.out, dval_dig, dval_dig] at e1
        have e2 := dval_range HX.out.1
        rw [hxl] at e2
        have : cc = 0 ∨ cc = 1 := by omega
        refine ⟨HX.out.1, ?_⟩
        unfold tri
        congr 1
        rcases this with rfl | rfl
        · omega
        · omega)
      subst hxl
      obtain ⟨ho, hc, e, _⟩ := (ownsRow_dig hown)
      cases e
      have HO := hid (ownsRow_dig hown)
      have HT : Hid (∀ W, Below wr.heap.size wr W → Calls Try.prog 152 #[.slice oo xs.length oc] W fun e w' => e = .returned (.slice oo (tri xs).length oc) ∧ W = w') := hid (fun W hW => base_trimmed xs _ _ _ (HO.out.ints.below hW) HE.out.1)
      clear hown h3
      go_wp2_with (go_at_call 152; refine (HT.out _ (by (repeat (with_reducible first | exact Below.refl _ _ | assumption | refine Below.drewN _ ?_ | refine Below.drew ?_ | refine Below_alloc ?_ _ | refine Below.alloc ?_ (by first | (simp; done) | (simp; omega) | omega) _ | refine Below.setCell ?_ (by first | (simp; done) | (simp; omega) | omega) _ | refine Below_call ?_ (by assumption) | refine Below.trans ?_ (by assumption))))).mono ?_; rintro _ _ ⟨rfl, rfl⟩)
      go_ret
      refine ⟨_, rfl, ?_, hbel⟩
      rw [← HE.out.2]
      exact HO.out.trim HE.out.1

theorem sg_neg (z : Int) : sg (-z) = -sg z := by
  unfold sg
  rcases Int.lt_trichotomy z 0 with h | h | h
  · rw [if_neg (by omega), if_neg (by omega), if_pos h]; rfl
  · subst h; rfl
  · rw [if_pos (by omega), if_neg (by omega), if_neg (by omega)]
theorem sg_range (z : Int) : -1 ≤ sg z ∧ sg z ≤ 1 := by unfold sg; split; omega; split <;> omega
theorem WideAt.neg {w : World} {ao : Option Addr} {cap : Nat} {z x : Int} {n : Nat} {N : Nat → Prop} (h : WideAt w (.agg #[.int .i64 x, .slice ao n cap]) z N) : WideAt w (.agg #[.int .i64 (-x), .slice ao n cap]) (-z) N := by
  obtain ⟨ao', cap', e, h1⟩ := h
  cases e
  exact ⟨ao, cap, by rw [sg_neg, Int.natAbs_neg], by rw [Int.natAbs_neg]; exact h1⟩

set_option maxRecDepth 100000 in
theorem base_WideNeg (x : Int) (ao : Option Addr) (n cap : Nat) (w : World) (hx : -1 ≤ x ∧ x ≤ 1) : Calls Try.prog 138 #[.agg #[.int .i64 x, .slice ao n cap]] w fun e w' => e = .returned (.agg #[.int .i64 (-x), .slice ao n cap]) ∧ Below w.heap.size w w' := by
  go_enter Try.func138, Try.ntmps138
  go_wp2_with fail
  ((try simp only [Exit.inBlock, Exit.then]); refine bodyPost_ret (v := .agg #[.int .i64 (-x), .slice ao n cap]) ?_ rfl ?_; (next => simp [results, Try.results138, go_sem]); refine ⟨?_, ?_⟩; (next => rfl); (next => (repeat (with_reducible first | exact Below.refl _ _ | assumption | refine Below.drewN _ ?_ | refine Below.drew ?_ | refine Below_alloc ?_ _ | refine Below.alloc ?_ (by first | (simp; done) | (simp; omega) | omega) _ | refine Below.setCell ?_ (by first | (simp; done) | (simp; omega) | omega) _ | refine Below_call ?_ (by assumption) | refine Below.trans ?_ (by assumption)))))

set_option maxRecDepth 100000 in
theorem base_wideSize (x : Int) (ao : Option Addr) (n cap : Nat) (w : World) (hx : -1 ≤ x ∧ x ≤ 1) : Calls Try.prog 153 #[.agg #[.int .i64 x, .slice ao n cap]] w fun e w' => e = .returned (.agg #[.int .i64 (if x < 0 then -x else x), .slice ao n cap]) ∧ Below w.heap.size w w' := by
  by_cases hn : x < 0
  · rw [if_pos hn]
    go_enter Try.func153, Try.ntmps153
    go_wp2_with ((go_at_call 138; refine (base_WideNeg _ _ _ _ _ hx).mono ?_; rintro _ w1 ⟨rfl, hb1⟩; obtain ⟨hc1, hf1⟩ := bcell hb1; have hz1 := hb1.size; (try simp only [World.size_alloc, World.heap_drewN] at hz1); have hk1_0 : w.heap.size < w1.heap.size := (by omega); have hk1_1 : w.heap.size + 1 < w1.heap.size := (by omega); have q1_1_0 := hc1 (w.heap.size + 1) 0 (by first | assumption | (simp; done) | (simp; omega)); (try simp at q1_1_0); have p1_1_0 := hf1 (w.heap.size + 1) 0 (by first | assumption | (simp; done) | (simp; omega)); (try simp at p1_1_0); have q1_1_1 := hc1 (w.heap.size + 1) 1 (by first | assumption | (simp; done) | (simp; omega)); (try simp at q1_1_1); have p1_1_1 := hf1 (w.heap.size + 1) 1 (by first | assumption | (simp; done) | (simp; omega)); (try simp at p1_1_1)))
    ((try simp only [Exit.inBlock, Exit.then]); refine bodyPost_ret (v := .agg #[.int .i64 (-x), .slice ao n cap]) ?_ rfl ?_; (next => simp [results, Try.results153, go_sem, hk1_1, q1_1_0, q1_1_1]); refine ⟨?_, ?_⟩; (next => rfl); (next => (repeat (with_reducible first | exact Below.refl _ _ | assumption | refine Below.drewN _ ?_ | refine Below.drew ?_ | refine Below_alloc ?_ _ | refine Below.alloc ?_ (by first | (simp; done) | (simp; omega) | omega) _ | refine Below.setCell ?_ (by first | (simp; done) | (simp; omega) | omega) _ | refine Below_call ?_ (by assumption) | refine Below.trans ?_ (by assumption)))))
  · rw [if_neg hn]
    go_enter Try.func153, Try.ntmps153
    go_wp2_with fail
    ((try simp only [Exit.inBlock, Exit.then]); refine bodyPost_ret (v := .agg #[.int .i64 x, .slice ao n cap]) ?_ rfl ?_; (next => simp [results, Try.results153, go_sem]); refine ⟨?_, ?_⟩; (next => rfl); (next => (repeat (with_reducible first | exact Below.refl _ _ | assumption | refine Below.drewN _ ?_ | refine Below.drew ?_ | refine Below_alloc ?_ _ | refine Below.alloc ?_ (by first | (simp; done) | (simp; omega) | omega) _ | refine Below.setCell ?_ (by first | (simp; done) | (simp; omega) | omega) _ | refine Below_call ?_ (by assumption) | refine Below.trans ?_ (by assumption)))))

end Go.Proofs.Ytlmdmpjfehpjeaa

/- Wide numbers: made of a number, added. -/
set_option linter.unusedVariables false
set_option linter.unusedSimpArgs false
namespace Go.Proofs.Ytlmdmpjfehpjeaa
open Go.RowKit

theorem DigIn.store2 {w w1 : World} {v : Value} {l : List Int} {N0 N : Nat → Prop} {B : Nat} (h : DigIn w v l N0) (hb : Below w.heap.size w w1) (hN : ∀ b, N0 b → b ≠ B ∧ N b) (x y : Value) :
    DigIn ((w1.setCell ⟨B, 0, none⟩ x).setCell ⟨B, 1, none⟩ y) v l N := by
  refine h.keep (by rw [World.size_setCell, World.size_setCell]; exact hb.size) fun b hlt h0 => ⟨?_, (hN b h0).2⟩
  rw [heap_setCell_other _ _ _ _ (hN b h0).1, heap_setCell_other _ _ _ _ (hN b h0).1, hb.block b hlt]
theorem WideAt.store2 {w w1 : World} {v : Value} {z : Int} {N0 N : Nat → Prop} {B : Nat} (h : WideAt w v z N0) (hb : Below w.heap.size w w1) (hN : ∀ b, N0 b → b ≠ B ∧ N b) (x y : Value) :
    WideAt ((w1.setCell ⟨B, 0, none⟩ x).setCell ⟨B, 1, none⟩ y) v z N := by
  obtain ⟨ao, cap, rfl, h1⟩ := h
  exact ⟨ao, cap, rfl, h1.store2 hb hN x y⟩
theorem wide_of {xs : List Int} {z s : Int} (e : dval xs = z.natAbs) (hs : z ≠ 0 → s = sg z) : sg0 (dval xs) s = sg z ∧ tri xs = dig z.natAbs := by
  refine ⟨?_, ?_⟩
  · unfold sg0
    by_cases hz : z = 0
    · subst hz; rw [if_pos (by rw [e]; rfl)]; rfl
    · rw [if_neg (by omega), hs hz]
  · unfold tri; rw [e]; rfl
theorem wide_fin {w1 w2 : World} {B : Nat} {ro : Option Addr} {rc : Nat} {xs : List Int} {z s : Int} {N0 N : Nat → Prop} (hd : isD xs) (e : dval xs = z.natAbs) (hs : z ≠ 0 → s = sg z) (h : DigIn w1 (.slice ro xs.length rc) xs N0) (hb : Below w1.heap.size w1 w2) (hN : ∀ b, N0 b → b ≠ B ∧ N b) (x y : Value) :
    WideAt ((w2.setCell ⟨B, 0, none⟩ x).setCell ⟨B, 1, none⟩ y) (.agg #[.int .i64 (sg0 (dval xs) s), .slice ro (tri xs).length rc]) z N := by
  obtain ⟨e1, e2⟩ := wide_of (s := s) e hs
  have := (h.trim hd).store2 hb hN x y
  rw [e1, e2]
  rw [e2] at this
  exact ⟨ro, rc, rfl, this⟩
theorem DigIn.shape {w : World} {v : Value} {l : List Int} {N : Nat → Prop} (h : DigIn w v l N) : ∃ ao cap, v = .slice ao l.length cap := by
  obtain ⟨ao, cap, rfl, _⟩ := h
  exact ⟨ao, cap, rfl⟩

set_option maxRecDepth 100000 in
set_option maxHeartbeats 1000000 in
theorem base_WideOf (n : Int) (w : World) (N : Nat → Prop) (hN : ∀ b, w.heap.size ≤ b → N b) (h1 : -9223372036854775807 ≤ n) (h2 : n ≤ 9223372036854775807) :
    Calls Try.prog 126 #[.int .i64 n] w (RetWide w n N) := by
  have hsn : ∃ s : Int, (n < 0 ∧ s = -1 ∨ ¬ n < 0 ∧ s = 1) := by
    by_cases h : n < 0
    · exact ⟨-1, Or.inl ⟨h, rfl⟩⟩
    · exact ⟨1, Or.inr ⟨h, rfl⟩⟩
  obtain ⟨s, hs⟩ := hsn
  have HSG : Hid (n ≠ 0 → s = sg n) := hid (by intro h; unfold sg; rcases hs with ⟨h3, rfl⟩ | ⟨h3, rfl⟩; rw [if_pos h3]; rw [if_neg h3, if_neg h])
  go_enter Try.func126, Try.ntmps126
  obtain ⟨W0, hW0⟩ : ∃ W0, W0 = w.alloc (.cells #[.int .i64 0, .slice none 0 0] 51) := ⟨_, rfl⟩
  have hz0 : W0.heap.size = w.heap.size + 1 := by rw [hW0]; simp
  have hBW : Below w.heap.size w W0 := by rw [hW0]; (repeat (with_reducible first | exact Below.refl _ _ | assumption | refine Below.drewN _ ?_ | refine Below.drew ?_ | refine Below_alloc ?_ _ | refine Below.alloc ?_ (by first | (simp; done) | (simp; omega) | omega) _ | refine Below.setCell ?_ (by first | (simp; done) | (simp; omega) | omega) _ | refine Below_call ?_ (by assumption) | refine Below.trans ?_ (by assumption)))
  have hcells : W0.heap[w.heap.size]? = some (.cells #[.int .i64 0, .slice none 0 0] 51 (0, 0)) := by rw [hW0]; exact heap_alloc_new w _
  have HC := hid hcells
  rcases hs with ⟨hneg, rfl⟩ | ⟨hneg, rfl⟩
  all_goals
    go_wp2_with fail
    rw [← hW0]
    clear hW0 hcells
    go_loopw [0, 4] (fun m o wr => ∃ (mm : Int) (xs : List Int), m = .int .i64 mm ∧ xs.length ≤ 3 ∧ (xs.length = 0 → mm.natAbs < 10000000000000000000) ∧ (xs.length = 1 → mm.natAbs < 10000000000) ∧ (xs.length = 2 → mm.natAbs < 10) ∧ (xs.length = 3 → mm = 0) ∧ Hid (isD xs ∧ dval xs + (mm.natAbs : Int) * dpw xs.length = n.natAbs) ∧ wr.ownsRow W0.heap.size 3 1 o xs.length (xs.map (Value.int .i64)) ∧ Below W0.heap.size W0 wr) (fun m _ _ => (intOf m).natAbs)
    case atStart => exact ⟨n, [], rfl, by simp, by intro _; omega, by simp, by simp, by simp, hid ⟨isD_nil, by simp [dval, dpw]⟩, World.ownsRow_nil _ _ _ _, Below.refl _ _⟩
    case round =>
      obtain ⟨mm, xs, rfl, hx3, hb0, hb1, hb2, hb3, HX, hown, hbel⟩ := hrel
      obtain ⟨oo, on, oc, rfl⟩ := ownsRow_shape hown
      have hzw := hbel.size
      by_cases hm : mm = 0
      · subst hm
        obtain ⟨ao', cap', e⟩ := (ownsRow_dig hown).shape
        cases e
        have HO := hid (ownsRow_dig hown)
        have HE : Hid (dval xs = n.natAbs) := hid (by have := HX.out.2; simpa using this)
        have HWO : Hid (∀ W s', Below wr.heap.size wr W → Calls Try.prog 140 #[.int .i64 s', .slice oo xs.length oc] W fun e w' => e = .returned (.agg #[.int .i64 (sg0 (dval xs) s'), .slice oo (tri xs).length oc]) ∧ Below W.heap.size W w') := hid (fun W s' hW => base_wideOf s' xs _ _ _ (HO.out.ints.below hW) HX.out.1)
        have HZZ := hid (show wr.heap[w.heap.size]? = _ from (hbel.block w.heap.size (by omega)).trans HC.out)
        obtain ⟨S, hS⟩ : ∃ S, S = sg0 (dval xs) := ⟨_, rfl⟩
        obtain ⟨L, hL⟩ : ∃ L, L = (tri xs).length := ⟨_, rfl⟩
        rw [← hS, ← hL] at HWO
        have HSL := hid (And.intro hS hL)
        clear hown hS hL hb0 hb1 hb2 hb3
        go_wp2_with (go_at_call 140; refine (HWO.out _ _ (by (repeat (with_reducible first | exact Below.refl _ _ | assumption | refine Below.drewN _ ?_ | refine Below.drew ?_ | refine Below_alloc ?_ _ | refine Below.alloc ?_ (by first | (simp; done) | (simp; omega) | omega) _ | refine Below.setCell ?_ (by first | (simp; done) | (simp; omega) | omega) _ | refine Below_call ?_ (by assumption) | refine Below.trans ?_ (by assumption))))).mono ?_; rintro _ w1 ⟨rfl, hbb⟩; have HBB := hid hbb; obtain ⟨e0, e1, p0, p1, hlt1⟩ := two_cells ((hbb.block w.heap.size (by omega)).trans HZZ.out))
        obtain ⟨e0, e1, p0, p1, hlt1⟩ := two_cells ((HBB.out.block w.heap.size (by omega)).trans HZZ.out)
        (first | ((try simp only [Exit.inBlock, Exit.then]); refine bodyPost_ret (v := .agg #[.int .i64 (S (-1)), .slice oo L oc]) ?_ rfl ?_; (next => simp [results, Try.results126, go_sem, hlt1, e0, e1])) | ((try simp only [Exit.inBlock, Exit.then]); refine bodyPost_ret (v := .agg #[.int .i64 (S 1), .slice oo L oc]) ?_ rfl ?_; (next => simp [results, Try.results126, go_sem, hlt1, e0, e1])))
        rw [HSL.out.1, HSL.out.2]
        exact ⟨_, rfl, wide_fin HX.out.1 HE.out HSG.out HO.out HBB.out (fun b h => ⟨by omega, hN b (by omega)⟩) _ _, by (repeat (with_reducible first | exact Below.refl _ _ | assumption | refine Below.drewN _ ?_ | refine Below.drew ?_ | refine Below_alloc ?_ _ | refine Below.alloc ?_ (by first | (simp; done) | (simp; omega) | omega) _ | refine Below.setCell ?_ (by first | (simp; done) | (simp; omega) | omega) _ | refine Below_call ?_ (by assumption) | refine Below.trans ?_ (by assumption)))⟩
      · obtain ⟨q, hq⟩ : ∃ q, q = mm.tdiv 1000000000 := ⟨_, rfl⟩
        obtain ⟨r, hr⟩ : ∃ r, r = mm.tmod 1000000000 := ⟨_, rfl⟩
        have hqa : q.natAbs = mm.natAbs / 1000000000 := by rw [hq, Int.natAbs_tdiv]; rfl
        have hra : r.natAbs = mm.natAbs % 1000000000 := by rw [hr, Int.natAbs_tmod]; rfl
        have hrl : r.natAbs < 1000000000 := by omega
        have hq' := hq.symm
        have hr' := hr.symm
        have hx2 : xs.length ≤ 2 := by
          rcases (by omega : xs.length ≤ 2 ∨ xs.length = 3) with h | h
          · exact h
          · exact absurd (hb3 h) hm
        have hml : mm.natAbs < 10000000000000000000 := by
          rcases (by omega : xs.length = 0 ∨ xs.length = 1 ∨ xs.length = 2) with h | h | h
          · exact hb0 h
          · have := hb1 h; omega
          · have := hb2 h; omega
        have HQ := hid (And.intro hqa (And.intro hb0 (And.intro hb1 hb2)))
        have HN : Hid (isD (xs ++ [(r.natAbs : Int)]) ∧ dval (xs ++ [(r.natAbs : Int)]) + (q.natAbs : Int) * dpw (xs.length + 1) = n.natAbs) := hid (by
          refine ⟨isD_app.2 ⟨HX.out.1, by intro d hd; rw [List.mem_singleton.1 hd]; omega⟩, ?_⟩
          rw [dval_app, ← HX.out.2]
          have e2 : (mm.natAbs : Int) * dpw xs.length = ((r.natAbs : Int) + 1000000000 * (q.natAbs : Int)) * dpw xs.length := by congr 1; omega
          rw [Int.add_mul] at e2
          have e3 : (q.natAbs : Int) * dpw (xs.length + 1) = 1000000000 * (q.natAbs : Int) * dpw xs.length := by simp only [dpw]; rw [← Int.mul_assoc, Int.mul_comm (q.natAbs : Int)]
          have e4 : dpw xs.length * dval [(r.natAbs : Int)] = (r.natAbs : Int) * dpw xs.length := by simp [dval, Int.mul_comm]
          omega)
        have hqb : q.natAbs < 10000000000 := by omega
        have hlt : q.natAbs < mm.natAbs := by omega
        clear hq hr hqa hra hb0 hb1 hb2 hb3
        go_wp2_with (first | (go_at_call 139; refine (base_Size r _ (by omega) (by omega)).mono ?_; rintro _ _ ⟨rfl, rfl⟩) | (at_builtin; refine wpList_push rfl _ _ _ rfl elemInt W0.heap.size _ xs.length _ rfl _ hown [.int .i64 r.natAbs] rfl (by simp [Value.oneCell']) rfl _ rfl rfl (by omega) (by unfold maxLen; omega) hzw ?_; intro v1 w2 hown3 hbb3 _ _))
        go_roundw
        case rel =>
          have hqq := HQ.out
          refine ⟨q, xs ++ [(r.natAbs : Int)], rfl, by simp; omega, by simp, ?_, ?_, ?_, ?_, ?_, by (repeat (with_reducible first | exact Below.refl _ _ | assumption | refine Below.drewN _ ?_ | refine Below.drew ?_ | refine Below_alloc ?_ _ | refine Below.alloc ?_ (by first | (simp; done) | (simp; omega) | omega) _ | refine Below.setCell ?_ (by first | (simp; done) | (simp; omega) | omega) _ | refine Below_call ?_ (by assumption) | refine Below.trans ?_ (by assumption)))⟩
          · simp only [List.length_append, List.length_singleton]; intro h; have := hqq.2.1 (by omega); omega
          · simp only [List.length_append, List.length_singleton]; intro h; have := hqq.2.2.1 (by omega); omega
          · simp only [List.length_append, List.length_singleton]; intro h; have := hqq.2.2.2 (by omega); omega
          · rw [List.length_append, List.length_singleton]; exact HN
          · rw [List.map_append, List.length_append, List.length_singleton]; exact hown3
        case measure => simp [intOf]; omega

end Go.Proofs.Ytlmdmpjfehpjeaa

/- Wide numbers added, subtracted, compared. -/
set_option linter.unusedVariables false
set_option linter.unusedSimpArgs false
namespace Go.Proofs.Ytlmdmpjfehpjeaa
open Go.RowKit

theorem sg_zero {z : Int} : sg z = 0 ↔ z = 0 := by unfold sg; split; omega; split <;> omega
theorem sg_same {x y : Int} (hx : x ≠ 0) (h : sg x = sg y) : (x + y).natAbs = x.natAbs + y.natAbs ∧ sg (x + y) = sg x := by
  unfold sg at *
  split at h <;> split at h <;> (try split at h) <;> (try split at h) <;> (first | omega | (refine ⟨by omega, ?_⟩; split <;> (try split) <;> omega))
theorem sg_diff {x y : Int} (hx : x ≠ 0) (hy : y ≠ 0) (h : sg x ≠ sg y) (hlt : y.natAbs < x.natAbs) : (x + y).natAbs = x.natAbs - y.natAbs ∧ sg (x + y) = sg x := by
  unfold sg at *
  split at h <;> split at h <;> (try split at h) <;> (try split at h) <;> (first | omega | (refine ⟨by omega, ?_⟩; split <;> (try split) <;> omega))
theorem sg_opp {x y : Int} (hx : x ≠ 0) (h : sg x ≠ sg y) (he : x.natAbs = y.natAbs) : x + y = 0 := by
  unfold sg at *
  split at h <;> split at h <;> (try split at h) <;> (try split at h) <;> omega
theorem cmpN_lt {a b : Nat} (h : a < b) : cmpN a b = -1 := by unfold cmpN; rw [if_pos h]
theorem cmpN_eq {a b : Nat} (h : a = b) : cmpN a b = 0 := by unfold cmpN; rw [if_neg (by omega), if_pos h]
theorem cmpN_gt {a b : Nat} (h : b < a) : cmpN a b = 1 := by unfold cmpN; rw [if_neg (by omega), if_neg (by omega)]

theorem alloc3 (w : World) (a b c : Array Value) (t s r : TypeId) : ∀ W, W = ((w.alloc (.cells a t)).alloc (.cells b s)).alloc (.cells c r) →
    W.heap[w.heap.size]? = some (.cells a t (0, 0)) ∧ W.heap[w.heap.size + 1]? = some (.cells b s (0, 0)) ∧ W.heap[w.heap.size + 1 + 1]? = some (.cells c r (0, 0)) := by
  rintro W rfl
  refine ⟨?_, ?_, ?_⟩
  · rw [Below.heap_alloc _ _ _ (by simp; omega), Below.heap_alloc _ _ _ (by simp), heap_alloc_new]
  · rw [Below.heap_alloc _ _ _ (by simp)]
    have := heap_alloc_new (w.alloc (.cells a t)) (.cells b s)
    simpa using this
  · have := heap_alloc_new ((w.alloc (.cells a t)).alloc (.cells b s)) (.cells c r)
    simpa using this

set_option maxRecDepth 100000 in
set_option maxHeartbeats 1000000 in
theorem base_WideAdd (x y : Int) (u v : Value) (w : World) (N : Nat → Prop) (hN : ∀ b, w.heap.size ≤ b → N b) (hu : WideAt w u x N) (hv : WideAt w v y N) (hx : (dig x.natAbs).length ≤ 100000) (hy : (dig y.natAbs).length ≤ 100000) :
    Calls Try.prog 136 #[u, v] w (RetWide w (x + y) N) := by
  have HU := hid hu
  have HV := hid hv
  obtain ⟨ao, cap, rfl, gu⟩ := hu
  obtain ⟨bo, cap2, rfl, gv⟩ := hv
  have HGU := hid gu
  have HGV := hid gv
  obtain ⟨sx, hsx⟩ : ∃ sx, sx = sg x := ⟨_, rfl⟩
  obtain ⟨sy, hsy⟩ : ∃ sy, sy = sg y := ⟨_, rfl⟩
  obtain ⟨lx, hlx⟩ : ∃ lx, lx = (dig x.natAbs).length := ⟨_, rfl⟩
  obtain ⟨ly, hly⟩ : ∃ ly, ly = (dig y.natAbs).length := ⟨_, rfl⟩
  have HSX := hid hsx
  have HSY := hid hsy
  have hrx := sg_range x
  have hry := sg_range y
  rw [← hsx, ← hlx] at HU ⊢
  rw [← hsy, ← hly] at HV ⊢
  rw [← hlx] at HGU
  rw [← hly] at HGV
  rw [← hsx] at hrx
  rw [← hsy] at hry
  have HLX := hid (And.intro hlx hx)
  have HLY := hid (And.intro hly hy)
  have HNN := hid hN
  clear gu gv hx hy hN hsx hsy hlx hly
  obtain ⟨W, hW⟩ : ∃ W, W = ((w.alloc (.cells #[.int .i64 sx, .slice ao lx cap] 51)).alloc (.cells #[.int .i64 sy, .slice bo ly cap2] 51)).alloc (.cells #[.int .i64 0, .slice none 0 0] 51) := ⟨_, rfl⟩
  have hzW : W.heap.size = w.heap.size + 1 + 1 + 1 := by rw [hW]; simp
  have hBW : Below w.heap.size w W := by rw [hW]; (repeat (with_reducible first | exact Below.refl _ _ | assumption | refine Below.drewN _ ?_ | refine Below.drew ?_ | refine Below_alloc ?_ _ | refine Below.alloc ?_ (by first | (simp; done) | (simp; omega) | omega) _ | refine Below.setCell ?_ (by first | (simp; done) | (simp; omega) | omega) _ | refine Below_call ?_ (by assumption) | refine Below.trans ?_ (by assumption)))
  obtain ⟨q0, q1, q2⟩ := alloc3 w _ _ _ _ _ _ W hW
  have HWC := hid q2
  obtain ⟨a0, a1, fa0, fa1, hl0⟩ := two_cells q0
  obtain ⟨b0, b1, fb0, fb1, hl1⟩ := two_cells q1
  obtain ⟨c0, c1, f0, f1, hl2⟩ := two_cells q2
  clear q0 q1 q2
  have hNW : ∀ b, b < w.heap.size → b ≠ w.heap.size + 1 + 1 := fun b h => by omega
  have HNW := hid hNW
  have HIa : Hid (∀ W', Below w.heap.size w W' → IntsAt W' (.slice ao lx cap) (dig x.natAbs)) := hid (fun W' h => HGU.out.ints.below h)
  have HIb : Hid (∀ W', Below w.heap.size w W' → IntsAt W' (.slice bo ly cap2) (dig y.natAbs)) := hid (fun W' h => HGV.out.ints.below h)
  clear hNW
  by_cases hx0 : sx = 0
  · have HE : Hid (x + y = y) := hid (by have := sg_zero.1 (HSX.out.symm.trans hx0); omega)
    subst hx0
    go_enter Try.func136, Try.ntmps136
    go_wp2_with fail
    ((try simp only [Exit.inBlock, Exit.then]); refine bodyPost_ret (v := .agg #[.int .i64 sy, .slice bo ly cap2]) ?_ rfl ?_; (next => simp [results, Try.results136, go_sem]))
    rw [HE.out]
    exact ⟨_, rfl, HV.out.mono (by (repeat (with_reducible first | exact Below.refl _ _ | assumption | refine Below.drewN _ ?_ | refine Below.drew ?_ | refine Below_alloc ?_ _ | refine Below.alloc ?_ (by first | (simp; done) | (simp; omega) | omega) _ | refine Below.setCell ?_ (by first | (simp; done) | (simp; omega) | omega) _ | refine Below_call ?_ (by assumption) | refine Below.trans ?_ (by assumption)))) (fun b h h' => h'), by (repeat (with_reducible first | exact Below.refl _ _ | assumption | refine Below.drewN _ ?_ | refine Below.drew ?_ | refine Below_alloc ?_ _ | refine Below.alloc ?_ (by first | (simp; done) | (simp; omega) | omega) _ | refine Below.setCell ?_ (by first | (simp; done) | (simp; omega) | omega) _ | refine Below_call ?_ (by assumption) | refine Below.trans ?_ (by assumption)))⟩
  by_cases hy0 : sy = 0
  · have HE : Hid (x + y = x) := hid (by have := sg_zero.1 (HSY.out.symm.trans hy0); omega)
    subst hy0
    go_enter Try.func136, Try.ntmps136
    go_wp2_with fail
    ((try simp only [Exit.inBlock, Exit.then]); refine bodyPost_ret (v := .agg #[.int .i64 sx, .slice ao lx cap]) ?_ rfl ?_; (next => simp [results, Try.results136, go_sem]))
    rw [HE.out]
    exact ⟨_, rfl, HU.out.mono (by (repeat (with_reducible first | exact Below.refl _ _ | assumption | refine Below.drewN _ ?_ | refine Below.drew ?_ | refine Below_alloc ?_ _ | refine Below.alloc ?_ (by first | (simp; done) | (simp; omega) | omega) _ | refine Below.setCell ?_ (by first | (simp; done) | (simp; omega) | omega) _ | refine Below_call ?_ (by assumption) | refine Below.trans ?_ (by assumption)))) (fun b h h' => h'), by (repeat (with_reducible first | exact Below.refl _ _ | assumption | refine Below.drewN _ ?_ | refine Below.drew ?_ | refine Below_alloc ?_ _ | refine Below.alloc ?_ (by first | (simp; done) | (simp; omega) | omega) _ | refine Below.setCell ?_ (by first | (simp; done) | (simp; omega) | omega) _ | refine Below_call ?_ (by assumption) | refine Below.trans ?_ (by assumption)))⟩
  have hxn : x ≠ 0 := fun h => hx0 (HSX.out.trans (sg_zero.2 h))
  have hyn : y ≠ 0 := fun h => hy0 (HSY.out.trans (sg_zero.2 h))
  by_cases hs : sx = sy
  · have HSAME := hid (sg_same hxn (HSX.out.symm.trans (hs.trans HSY.out)))
    have HSX' := HSX
    subst hs
    clear hxn hyn
    go_enter Try.func136, Try.ntmps136
    go_wp2_with fail
    rw [← hW]
    clear hW
    refine wp_mixC (fun wc => Below (W.heap.size) W wc) 8 [.q [0, 1, 2, 3, 4, 5], .f [6, 7]] [.f [8]] (by kernel_rfl) (by kernel_rfl) ((Below.refl _ _).drew) ?_
    intro Q' hQ'
    (rw [wpMixC]; simp only [pick, List.drop_succ_cons, List.drop_zero, List.head?_cons, Option.toList_some, List.cons_append, List.nil_append])
    (repeat (first | go_big_quiet_skip | (go_big_quiet_want; refine quiet_simple rfl ?_; go_big_quiet_op; go_big_quiet_on) | (go_big_quiet_want; refine quiet_cellB (ty := 3) rfl rfl (by kernel_rfl) (by assumption) (by first | omega | (simp; omega)) ?_; simp only [Act.put, List.setIfInBounds_toArray, List.set_cons_succ, List.set_cons_zero]; go_big_quiet_on) | (go_big_quiet_want; refine quiet_cellB (ty := 49) rfl rfl (by kernel_rfl) (by assumption) (by first | omega | (simp; omega)) ?_; simp only [Act.put, List.setIfInBounds_toArray, List.set_cons_succ, List.set_cons_zero]; go_big_quiet_on)))
    (try refine wpQuiet_nil ?_)
    (rw [wpMixC]; simp only [pick, List.drop_succ_cons, List.drop_zero, List.head?_cons, Option.toList_some, List.cons_append, List.nil_append])
    (rw [wpSteps]; go_wp2_with ((first | (go_at_call 149; refine (base_addDigits _ _ _ _ _ (HIa.out _ (by (repeat (with_reducible first | exact Below.refl _ _ | assumption | refine Below.drewN _ ?_ | refine Below.drew ?_ | refine Below_alloc ?_ _ | refine Below.alloc ?_ (by first | (simp; done) | (simp; omega) | omega) _ | refine Below.setCell ?_ (by first | (simp; done) | (simp; omega) | omega) _ | refine Below_call ?_ (by assumption) | refine Below.trans ?_ (by assumption))))) (HIb.out _ (by (repeat (with_reducible first | exact Below.refl _ _ | assumption | refine Below.drewN _ ?_ | refine Below.drew ?_ | refine Below_alloc ?_ _ | refine Below.alloc ?_ (by first | (simp; done) | (simp; omega) | omega) _ | refine Below.setCell ?_ (by first | (simp; done) | (simp; omega) | omega) _ | refine Below_call ?_ (by assumption) | refine Below.trans ?_ (by assumption))))) (isD_dig _) (isD_dig _) 100000 (by omega) HLX.out.2 HLY.out.2).mono ?_; rintro _ w1 ⟨r, rfl, xs, hdx, hisd, hval, hlen, hb1⟩; obtain ⟨ro, rc, rfl⟩ := hdx.shape; have HDX := hid (And.intro hdx (And.intro hisd (And.intro hval hlen))); have HB1 := hid hb1; have hzw1 := hb1.size; clear hdx hisd hval hlen) | (go_at_call 140; refine (base_wideOf _ _ _ _ _ (HDX.out.1.ints.below (by (repeat (with_reducible first | exact Below.refl _ _ | assumption | refine Below.drewN _ ?_ | refine Below.drew ?_ | refine Below_alloc ?_ _ | refine Below.alloc ?_ (by first | (simp; done) | (simp; omega) | omega) _ | refine Below.setCell ?_ (by first | (simp; done) | (simp; omega) | omega) _ | refine Below_call ?_ (by assumption) | refine Below.trans ?_ (by assumption))))) HDX.out.2.1).mono ?_; rintro _ w2 ⟨rfl, hb2⟩; have HB2 := hid hb2; obtain ⟨e0, e1, p0, p1, hlt1⟩ := two_cells ((hb2.block (w.heap.size + 1 + 1) (by first | omega | exact hl2 | exact hm2 | exact Nat.lt_of_lt_of_le hl2 hzw1 | exact Nat.lt_of_lt_of_le hm2 hzw1)).trans ((HB1.out.block (w.heap.size + 1 + 1) (by first | omega | exact hl2 | exact hm2 | exact Nat.lt_of_lt_of_le hl2 hzw1 | exact Nat.lt_of_lt_of_le hm2 hzw1)).trans HWC.out))))); rw [contF]; refine ⟨?_, ?_⟩; (next => (repeat (with_reducible first | exact Below.refl _ _ | assumption | refine Below.drewN _ ?_ | refine Below.drew ?_ | refine Below_alloc ?_ _ | refine Below.alloc ?_ (by first | (simp; done) | (simp; omega) | omega) _ | refine Below.setCell ?_ (by first | (simp; done) | (simp; omega) | omega) _ | refine Below_call ?_ (by assumption) | refine Below.trans ?_ (by assumption)))))
    (rw [wpSteps]; go_wp2_with ((first | (go_at_call 149; refine (base_addDigits _ _ _ _ _ (HIa.out _ (by (repeat (with_reducible first | exact Below.refl _ _ | assumption | refine Below.drewN _ ?_ | refine Below.drew ?_ | refine Below_alloc ?_ _ | refine Below.alloc ?_ (by first | (simp; done) | (simp; omega) | omega) _ | refine Below.setCell ?_ (by first | (simp; done) | (simp; omega) | omega) _ | refine Below_call ?_ (by assumption) | refine Below.trans ?_ (by assumption))))) (HIb.out _ (by (repeat (with_reducible first | exact Below.refl _ _ | assumption | refine Below.drewN _ ?_ | refine Below.drew ?_ | refine Below_alloc ?_ _ | refine Below.alloc ?_ (by first | (simp; done) | (simp; omega) | omega) _ | refine Below.setCell ?_ (by first | (simp; done) | (simp; omega) | omega) _ | refine Below_call ?_ (by assumption) | refine Below.trans ?_ (by assumption))))) (isD_dig _) (isD_dig _) 100000 (by omega) HLX.out.2 HLY.out.2).mono ?_; rintro _ w1 ⟨r, rfl, xs, hdx, hisd, hval, hlen, hb1⟩; obtain ⟨ro, rc, rfl⟩ := hdx.shape; have HDX := hid (And.intro hdx (And.intro hisd (And.intro hval hlen))); have HB1 := hid hb1; have hzw1 := hb1.size; clear hdx hisd hval hlen) | (go_at_call 140; refine (base_wideOf _ _ _ _ _ (HDX.out.1.ints.below (by (repeat (with_reducible first | exact Below.refl _ _ | assumption | refine Below.drewN _ ?_ | refine Below.drew ?_ | refine Below_alloc ?_ _ | refine Below.alloc ?_ (by first | (simp; done) | (simp; omega) | omega) _ | refine Below.setCell ?_ (by first | (simp; done) | (simp; omega) | omega) _ | refine Below_call ?_ (by assumption) | refine Below.trans ?_ (by assumption))))) HDX.out.2.1).mono ?_; rintro _ w2 ⟨rfl, hb2⟩; have HB2 := hid hb2; obtain ⟨e0, e1, p0, p1, hlt1⟩ := two_cells ((hb2.block (w.heap.size + 1 + 1) (by first | omega | exact hl2 | exact hm2 | exact Nat.lt_of_lt_of_le hl2 hzw1 | exact Nat.lt_of_lt_of_le hm2 hzw1)).trans ((HB1.out.block (w.heap.size + 1 + 1) (by first | omega | exact hl2 | exact hm2 | exact Nat.lt_of_lt_of_le hl2 hzw1 | exact Nat.lt_of_lt_of_le hm2 hzw1)).trans HWC.out))))); rw [contF]; refine ⟨?_, ?_⟩; (next => (repeat (with_reducible first | exact Below.refl _ _ | assumption | refine Below.drewN _ ?_ | refine Below.drew ?_ | refine Below_alloc ?_ _ | refine Below.alloc ?_ (by first | (simp; done) | (simp; omega) | omega) _ | refine Below.setCell ?_ (by first | (simp; done) | (simp; omega) | omega) _ | refine Below_call ?_ (by assumption) | refine Below.trans ?_ (by assumption)))))
    (rw [wpSteps])
    (rw [wpMixC])
    (rw [wpMix]; simp only [pick, List.drop_succ_cons, List.drop_zero, List.head?_cons, Option.toList_some, List.cons_append, List.nil_append])
    (go_wp2_with ((first | (go_at_call 149; refine (base_addDigits _ _ _ _ _ (HIa.out _ (by (repeat (with_reducible first | exact Below.refl _ _ | assumption | refine Below.drewN _ ?_ | refine Below.drew ?_ | refine Below_alloc ?_ _ | refine Below.alloc ?_ (by first | (simp; done) | (simp; omega) | omega) _ | refine Below.setCell ?_ (by first | (simp; done) | (simp; omega) | omega) _ | refine Below_call ?_ (by assumption) | refine Below.trans ?_ (by assumption))))) (HIb.out _ (by (repeat (with_reducible first | exact Below.refl _ _ | assumption | refine Below.drewN _ ?_ | refine Below.drew ?_ | refine Below_alloc ?_ _ | refine Below.alloc ?_ (by first | (simp; done) | (simp; omega) | omega) _ | refine Below.setCell ?_ (by first | (simp; done) | (simp; omega) | omega) _ | refine Below_call ?_ (by assumption) | refine Below.trans ?_ (by assumption))))) (isD_dig _) (isD_dig _) 100000 (by omega) HLX.out.2 HLY.out.2).mono ?_; rintro _ w1 ⟨r, rfl, xs, hdx, hisd, hval, hlen, hb1⟩; obtain ⟨ro, rc, rfl⟩ := hdx.shape; have HDX := hid (And.intro hdx (And.intro hisd (And.intro hval hlen))); have HB1 := hid hb1; have hzw1 := hb1.size; clear hdx hisd hval hlen) | (go_at_call 140; refine (base_wideOf _ _ _ _ _ (HDX.out.1.ints.below (by (repeat (with_reducible first | exact Below.refl _ _ | assumption | refine Below.drewN _ ?_ | refine Below.drew ?_ | refine Below_alloc ?_ _ | refine Below.alloc ?_ (by first | (simp; done) | (simp; omega) | omega) _ | refine Below.setCell ?_ (by first | (simp; done) | (simp; omega) | omega) _ | refine Below_call ?_ (by assumption) | refine Below.trans ?_ (by assumption))))) HDX.out.2.1).mono ?_; rintro _ w2 ⟨rfl, hb2⟩; have HB2 := hid hb2; obtain ⟨e0, e1, p0, p1, hlt1⟩ := two_cells ((hb2.block (w.heap.size + 1 + 1) (by first | omega | exact hl2 | exact hm2 | exact Nat.lt_of_lt_of_le hl2 hzw1 | exact Nat.lt_of_lt_of_le hm2 hzw1)).trans ((HB1.out.block (w.heap.size + 1 + 1) (by first | omega | exact hl2 | exact hm2 | exact Nat.lt_of_lt_of_le hl2 hzw1 | exact Nat.lt_of_lt_of_le hm2 hzw1)).trans HWC.out))))); rw [contF])
    (rw [wpMix])
    (refine hQ' _ _ ?_)
    go_wp2_with fail
    ((try simp only [Exit.inBlock, Exit.then]); refine bodyPost_ret (v := .agg #[.int .i64 (sg0 (dval xs) sx), .slice ro (tri xs).length rc]) ?_ rfl ?_; (next => simp [results, Try.results136, go_sem, hlt1, e0, e1]))
    have hd := HDX.out
    have hsm := HSAME.out
    exact ⟨_, rfl, wide_fin hd.2.1 (by rw [hd.2.2.1, dval_dig, dval_dig, hsm.1]; push_cast; rfl) (fun _ => HSX.out.trans hsm.2.symm) hd.1 HB2.out (fun b h => ⟨by have : W.heap.size ≤ b := h; omega, HNN.out b (by have : W.heap.size ≤ b := h; omega)⟩) _ _, by (repeat (with_reducible first | exact Below.refl _ _ | assumption | refine Below.drewN _ ?_ | refine Below.drew ?_ | refine Below_alloc ?_ _ | refine Below.alloc ?_ (by first | (simp; done) | (simp; omega) | omega) _ | refine Below.setCell ?_ (by first | (simp; done) | (simp; omega) | omega) _ | refine Below_call ?_ (by assumption) | refine Below.trans ?_ (by assumption)))⟩
  have HNE : Hid (sg x ≠ sg y) := hid (by rw [← HSX.out, ← HSY.out]; exact hs)
  have HXN := hid hxn
  have HYN := hid hyn
  obtain ⟨C, hC⟩ : ∃ C, C = cmpN x.natAbs y.natAbs := ⟨_, rfl⟩
  have HCC := hid hC
  have HCMP : Hid (∀ W', Below w.heap.size w W' → Calls Try.prog 150 #[.slice ao lx cap, .slice bo ly cap2] W' fun e w' => e = .returned (.int .i64 C) ∧ Below W'.heap.size W' w') := hid (fun W' h => by
    have h1 := HIa.out W' h
    have h2 := HIb.out W' h
    rw [hC]
    exact base_cmpDigits x.natAbs y.natAbs _ _ W' h1 h2)
  clear hxn hyn hC
  have hcase : (x.natAbs = y.natAbs ∧ C = 0) ∨ (y.natAbs < x.natAbs ∧ C = 1) ∨ (x.natAbs < y.natAbs ∧ C = -1) := by
    rcases Nat.lt_trichotomy x.natAbs y.natAbs with h | h | h
    · exact Or.inr (Or.inr ⟨h, HCC.out.trans (cmpN_lt h)⟩)
    · exact Or.inl ⟨h, HCC.out.trans (cmpN_eq h)⟩
    · exact Or.inr (Or.inl ⟨h, HCC.out.trans (cmpN_gt h)⟩)
  rcases hcase with ⟨hcmp, rfl⟩ | ⟨hcmp, rfl⟩ | ⟨hcmp, rfl⟩
  · have HZ : Hid (x + y = 0) := hid (sg_opp HXN.out HNE.out hcmp)
    clear hcmp
    go_enter Try.func136, Try.ntmps136
    go_wp2_with (rw [← hW]; go_at_call 150; refine (HCMP.out _ (by (repeat (with_reducible first | exact Below.refl _ _ | assumption | refine Below.drewN _ ?_ | refine Below.drew ?_ | refine Below_alloc ?_ _ | refine Below.alloc ?_ (by first | (simp; done) | (simp; omega) | omega) _ | refine Below.setCell ?_ (by first | (simp; done) | (simp; omega) | omega) _ | refine Below_call ?_ (by assumption) | refine Below.trans ?_ (by assumption))))).mono ?_; rintro _ W2 ⟨rfl, hbc⟩; have HBC := hid hbc; obtain ⟨e0, e1, p0, p1, hlt1⟩ := two_cells ((hbc.block (w.heap.size + 1 + 1) (by omega)).trans HWC.out))
    ((try simp only [Exit.inBlock, Exit.then]); refine bodyPost_ret (v := .agg #[.int .i64 0, .slice none 0 0]) ?_ rfl ?_; (next => simp [results, Try.results136, go_sem, hlt1, e0, e1]))
    rw [HZ.out]
    refine ⟨_, rfl, ⟨none, 0, by simp [sg, dig_zero], ?_⟩, by (repeat (with_reducible first | exact Below.refl _ _ | assumption | refine Below.drewN _ ?_ | refine Below.drew ?_ | refine Below_alloc ?_ _ | refine Below.alloc ?_ (by first | (simp; done) | (simp; omega) | omega) _ | refine Below.setCell ?_ (by first | (simp; done) | (simp; omega) | omega) _ | refine Below_call ?_ (by assumption) | refine Below.trans ?_ (by assumption)))⟩
    exact ⟨none, 0, by simp [dig_zero], by simp [dig_zero], by simp, fun h => by simp [dig_zero] at h, fun _ => rfl⟩
  · have HD := hid (sg_diff HXN.out HYN.out HNE.out hcmp)
    have HCMPL := hid hcmp
    clear hcmp
    go_enter Try.func136, Try.ntmps136
    go_wp2_with (rw [← hW]; go_at_call 150; refine (HCMP.out _ (by (repeat (with_reducible first | exact Below.refl _ _ | assumption | refine Below.drewN _ ?_ | refine Below.drew ?_ | refine Below_alloc ?_ _ | refine Below.alloc ?_ (by first | (simp; done) | (simp; omega) | omega) _ | refine Below.setCell ?_ (by first | (simp; done) | (simp; omega) | omega) _ | refine Below_call ?_ (by assumption) | refine Below.trans ?_ (by assumption))))).mono ?_; rintro _ W2 ⟨rfl, hbc⟩; have HBC := hid hbc; have hzc := hbc.size)
    have HWC2 := hid (show W2.heap[w.heap.size + 1 + 1]? = _ from (HBC.out.block (w.heap.size + 1 + 1) (by omega)).trans HWC.out)
    obtain ⟨hcc, _⟩ := bcell HBC.out
    rw [← hcc w.heap.size _ (by omega)] at a0 a1
    rw [← hcc (w.heap.size + 1) _ (by omega)] at b0 b1
    have hm0 : w.heap.size < W2.heap.size := by omega
    have hm1 : w.heap.size + 1 < W2.heap.size := by omega
    have hm2 : w.heap.size + 1 + 1 < W2.heap.size := by omega
    refine wp_mixC (fun wc => Below (W2.heap.size) W2 wc) 8 [.q [0, 1, 2, 3, 4, 5], .f [6, 7]] [.f [8]] (by kernel_rfl) (by kernel_rfl) ((Below.refl _ _).drew) ?_
    intro Q' hQ'
    (rw [wpMixC]; simp only [pick, List.drop_succ_cons, List.drop_zero, List.head?_cons, Option.toList_some, List.cons_append, List.nil_append])
    (repeat (first | go_big_quiet_skip | (go_big_quiet_want; refine quiet_simple rfl ?_; go_big_quiet_op; go_big_quiet_on) | (go_big_quiet_want; refine quiet_cellB (ty := 3) rfl rfl (by kernel_rfl) (by assumption) (by first | omega | (simp; omega)) ?_; simp only [Act.put, List.setIfInBounds_toArray, List.set_cons_succ, List.set_cons_zero]; go_big_quiet_on) | (go_big_quiet_want; refine quiet_cellB (ty := 49) rfl rfl (by kernel_rfl) (by assumption) (by first | omega | (simp; omega)) ?_; simp only [Act.put, List.setIfInBounds_toArray, List.set_cons_succ, List.set_cons_zero]; go_big_quiet_on)))
    (try refine wpQuiet_nil ?_)
    (rw [wpMixC]; simp only [pick, List.drop_succ_cons, List.drop_zero, List.head?_cons, Option.toList_some, List.cons_append, List.nil_append])
    (rw [wpSteps]; go_wp2_with ((first | (go_at_call 151; refine (base_subDigits x.natAbs y.natAbs _ _ _ (HIa.out _ (by (repeat (with_reducible first | exact Below.refl _ _ | assumption | refine Below.drewN _ ?_ | refine Below.drew ?_ | refine Below_alloc ?_ _ | refine Below.alloc ?_ (by first | (simp; done) | (simp; omega) | omega) _ | refine Below.setCell ?_ (by first | (simp; done) | (simp; omega) | omega) _ | refine Below_call ?_ (by assumption) | refine Below.trans ?_ (by assumption))))) (HIb.out _ (by (repeat (with_reducible first | exact Below.refl _ _ | assumption | refine Below.drewN _ ?_ | refine Below.drew ?_ | refine Below_alloc ?_ _ | refine Below.alloc ?_ (by first | (simp; done) | (simp; omega) | omega) _ | refine Below.setCell ?_ (by first | (simp; done) | (simp; omega) | omega) _ | refine Below_call ?_ (by assumption) | refine Below.trans ?_ (by assumption))))) (Nat.le_of_lt HCMPL.out) (by have := HLX.out.2; omega)).mono ?_; rintro _ w1 ⟨r, rfl, hdx, hb1⟩; obtain ⟨ro, rc, rfl⟩ := hdx.shape; have HDX := hid hdx; have HB1 := hid hb1; have hzw1 := hb1.size; clear hdx) | (go_at_call 140; refine (base_wideOf _ _ _ _ _ (HDX.out.ints.below (by (repeat (with_reducible first | exact Below.refl _ _ | assumption | refine Below.drewN _ ?_ | refine Below.drew ?_ | refine Below_alloc ?_ _ | refine Below.alloc ?_ (by first | (simp; done) | (simp; omega) | omega) _ | refine Below.setCell ?_ (by first | (simp; done) | (simp; omega) | omega) _ | refine Below_call ?_ (by assumption) | refine Below.trans ?_ (by assumption))))) (isD_dig _)).mono ?_; rintro _ w2 ⟨rfl, hb2⟩; have HB2 := hid hb2; obtain ⟨e0, e1, p0, p1, hlt1⟩ := two_cells ((hb2.block (w.heap.size + 1 + 1) (by first | omega | exact hl2 | exact hm2 | exact Nat.lt_of_lt_of_le hl2 hzw1 | exact Nat.lt_of_lt_of_le hm2 hzw1)).trans ((HB1.out.block (w.heap.size + 1 + 1) (by first | omega | exact hl2 | exact hm2 | exact Nat.lt_of_lt_of_le hl2 hzw1 | exact Nat.lt_of_lt_of_le hm2 hzw1)).trans HWC2.out))))); rw [contF]; refine ⟨?_, ?_⟩; (next => (repeat (with_reducible first | exact Below.refl _ _ | assumption | refine Below.drewN _ ?_ | refine Below.drew ?_ | refine Below_alloc ?_ _ | refine Below.alloc ?_ (by first | (simp; done) | (simp; omega) | omega) _ | refine Below.setCell ?_ (by first | (simp; done) | (simp; omega) | omega) _ | refine Below_call ?_ (by assumption) | refine Below.trans ?_ (by assumption)))))
    (rw [wpSteps]; go_wp2_with ((first | (go_at_call 151; refine (base_subDigits x.natAbs y.natAbs _ _ _ (HIa.out _ (by (repeat (with_reducible first | exact Below.refl _ _ | assumption | refine Below.drewN _ ?_ | refine Below.drew ?_ | refine Below_alloc ?_ _ | refine Below.alloc ?_ (by first | (simp; done) | (simp; omega) | omega) _ | refine Below.setCell ?_ (by first | (simp; done) | (simp; omega) | omega) _ | refine Below_call ?_ (by assumption) | refine Below.trans ?_ (by assumption))))) (HIb.out _ (by (repeat (with_reducible first | exact Below.refl _ _ | assumption | refine Below.drewN _ ?_ | refine Below.drew ?_ | refine Below_alloc ?_ _ | refine Below.alloc ?_ (by first | (simp; done) | (simp; omega) | omega) _ | refine Below.setCell ?_ (by first | (simp; done) | (simp; omega) | omega) _ | refine Below_call ?_ (by assumption) | refine Below.trans ?_ (by assumption))))) (Nat.le_of_lt HCMPL.out) (by have := HLX.out.2; omega)).mono ?_; rintro _ w1 ⟨r, rfl, hdx, hb1⟩; obtain ⟨ro, rc, rfl⟩ := hdx.shape; have HDX := hid hdx; have HB1 := hid hb1; have hzw1 := hb1.size; clear hdx) | (go_at_call 140; refine (base_wideOf _ _ _ _ _ (HDX.out.ints.below (by (repeat (with_reducible first | exact Below.refl _ _ | assumption | refine Below.drewN _ ?_ | refine Below.drew ?_ | refine Below_alloc ?_ _ | refine Below.alloc ?_ (by first | (simp; done) | (simp; omega) | omega) _ | refine Below.setCell ?_ (by first | (simp; done) | (simp; omega) | omega) _ | refine Below_call ?_ (by assumption) | refine Below.trans ?_ (by assumption))))) (isD_dig _)).mono ?_; rintro _ w2 ⟨rfl, hb2⟩; have HB2 := hid hb2; obtain ⟨e0, e1, p0, p1, hlt1⟩ := two_cells ((hb2.block (w.heap.size + 1 + 1) (by first | omega | exact hl2 | exact hm2 | exact Nat.lt_of_lt_of_le hl2 hzw1 | exact Nat.lt_of_lt_of_le hm2 hzw1)).trans ((HB1.out.block (w.heap.size + 1 + 1) (by first | omega | exact hl2 | exact hm2 | exact Nat.lt_of_lt_of_le hl2 hzw1 | exact Nat.lt_of_lt_of_le hm2 hzw1)).trans HWC2.out))))); rw [contF]; refine ⟨?_, ?_⟩; (next => (repeat (with_reducible first | exact Below.refl _ _ | assumption | refine Below.drewN _ ?_ | refine Below.drew ?_ | refine Below_alloc ?_ _ | refine Below.alloc ?_ (by first | (simp; done) | (simp; omega) | omega) _ | refine Below.setCell ?_ (by first | (simp; done) | (simp; omega) | omega) _ | refine Below_call ?_ (by assumption) | refine Below.trans ?_ (by assumption)))))
    (rw [wpSteps])
    (rw [wpMixC])
    (rw [wpMix]; simp only [pick, List.drop_succ_cons, List.drop_zero, List.head?_cons, Option.toList_some, List.cons_append, List.nil_append])
    (go_wp2_with ((first | (go_at_call 151; refine (base_subDigits x.natAbs y.natAbs _ _ _ (HIa.out _ (by (repeat (with_reducible first | exact Below.refl _ _ | assumption | refine Below.drewN _ ?_ | refine Below.drew ?_ | refine Below_alloc ?_ _ | refine Below.alloc ?_ (by first | (simp; done) | (simp; omega) | omega) _ | refine Below.setCell ?_ (by first | (simp; done) | (simp; omega) | omega) _ | refine Below_call ?_ (by assumption) | refine Below.trans ?_ (by assumption))))) (HIb.out _ (by (repeat (with_reducible first | exact Below.refl _ _ | assumption | refine Below.drewN _ ?_ | refine Below.drew ?_ | refine Below_alloc ?_ _ | refine Below.alloc ?_ (by first | (simp; done) | (simp; omega) | omega) _ | refine Below.setCell ?_ (by first | (simp; done) | (simp; omega) | omega) _ | refine Below_call ?_ (by assumption) | refine Below.trans ?_ (by assumption))))) (Nat.le_of_lt HCMPL.out) (by have := HLX.out.2; omega)).mono ?_; rintro _ w1 ⟨r, rfl, hdx, hb1⟩; obtain ⟨ro, rc, rfl⟩ := hdx.shape; have HDX := hid hdx; have HB1 := hid hb1; have hzw1 := hb1.size; clear hdx) | (go_at_call 140; refine (base_wideOf _ _ _ _ _ (HDX.out.ints.below (by (repeat (with_reducible first | exact Below.refl _ _ | assumption | refine Below.drewN _ ?_ | refine Below.drew ?_ | refine Below_alloc ?_ _ | refine Below.alloc ?_ (by first | (simp; done) | (simp; omega) | omega) _ | refine Below.setCell ?_ (by first | (simp; done) | (simp; omega) | omega) _ | refine Below_call ?_ (by assumption) | refine Below.trans ?_ (by assumption))))) (isD_dig _)).mono ?_; rintro _ w2 ⟨rfl, hb2⟩; have HB2 := hid hb2; obtain ⟨e0, e1, p0, p1, hlt1⟩ := two_cells ((hb2.block (w.heap.size + 1 + 1) (by first | omega | exact hl2 | exact hm2 | exact Nat.lt_of_lt_of_le hl2 hzw1 | exact Nat.lt_of_lt_of_le hm2 hzw1)).trans ((HB1.out.block (w.heap.size + 1 + 1) (by first | omega | exact hl2 | exact hm2 | exact Nat.lt_of_lt_of_le hl2 hzw1 | exact Nat.lt_of_lt_of_le hm2 hzw1)).trans HWC2.out))))); rw [contF])
    (rw [wpMix])
    (refine hQ' _ _ ?_)
    go_wp2_with fail
    ((try simp only [Exit.inBlock, Exit.then]); refine bodyPost_ret (v := .agg #[.int .i64 (sg0 (dval (dig (x.natAbs - y.natAbs))) sx), .slice ro (tri (dig (x.natAbs - y.natAbs))).length rc]) ?_ rfl ?_; (next => simp [results, Try.results136, go_sem, hlt1, e0, e1]))
    have hd := HD.out
    exact ⟨_, rfl, wide_fin (isD_dig _) (by rw [dval_dig, hd.1]) (fun _ => HSX.out.trans hd.2.symm) HDX.out HB2.out (fun b h => ⟨by have : W2.heap.size ≤ b := h; omega, HNN.out b (by have : W2.heap.size ≤ b := h; omega)⟩) _ _, by (repeat (with_reducible first | exact Below.refl _ _ | assumption | refine Below.drewN _ ?_ | refine Below.drew ?_ | refine Below_alloc ?_ _ | refine Below.alloc ?_ (by first | (simp; done) | (simp; omega) | omega) _ | refine Below.setCell ?_ (by first | (simp; done) | (simp; omega) | omega) _ | refine Below_call ?_ (by assumption) | refine Below.trans ?_ (by assumption)))⟩
  · have HD := hid (sg_diff HYN.out HXN.out (fun h => HNE.out h.symm) hcmp)
    have HCMPL := hid hcmp
    clear hcmp
    go_enter Try.func136, Try.ntmps136
    go_wp2_with (rw [← hW]; go_at_call 150; refine (HCMP.out _ (by (repeat (with_reducible first | exact Below.refl _ _ | assumption | refine Below.drewN _ ?_ | refine Below.drew ?_ | refine Below_alloc ?_ _ | refine Below.alloc ?_ (by first | (simp; done) | (simp; omega) | omega) _ | refine Below.setCell ?_ (by first | (simp; done) | (simp; omega) | omega) _ | refine Below_call ?_ (by assumption) | refine Below.trans ?_ (by assumption))))).mono ?_; rintro _ W2 ⟨rfl, hbc⟩; have HBC := hid hbc; have hzc := hbc.size)
    have HWC2 := hid (show W2.heap[w.heap.size + 1 + 1]? = _ from (HBC.out.block (w.heap.size + 1 + 1) (by omega)).trans HWC.out)
    obtain ⟨hcc, _⟩ := bcell HBC.out
    rw [← hcc w.heap.size _ (by omega)] at a0 a1
    rw [← hcc (w.heap.size + 1) _ (by omega)] at b0 b1
    have hm0 : w.heap.size < W2.heap.size := by omega
    have hm1 : w.heap.size + 1 < W2.heap.size := by omega
    have hm2 : w.heap.size + 1 + 1 < W2.heap.size := by omega
    refine wp_mixC (fun wc => Below (W2.heap.size) W2 wc) 8 [.q [0, 1, 2, 3, 4, 5], .f [6, 7]] [.f [8]] (by kernel_rfl) (by kernel_rfl) ((Below.refl _ _).drew) ?_
    intro Q' hQ'
    (rw [wpMixC]; simp only [pick, List.drop_succ_cons, List.drop_zero, List.head?_cons, Option.toList_some, List.cons_append, List.nil_append])
    (repeat (first | go_big_quiet_skip | (go_big_quiet_want; refine quiet_simple rfl ?_; go_big_quiet_op; go_big_quiet_on) | (go_big_quiet_want; refine quiet_cellB (ty := 3) rfl rfl (by kernel_rfl) (by assumption) (by first | omega | (simp; omega)) ?_; simp only [Act.put, List.setIfInBounds_toArray, List.set_cons_succ, List.set_cons_zero]; go_big_quiet_on) | (go_big_quiet_want; refine quiet_cellB (ty := 49) rfl rfl (by kernel_rfl) (by assumption) (by first | omega | (simp; omega)) ?_; simp only [Act.put, List.setIfInBounds_toArray, List.set_cons_succ, List.set_cons_zero]; go_big_quiet_on)))
    (try refine wpQuiet_nil ?_)
    (rw [wpMixC]; simp only [pick, List.drop_succ_cons, List.drop_zero, List.head?_cons, Option.toList_some, List.cons_append, List.nil_append])
    (rw [wpSteps]; go_wp2_with ((first | (go_at_call 151; refine (base_subDigits y.natAbs x.natAbs _ _ _ (HIb.out _ (by (repeat (with_reducible first | exact Below.refl _ _ | assumption | refine Below.drewN _ ?_ | refine Below.drew ?_ | refine Below_alloc ?_ _ | refine Below.alloc ?_ (by first | (simp; done) | (simp; omega) | omega) _ | refine Below.setCell ?_ (by first | (simp; done) | (simp; omega) | omega) _ | refine Below_call ?_ (by assumption) | refine Below.trans ?_ (by assumption))))) (HIa.out _ (by (repeat (with_reducible first | exact Below.refl _ _ | assumption | refine Below.drewN _ ?_ | refine Below.drew ?_ | refine Below_alloc ?_ _ | refine Below.alloc ?_ (by first | (simp; done) | (simp; omega) | omega) _ | refine Below.setCell ?_ (by first | (simp; done) | (simp; omega) | omega) _ | refine Below_call ?_ (by assumption) | refine Below.trans ?_ (by assumption))))) (Nat.le_of_lt HCMPL.out) (by have := HLY.out.2; omega)).mono ?_; rintro _ w1 ⟨r, rfl, hdx, hb1⟩; obtain ⟨ro, rc, rfl⟩ := hdx.shape; have HDX := hid hdx; have HB1 := hid hb1; have hzw1 := hb1.size; clear hdx) | (go_at_call 140; refine (base_wideOf _ _ _ _ _ (HDX.out.ints.below (by (repeat (with_reducible first | exact Below.refl _ _ | assumption | refine Below.drewN _ ?_ | refine Below.drew ?_ | refine Below_alloc ?_ _ | refine Below.alloc ?_ (by first | (simp; done) | (simp; omega) | omega) _ | refine Below.setCell ?_ (by first | (simp; done) | (simp; omega) | omega) _ | refine Below_call ?_ (by assumption) | refine Below.trans ?_ (by assumption))))) (isD_dig _)).mono ?_; rintro _ w2 ⟨rfl, hb2⟩; have HB2 := hid hb2; obtain ⟨e0, e1, p0, p1, hlt1⟩ := two_cells ((hb2.block (w.heap.size + 1 + 1) (by first | omega | exact hl2 | exact hm2 | exact Nat.lt_of_lt_of_le hl2 hzw1 | exact Nat.lt_of_lt_of_le hm2 hzw1)).trans ((HB1.out.block (w.heap.size + 1 + 1) (by first | omega | exact hl2 | exact hm2 | exact Nat.lt_of_lt_of_le hl2 hzw1 | exact Nat.lt_of_lt_of_le hm2 hzw1)).trans HWC2.out))))); rw [contF]; refine ⟨?_, ?_⟩; (next => (repeat (with_reducible first | exact Below.refl _ _ | assumption | refine Below.drewN _ ?_ | refine Below.drew ?_ | refine Below_alloc ?_ _ | refine Below.alloc ?_ (by first | (simp; done) | (simp; omega) | omega) _ | refine Below.setCell ?_ (by first | (simp; done) | (simp; omega) | omega) _ | refine Below_call ?_ (by assumption) | refine Below.trans ?_ (by assumption)))))
    (rw [wpSteps]; go_wp2_with ((first | (go_at_call 151; refine (base_subDigits y.natAbs x.natAbs _ _ _ (HIb.out _ (by (repeat (with_reducible first | exact Below.refl _ _ | assumption | refine Below.drewN _ ?_ | refine Below.drew ?_ | refine Below_alloc ?_ _ | refine Below.alloc ?_ (by first | (simp; done) | (simp; omega) | omega) _ | refine Below.setCell ?_ (by first | (simp; done) | (simp; omega) | omega) _ | refine Below_call ?_ (by assumption) | refine Below.trans ?_ (by assumption))))) (HIa.out _ (by (repeat (with_reducible first | exact Below.refl _ _ | assumption | refine Below.drewN _ ?_ | refine Below.drew ?_ | refine Below_alloc ?_ _ | refine Below.alloc ?_ (by first | (simp; done) | (simp; omega) | omega) _ | refine Below.setCell ?_ (by first | (simp; done) | (simp; omega) | omega) _ | refine Below_call ?_ (by assumption) | refine Below.trans ?_ (by assumption))))) (Nat.le_of_lt HCMPL.out) (by have := HLY.out.2; omega)).mono ?_; rintro _ w1 ⟨r, rfl, hdx, hb1⟩; obtain ⟨ro, rc, rfl⟩ := hdx.shape; have HDX := hid hdx; have HB1 := hid hb1; have hzw1 := hb1.size; clear hdx) | (go_at_call 140; refine (base_wideOf _ _ _ _ _ (HDX.out.ints.below (by (repeat (with_reducible first | exact Below.refl _ _ | assumption | refine Below.drewN _ ?_ | refine Below.drew ?_ | refine Below_alloc ?_ _ | refine Below.alloc ?_ (by first | (simp; done) | (simp; omega) | omega) _ | refine Below.setCell ?_ (by first | (simp; done) | (simp; omega) | omega) _ | refine Below_call ?_ (by assumption) | refine Below.trans ?_ (by assumption))))) (isD_dig _)).mono ?_; rintro _ w2 ⟨rfl, hb2⟩; have HB2 := hid hb2; obtain ⟨e0, e1, p0, p1, hlt1⟩ := two_cells ((hb2.block (w.heap.size + 1 + 1) (by first | omega | exact hl2 | exact hm2 | exact Nat.lt_of_lt_of_le hl2 hzw1 | exact Nat.lt_of_lt_of_le hm2 hzw1)).trans ((HB1.out.block (w.heap.size + 1 + 1) (by first | omega | exact hl2 | exact hm2 | exact Nat.lt_of_lt_of_le hl2 hzw1 | exact Nat.lt_of_lt_of_le hm2 hzw1)).trans HWC2.out))))); rw [contF]; refine ⟨?_, ?_⟩; (next => (repeat (with_reducible first | exact Below.refl _ _ | assumption | refine Below.drewN _ ?_ | refine Below.drew ?_ | refine Below_alloc ?_ _ | refine Below.alloc ?_ (by first | (simp; done) | (simp; omega) | omega) _ | refine Below.setCell ?_ (by first | (simp; done) | (simp; omega) | omega) _ | refine Below_call ?_ (by assumption) | refine Below.trans ?_ (by assumption)))))
    (rw [wpSteps])
    (rw [wpMixC])
    (rw [wpMix]; simp only [pick, List.drop_succ_cons, List.drop_zero, List.head?_cons, Option.toList_some, List.cons_append, List.nil_append])
    (go_wp2_with ((first | (go_at_call 151; refine (base_subDigits y.natAbs x.natAbs _ _ _ (HIb.out _ (by (repeat (with_reducible first | exact Below.refl _ _ | assumption | refine Below.drewN _ ?_ | refine Below.drew ?_ | refine Below_alloc ?_ _ | refine Below.alloc ?_ (by first | (simp; done) | (simp; omega) | omega) _ | refine Below.setCell ?_ (by first | (simp; done) | (simp; omega) | omega) _ | refine Below_call ?_ (by assumption) | refine Below.trans ?_ (by assumption))))) (HIa.out _ (by (repeat (with_reducible first | exact Below.refl _ _ | assumption | refine Below.drewN _ ?_ | refine Below.drew ?_ | refine Below_alloc ?_ _ | refine Below.alloc ?_ (by first | (simp; done) | (simp; omega) | omega) _ | refine Below.setCell ?_ (by first | (simp; done) | (simp; omega) | omega) _ | refine Below_call ?_ (by assumption) | refine Below.trans ?_ (by assumption))))) (Nat.le_of_lt HCMPL.out) (by have := HLY.out.2; omega)).mono ?_; rintro _ w1 ⟨r, rfl, hdx, hb1⟩; obtain ⟨ro, rc, rfl⟩ := hdx.shape; have HDX := hid hdx; have HB1 := hid hb1; have hzw1 := hb1.size; clear hdx) | (go_at_call 140; refine (base_wideOf _ _ _ _ _ (HDX.out.ints.below (by (repeat (with_reducible first | exact Below.refl _ _ | assumption | refine Below.drewN _ ?_ | refine Below.drew ?_ | refine Below_alloc ?_ _ | refine Below.alloc ?_ (by first | (simp; done) | (simp; omega) | omega) _ | refine Below.setCell ?_ (by first | (simp; done) | (simp; omega) | omega) _ | refine Below_call ?_ (by assumption) | refine Below.trans ?_ (by assumption))))) (isD_dig _)).mono ?_; rintro _ w2 ⟨rfl, hb2⟩; have HB2 := hid hb2; obtain ⟨e0, e1, p0, p1, hlt1⟩ := two_cells ((hb2.block (w.heap.size + 1 + 1) (by first | omega | exact hl2 | exact hm2 | exact Nat.lt_of_lt_of_le hl2 hzw1 | exact Nat.lt_of_lt_of_le hm2 hzw1)).trans ((HB1.out.block (w.heap.size + 1 + 1) (by first | omega | exact hl2 | exact hm2 | exact Nat.lt_of_lt_of_le hl2 hzw1 | exact Nat.lt_of_lt_of_le hm2 hzw1)).trans HWC2.out))))); rw [contF])
    (rw [wpMix])
    (refine hQ' _ _ ?_)
    go_wp2_with fail
    ((try simp only [Exit.inBlock, Exit.then]); refine bodyPost_ret (v := .agg #[.int .i64 (sg0 (dval (dig (y.natAbs - x.natAbs))) sy), .slice ro (tri (dig (y.natAbs - x.natAbs))).length rc]) ?_ rfl ?_; (next => simp [results, Try.results136, go_sem, hlt1, e0, e1]))
    have hd := HD.out
    rw [Int.add_comm]
    exact ⟨_, rfl, wide_fin (isD_dig _) (by rw [dval_dig, hd.1]) (fun _ => HSY.out.trans hd.2.symm) HDX.out HB2.out (fun b h => ⟨by have : W2.heap.size ≤ b := h; omega, HNN.out b (by have : W2.heap.size ≤ b := h; omega)⟩) _ _, by (repeat (with_reducible first | exact Below.refl _ _ | assumption | refine Below.drewN _ ?_ | refine Below.drew ?_ | refine Below_alloc ?_ _ | refine Below.alloc ?_ (by first | (simp; done) | (simp; omega) | omega) _ | refine Below.setCell ?_ (by first | (simp; done) | (simp; omega) | omega) _ | refine Below_call ?_ (by assumption) | refine Below.trans ?_ (by assumption)))⟩

end Go.Proofs.Ytlmdmpjfehpjeaa

