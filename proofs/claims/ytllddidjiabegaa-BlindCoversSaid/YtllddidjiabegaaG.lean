/- Contracts of limits and coverages in the program. -/
import Derived.Test.YtllddidjiabegaaF
set_option linter.unusedVariables false
set_option linter.unusedSimpArgs false
namespace Go.Proofs.Ytllddidjiabegaa
open Go.RowKit

def bandV (T S r : Int) : Value :=
  .tuple #[if firstNZ [trErr T, tenErr S, rskErr r] = 0 then .agg #[.int .i64 (bandLoI T S r), .int .i64 (bandHiI T S r)] else .agg #[.int .i64 0, .int .i64 0], .int .i64 (firstNZ [trErr T, tenErr S, rskErr r])]

theorem blind_BandOf (T S r : Int) (w : World) : Calls Try.prog 48 #[.int .i64 T, .int .i64 S, .int .i64 r] w fun e w' => e = .returned (bandV T S r) ∧ Below w.heap.size w w' := by
  by_cases he : firstNZ [trErr T, tenErr S, rskErr r] = 0
  · have HE := hid he
    have h2 := firstNZ_zero.1 he
    have h3 := trErr_ok (h2 (trErr T) (by simp))
    have h4 := tenErr_ok (h2 (tenErr S) (by simp))
    have h5 := rskErr_ok (h2 (rskErr r) (by simp))
    have he' : (firstNZ [trErr T, tenErr S, rskErr r] != 0) = false := by simpa using he
    clear he h2
    go_enter Try.func48, Try.ntmps48
    go_wp2_with (first | (go_at_call 90; refine (blind_trialsErr _ _).mono ?_; rintro _ _ ⟨rfl, rfl⟩) | (go_at_call 100; refine (blind_tenthsErr _ _).mono ?_; rintro _ _ ⟨rfl, rfl⟩) | (go_at_call 101; refine (blind_riskErr _ _).mono ?_; rintro _ _ ⟨rfl, rfl⟩) | (go_at_call 75; refine (blind_first [trErr T, tenErr S, rskErr r] _ _ (intsAt_new _ _ _ _ _ rfl (by simp) (by simp))).mono ?_; rintro _ _ ⟨rfl, rfl⟩) | (go_at_call 106; refine (blind_band _ _ _ _ (by omega) (by omega) (by omega) (by omega) (by omega) (by omega)).mono ?_; rintro _ w1 ⟨rfl, hb1⟩; obtain ⟨hc1, hf1⟩ := bcell hb1; have hz1 := hb1.size; (try simp only [World.size_alloc, World.heap_drewN] at hz1); have hk1_0 : w.heap.size < w1.heap.size := (by omega); have q1_0_0 := hc1 (w.heap.size) 0 (by first | assumption | (simp; done) | (simp; omega)); (try simp at q1_0_0); have p1_0_0 := hf1 (w.heap.size) 0 (by first | assumption | (simp; done) | (simp; omega)); (try simp at p1_0_0); have q1_0_1 := hc1 (w.heap.size) 1 (by first | assumption | (simp; done) | (simp; omega)); (try simp at q1_0_1); have p1_0_1 := hf1 (w.heap.size) 1 (by first | assumption | (simp; done) | (simp; omega)); (try simp at p1_0_1)))
    ((try simp only [Exit.inBlock, Exit.then]); refine bodyPost_ret (v := .tuple #[.agg #[.int .i64 (bandLoI T S r), .int .i64 (bandHiI T S r)], .int .i64 0]) ?_ rfl ?_; (next => simp [results, Try.results48, go_sem, hk1_0, q1_0_0, q1_0_1]); refine ⟨?_, ?_⟩; (next => simp [bandV, HE.out]); (next => (repeat (with_reducible first | exact Below.refl _ _ | assumption | refine Below.drewN _ ?_ | refine Below.drew ?_ | refine Below_alloc ?_ _ | refine Below.alloc ?_ (by first | (simp; done) | (simp; omega) | omega) _ | refine Below.setCell ?_ (by first | (simp; done) | (simp; omega) | omega) _ | refine Below_call ?_ (by assumption) | refine Below.trans ?_ (by assumption)))))
  · have HE := hid he
    have he' : (firstNZ [trErr T, tenErr S, rskErr r] != 0) = true := by simpa using he
    clear he
    go_enter Try.func48, Try.ntmps48
    go_wp2_with (first | (go_at_call 90; refine (blind_trialsErr _ _).mono ?_; rintro _ _ ⟨rfl, rfl⟩) | (go_at_call 100; refine (blind_tenthsErr _ _).mono ?_; rintro _ _ ⟨rfl, rfl⟩) | (go_at_call 101; refine (blind_riskErr _ _).mono ?_; rintro _ _ ⟨rfl, rfl⟩) | (go_at_call 75; refine (blind_first [trErr T, tenErr S, rskErr r] _ _ (intsAt_new _ _ _ _ _ rfl (by simp) (by simp))).mono ?_; rintro _ _ ⟨rfl, rfl⟩))
    ((try simp only [Exit.inBlock, Exit.then]); refine bodyPost_ret (v := .tuple #[.agg #[.int .i64 0, .int .i64 0], .int .i64 (firstNZ [trErr T, tenErr S, rskErr r])]) ?_ rfl ?_; (next => simp [results, Try.results48, go_sem]); refine ⟨?_, ?_⟩; (next => simp [bandV, if_neg HE.out]); (next => (repeat (with_reducible first | exact Below.refl _ _ | assumption | refine Below.drewN _ ?_ | refine Below.drew ?_ | refine Below_alloc ?_ _ | refine Below.alloc ?_ (by first | (simp; done) | (simp; omega) | omega) _ | refine Below.setCell ?_ (by first | (simp; done) | (simp; omega) | omega) _ | refine Below_call ?_ (by assumption) | refine Below.trans ?_ (by assumption)))))

/-- the least, the greatest of the first k + 1 numbers of a list. -/
def mnI (l : List Int) : Nat → Int
  | 0 => nth l 0
  | k + 1 => min (mnI l k) (nth l (k + 1))
def mxI (l : List Int) : Nat → Int
  | 0 => nth l 0
  | k + 1 => max (mxI l k) (nth l (k + 1))

theorem slices_Min (l : List Int) (v : Value) (w : World) (h : IntsAt w v l) (h0 : 0 < l.length) :
    Calls Try.prog 141 #[v] w fun e w' => e = .returned (.int .i64 (mnI l (l.length - 1))) ∧ w = w' := by
  obtain ⟨ao, cap, rfl, h1, h2, h3⟩ := h.opn
  obtain ⟨b, off, rfl, hb, hc⟩ := h3 0 h0
  unfold maxLen at h2
  have c0 := hc 0 h0
  rw [Nat.add_zero] at c0
  have HC := hid hc
  clear hc h3
  go_enter Try.func141, Try.ntmps141
  go_wp2_with fail
  go_loop [3, 4] (fun m i => ∃ k : Nat, k < l.length ∧ m = .int .i64 (mnI l k) ∧ i = .int .i64 ((k : Int) + 1)) (fun _ i => l.length - (intOf i).toNat)
  case atStart => exact ⟨0, h0, rfl, rfl⟩
  case round =>
    obtain ⟨k, hk, rfl, rfl⟩ := hrel
    by_cases hlt : k + 1 < l.length
    · have ck := HC.out (k + 1) hlt
      clear c0
      go_wp2_with fail
      all_goals
        go_round
        case rel => exact ⟨k + 1, hlt, by simp only [mnI]; go_num, by go_num⟩
        case measure => simp [intOf]; omega
    · go_wp2_with fail
      go_ret
      exact ⟨ret_int (by rw [show k = l.length - 1 from by omega]), rfl⟩

theorem slices_Max (l : List Int) (v : Value) (w : World) (h : IntsAt w v l) (h0 : 0 < l.length) :
    Calls Try.prog 142 #[v] w fun e w' => e = .returned (.int .i64 (mxI l (l.length - 1))) ∧ w = w' := by
  obtain ⟨ao, cap, rfl, h1, h2, h3⟩ := h.opn
  obtain ⟨b, off, rfl, hb, hc⟩ := h3 0 h0
  unfold maxLen at h2
  have c0 := hc 0 h0
  rw [Nat.add_zero] at c0
  have HC := hid hc
  clear hc h3
  go_enter Try.func142, Try.ntmps142
  go_wp2_with fail
  go_loop [3, 4] (fun m i => ∃ k : Nat, k < l.length ∧ m = .int .i64 (mxI l k) ∧ i = .int .i64 ((k : Int) + 1)) (fun _ i => l.length - (intOf i).toNat)
  case atStart => exact ⟨0, h0, rfl, rfl⟩
  case round =>
    obtain ⟨k, hk, rfl, rfl⟩ := hrel
    by_cases hlt : k + 1 < l.length
    · have ck := HC.out (k + 1) hlt
      clear c0
      go_wp2_with fail
      all_goals
        go_round
        case rel => exact ⟨k + 1, hlt, by simp only [mxI]; go_num, by go_num⟩
        case measure => simp [intOf]; omega
    · go_wp2_with fail
      go_ret
      exact ⟨ret_int (by rw [show k = l.length - 1 from by omega]), rfl⟩

end Go.Proofs.Ytllddidjiabegaa
