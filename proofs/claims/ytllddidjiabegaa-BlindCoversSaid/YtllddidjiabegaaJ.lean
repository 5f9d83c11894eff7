/- Contracts of the reference's sequences, trial by trial. -/
import Derived.Test.YtllddidjiabegaaI
set_option linter.unusedVariables false
set_option linter.unusedSimpArgs false
namespace Go.Proofs.Ytllddidjiabegaa
open Go.RowKit

/-- the call returns a slice that reads as a list, and leaves old memory alone. -/
def RetInts (w : World) (l : List Int) (e : Ending) (w' : World) : Prop := ∃ v, e = .returned v ∧ IntsAt w' v l ∧ Below w.heap.size w w'

/-- the numbers of sequences with 0, 1, .. hits. -/
def exRow (s u t : Nat) : List Int := (List.range (t + 1)).map fun k => (ex s u t k : Int)
theorem exRow_len (s u t : Nat) : (exRow s u t).length = t + 1 := by simp [exRow]
theorem exRow_nth {s u t k : Nat} (h : k ≤ t) : nth (exRow s u t) k = (ex s u t k : Int) := by simp [exRow, nth, List.getD, Nat.lt_succ_of_le h]

/-- the next row when the first k numbers of the row have been used. -/
def nxAt (s u t k j : Nat) : Int := (if j < k then (ex s u t j : Int) * u else 0) + (if 1 ≤ j ∧ j ≤ k then (ex s u t (j - 1) : Int) * s else 0)
def nxRow (s u t k : Nat) : List Int := (List.range (t + 2)).map (nxAt s u t k)
theorem nxRow_len (s u t k : Nat) : (nxRow s u t k).length = t + 2 := by simp [nxRow]
theorem nxRow_nth {s u t k j : Nat} (h : j < t + 2) : nth (nxRow s u t k) j = nxAt s u t k j := by simp [nxRow, nth, List.getD, h]
theorem nxRow_end (s u t : Nat) : nxRow s u t (t + 1) = exRow s u (t + 1) := by
  unfold nxRow exRow
  refine List.map_congr_left fun j hj => ?_
  have hj' : j < t + 2 := List.mem_range.1 hj
  unfold nxAt
  cases j with
  | zero => simp [ex]
  | succ j =>
    simp only [ex]
    by_cases e : j < t
    · rw [if_pos (by omega), if_pos (by omega)]; simp
    · have : j = t := by omega
      subst this
      rw [if_neg (by omega), if_pos (by omega), ex_big (by omega : j < j + 1)]; simp
theorem nxRow_zero (s u t : Nat) : nxRow s u t 0 = List.replicate (t + 2) 0 := by
  unfold nxRow
  apply List.ext_getElem (by simp)
  intro j h1 h2
  simp [nxAt]; omega
theorem nxRow_step {s u t k : Nat} (h : k ≤ t) : ((nxRow s u t k).set k (nxAt s u t k k + (ex s u t k : Int) * u)).set (k + 1) (nxAt s u t k (k + 1) + (ex s u t k : Int) * s) = nxRow s u t (k + 1) := by
  apply List.ext_getElem (by simp [nxRow])
  intro j h1 h2
  have hj : j < t + 2 := by simpa [nxRow] using h2
  rw [List.getElem_set, List.getElem_set]
  simp only [nxRow, List.getElem_map, List.getElem_range]
  by_cases e1 : k + 1 = j
  · subst e1
    simp only [if_true, nxAt]
    rw [if_neg (by omega : ¬ k + 1 < k), if_neg (by omega : ¬ (1 ≤ k + 1 ∧ k + 1 ≤ k)), if_neg (by omega : ¬ k + 1 < k + 1), if_pos (by omega : 1 ≤ k + 1 ∧ k + 1 ≤ k + 1), Nat.add_sub_cancel]; omega
  · rw [if_neg e1]
    by_cases e2 : k = j
    · subst e2
      simp only [if_true, nxAt]
      rw [if_neg (by omega : ¬ k < k), if_pos (by omega : k < k + 1)]
      by_cases e3 : 1 ≤ k
      · rw [if_pos ⟨e3, Nat.le_refl _⟩, if_pos ⟨e3, by omega⟩]; omega
      · rw [if_neg (by omega), if_neg (by omega)]; omega
    · rw [if_neg e2]
      simp only [nxAt]
      by_cases e4 : j < k
      · rw [if_pos e4, if_pos (by omega : j < k + 1)]
        by_cases e3 : 1 ≤ j
        · rw [if_pos ⟨e3, by omega⟩, if_pos ⟨e3, by omega⟩]
        · rw [if_neg (by omega), if_neg (by omega)]
      · rw [if_neg e4, if_neg (by omega : ¬ j < k + 1), if_neg (by omega), if_neg (by omega)]

theorem map_nth {l : List Int} {i : Nat} (h : i < l.length) : (l.map (Value.int .i64))[i]? = some (.int .i64 (nth l i)) := by simp [nth, List.getD, h]

theorem exB {s t k : Nat} (hs : s ≤ 10) (ht : t ≤ 12) (x : Nat) (hx : x ≤ 10) : 0 ≤ (ex s (10 - s) t k : Int) * x ∧ (ex s (10 - s) t k : Int) * x ≤ 10000000000000 := by
  have h1 := ex_le (s := s) (t := t) (k := k) hs
  have h2 := ten_le ht
  have h3 : ex s (10 - s) t k * x ≤ 1000000000000 * 10 := Nat.mul_le_mul (by omega) hx
  rw [← Int.natCast_mul]
  omega
theorem nxAtB {s t k j : Nat} (hs : s ≤ 10) (ht : t ≤ 12) : 0 ≤ nxAt s (10 - s) t k j ∧ nxAt s (10 - s) t k j ≤ 20000000000000 := by
  have h1 := exB (k := j) hs ht (10 - s) (by omega)
  have h2 := exB (k := j - 1) hs ht s (by omega)
  unfold nxAt
  split <;> split <;> omega

theorem ref_All (t : Nat) (w : World) (h : t ≤ 12) :
    Calls Try.prog 45 #[.int .i64 t] w fun e w' => e = .returned (.int .i64 ((10 ^ t : Nat) : Int)) ∧ w = w' := by
  go_enter Try.func45, Try.ntmps45
  go_wp2_with fail
  go_loop [3, 4] (fun n i => ∃ k : Nat, k ≤ t ∧ n = .int .i64 ((10 ^ k : Nat) : Int) ∧ i = .int .i64 k) (fun _ i => t - (intOf i).toNat)
  case atStart => exact ⟨0, by omega, rfl, rfl⟩
  case round =>
    obtain ⟨k, hk, rfl, rfl⟩ := hrel
    obtain ⟨A, hA⟩ : ∃ A : Nat, A = 10 ^ k := ⟨_, rfl⟩
    rw [← hA]
    have h1 := ten_le (t := k) (by omega)
    rw [← hA] at h1
    have HA := hid hA
    clear hA
    by_cases hlt : k < t
    · go_wp2_with fail
      go_round
      case rel => exact ⟨k + 1, by omega, by rw [Nat.pow_succ, ← HA.out]; simp, by go_num⟩
      case measure => simp [intOf]; omega
    · go_wp2_with fail
      go_ret
      exact ⟨ret_int (by rw [HA.out, show k = t from by omega]; push_cast; rfl), rfl⟩

set_option maxRecDepth 100000 in
set_option maxHeartbeats 1000000 in
theorem ref_Exactly (t s : Nat) (w : World) (h : t ≤ 12) (hs : s ≤ 10) :
    Calls Try.prog 107 #[.int .i64 t, .int .i64 s] w (RetInts w (exRow s (10 - s) t)) := by
  obtain ⟨i0, hi, hz0, hz1, hz2⟩ := info_parts infoInt
  go_enter Try.func107, Try.ntmps107
  go_wp2_with fail
  go_loopw [5, 6] (fun v i wr => ∃ j : Nat, j ≤ t ∧ i = .int .i64 j ∧ wr.ownsRow w.heap.size 3 1 v (j + 1) ((exRow s (10 - s) j).map (Value.int .i64)) ∧ Below w.heap.size w wr) (fun _ i _ => t - (intOf i).toNat)
  case atStart => exact ⟨0, Nat.zero_le _, rfl, ⟨by simp [exRow], Or.inr ⟨w.heap.size, 1, #[.int .i64 1], rfl, Nat.le_refl _, heap_alloc_new w _, by omega, by simp [maxLen], rfl, by simp [exRow, ex]⟩⟩, by (repeat (with_reducible first | exact Below.refl _ _ | assumption | refine Below.drewN _ ?_ | refine Below.drew ?_ | refine Below_alloc ?_ _ | refine Below.alloc ?_ (by first | (simp; done) | (simp; omega) | omega) _ | refine Below.setCell ?_ (by first | (simp; done) | (simp; omega) | omega) _ | refine Below_call ?_ (by assumption) | refine Below.trans ?_ (by assumption)))⟩
  case round =>
    obtain ⟨j, hj, rfl, hown, hbel⟩ := hrel
    obtain ⟨g, cap, rfl, hg1, hg2, hcap, hcap2, hlen, hcell, hfro⟩ := ownsRow_open hown (by omega)
    have hzw := hbel.size
    unfold maxLen at hcap2
    obtain ⟨wo, rfl⟩ : ∃ wo : World, wo = wr := ⟨_, rfl⟩
    by_cases hlt : j < t
    · have HCELL := hid hcell
      have HOWN := hid hown
      have HBEL := hid hbel
      clear hcell hfro hown hbel
      go_wp2_with (at_make; refine wpList_make_full wo rfl _ _ _ rfl wo.heap.size 3 i0 _ 1 Try.underlying33 hi hz0 hz1 _ _ _ _ (j + 2) rfl rfl (by omega) (by omega) (by rw [hz2]; omega) (by unfold maxLen; omega) (Nat.le_refl _) ?_; intro w1 hmade hgrow)
      have hmade' : w1.ownsRow wo.heap.size 3 1 (.slice (some ⟨wo.heap.size, 0, none⟩) (j + 2) (j + 2)) (j + 2) ((nxRow s (10 - s) j 0).map (Value.int .i64)) := by
        rw [nxRow_zero, List.map_replicate]
        have e := toList_madeCells_one (.int .i64 0) (j + 2)
        simpa [Value.cells, e] using hmade
      have hb0 : Below wo.heap.size wo w1 := (Below.refl _ _).grown hgrow (Nat.le_refl _) (fun k hk => by cases hk)
      clear hmade hgrow
      go_loopw [8] (fun k w2 => ∃ m : Nat, m ≤ j + 1 ∧ k = .int .i64 m ∧ w2.ownsRow wo.heap.size 3 1 (.slice (some ⟨wo.heap.size, 0, none⟩) (j + 2) (j + 2)) (j + 2) ((nxRow s (10 - s) j m).map (Value.int .i64)) ∧ Below wo.heap.size wo w2) (fun k _ => j + 1 - (intOf k).toNat)
      case atStart => exact ⟨0, by omega, rfl, hmade', hb0⟩
      case round =>
        obtain ⟨m, hm, rfl, hn2, hb2⟩ := hrel
        have hz2 := hb2.size
        by_cases hl2 : m < j + 1
        · have q0 := (hn2.cellAt m (by omega)).trans (map_nth (by rw [nxRow_len]; omega))
          have q1 := (hn2.cellAt (m + 1) (by omega)).trans (map_nth (by rw [nxRow_len]; omega))
          rw [nxRow_nth (by omega)] at q0 q1
          have p0 := hn2.frozenAt m
          have p1 := hn2.frozenAt (m + 1)
          have d0 : wr.cell? ⟨g, m, none⟩ = some (.int .i64 (ex s (10 - s) j m : Nat)) := by
            have e := HCELL.out m (by omega)
            rw [show (exRow s (10 - s) j).getD m 0 = (ex s (10 - s) j m : Nat) from exRow_nth (by omega)] at e
            rw [← e]; exact hb2.cell (p := ⟨g, m, none⟩) hg2
          have hne : g ≠ wo.heap.size := by omega
          have hne' : wo.heap.size ≠ g := by omega
          have x0 := nxAtB (k := m) (j := m) hs (show j ≤ 12 by omega)
          have x1 := nxAtB (k := m) (j := m + 1) hs (show j ≤ 12 by omega)
          have y0 := exB (k := m) hs (show j ≤ 12 by omega) (10 - s) (by omega)
          have y1 := exB (k := m) hs (show j ≤ 12 by omega) s hs
          have HU : Hid (((10 - s : Nat) : Int) = 10 - (s : Int)) := hid (by omega)
          rw [HU.out] at y0
          have hm0 : (0 : Int) ≤ (m : Int) := Int.natCast_nonneg _
          have hm1 : (m : Int) < (j : Int) + 1 := by omega
          have hm2 : (m : Int) + 1 < (j : Int) + 2 := by omega
          have HN2 := hid hn2
          clear hn2
          go_wp2_with fail
          ((refine wp_three [] [0, 1, 2, 3, 4, 5, 6, 7, 8, 9, 10, 11, 12, 13, 14] 15 (by kernel_rfl) (by kernel_rfl) ?_); (intro _ _); (simp only [pick, List.drop_succ_cons, List.drop_zero, List.head?_cons, Option.toList_some, List.cons_append, List.nil_append]); (repeat (first | (go_big_quiet_step (fail)) | (quiet_step (fail)))); (try refine wpQuiet_nil ?_); (repeat (first | (go_big_quiet_step (fail)) | (quiet_step (fail)))); (try refine wpQuiet_nil ?_); (intro nq))
          go_wp2
          ((refine wp_three [] [0, 1, 2, 3, 4, 5, 6, 7, 8, 9, 10, 11, 12, 13, 14, 15] 16 (by kernel_rfl) (by kernel_rfl) ?_); (intro _ _); (simp only [pick, List.drop_succ_cons, List.drop_zero, List.head?_cons, Option.toList_some, List.cons_append, List.nil_append]); (repeat (first | (go_big_quiet_step (fail)) | (quiet_step (fail)))); (try refine wpQuiet_nil ?_); (repeat (first | (go_big_quiet_step (fail)) | (quiet_step (fail)))); (try refine wpQuiet_nil ?_); (intro nq))
          go_wp2
          go_roundw
          case rel =>
            refine ⟨m + 1, by omega, by go_num, ?_, by (repeat (with_reducible first | exact Below.refl _ _ | assumption | refine Below.drewN _ ?_ | refine Below.drew ?_ | refine Below_alloc ?_ _ | refine Below.alloc ?_ (by first | (simp; done) | (simp; omega) | omega) _ | refine Below.setCell ?_ (by first | (simp; done) | (simp; omega) | omega) _ | refine Below_call ?_ (by assumption) | refine Below.trans ?_ (by assumption)))⟩
            have e : (nxRow s (10 - s) j (m + 1)).map (Value.int .i64) = (((nxRow s (10 - s) j m).map (Value.int .i64)).set m (.int .i64 (nxAt s (10 - s) j m m + (ex s (10 - s) j m : Nat) * (10 - (s : Int))))).set (m + 1) (.int .i64 (nxAt s (10 - s) j m (m + 1) + (ex s (10 - s) j m : Nat) * (s : Int))) := by
              rw [← nxRow_step (by omega), List.map_set, List.map_set, HU.out]
            rw [e]
            exact ((ownsRow_drewN _ ((ownsRow_drewN _ HN2.out).stored m _).1).stored (m + 1) _).1
          case measure => simp [intOf]; omega
        · have hmj : m = j + 1 := by omega
          subst hmj
          go_wp2_with fail
          go_roundw
          case rel =>
            refine ⟨j + 1, by omega, by go_num, ?_, ?_⟩
            · rw [← nxRow_end]; exact ownsRow_base hn2 hzw
            · exact HBEL.out.trans (hb2.mono hzw)
          case measure => simp [intOf]; omega
    · go_wp2_with fail
      go_ret
      refine ⟨_, rfl, ?_, hbel⟩
      rw [show t = j from by omega]
      exact ownsRow_ints (by rw [exRow_len]; exact hown)

end Go.Proofs.Ytllddidjiabegaa
