/- Contracts of the reference's counting: rows of binomial numbers. -/
import Derived.Test.YtllddidjiabegaaB
import Derived.Test.YtllddidjiabegaaReg
import Derived.Deep.RegionHeld3
import Derived.Deep.AppendLies
set_option linter.unusedVariables false
set_option linter.unusedSimpArgs false
namespace Go.Proofs.Ytllddidjiabegaa
open Go.RowKit

theorem elemInt : Elem Try.prog 33 3 1 8 := Elem.mk (z := .int .i64 0) Try.underlying33 (by kernel_rfl) rfl (by decide)
theorem infoInt : (Try.prog.info? 3).map (fun i => (i.zero, i.size, i.bytes)) = some (some (.int .i64 0), 1, 8) := by kernel_rfl

/-- row number n of the triangle. -/
def chRow (n : Nat) : List Int := (List.range (n + 1)).map fun k => (ch n k : Int)
theorem chRow_len (n : Nat) : (chRow n).length = n + 1 := by simp [chRow]
theorem chRow_getD {n k : Nat} (h : k ≤ n) : (chRow n).getD k 0 = (ch n k : Int) := by simp [chRow, List.getD, h, Nat.lt_succ_of_le h]

set_option maxHeartbeats 1000000 in
theorem ref_Choose (n k : Int) (w : World) (hn : n ≤ 30) :
    Calls Try.prog 91 #[.int .i64 n, .int .i64 k] w fun e w' => e = .returned (.int .i64 (chI n k)) ∧ Below w.heap.size w w' := by
  by_cases hk0 : k < 0
  · have hk0' : decide (k < 0) = true := by simpa using hk0
    have hr := hid (show chI n k = 0 by simp only [chI]; rw [if_neg (by omega)])
    go_enter Try.func91, Try.ntmps91
    go_wp2
    go_ret
    exact ⟨ret_int hr.out.symm, Below.refl _ _⟩
  by_cases hkn : n < k
  · have hr := hid (show chI n k = 0 by simp only [chI]; rw [if_neg (by omega)])
    go_enter Try.func91, Try.ntmps91
    go_wp2
    go_ret
    exact ⟨ret_int hr.out.symm, Below.refl _ _⟩
  obtain ⟨K, rfl⟩ := Int.eq_ofNat_of_zero_le (show 0 ≤ k by omega)
  obtain ⟨N, rfl⟩ := Int.eq_ofNat_of_zero_le (show 0 ≤ n by omega)
  obtain ⟨i0, hi, hz0, hz1, hz2⟩ := info_parts infoInt
  go_enter Try.func91, Try.ntmps91
  go_wp2_with fail
  go_loopw [5, 6] (fun v i wr => ∃ j : Nat, j ≤ N ∧ i = .int .i64 j ∧ wr.ownsRow w.heap.size 3 1 v (j + 1) ((chRow j).map (Value.int .i64)) ∧ Below w.heap.size w wr) (fun _ i _ => N - (intOf i).toNat)
  case atStart => exact ⟨0, Nat.zero_le _, rfl, ⟨by simp [chRow], Or.inr ⟨w.heap.size, 1, #[.int .i64 1], rfl, Nat.le_refl _, heap_alloc_new w _, by omega, by simp [maxLen], rfl, by simp [chRow, ch]⟩⟩, (Below.refl _ _).alloc (Nat.le_refl _) _⟩
  case round =>
    obtain ⟨j, hj, rfl, hown, hbel⟩ := hrel
    obtain ⟨g, cap, rfl, hg1, hg2, hcap, hcap2, hlen, hcell, hfro⟩ := ownsRow_open hown (by omega)
    unfold maxLen at hcap2
    by_cases hlt : j < N
    · go_wp2_with fail
      obtain ⟨wo, hwo⟩ : ∃ wo : World, wo = wr := ⟨_, rfl⟩
      go_loopw [7, 8] (fun v i w2 => ∃ m : Nat, m ≤ j ∧ i = .int .i64 ((m : Int) + 1) ∧ w2.ownsRow wo.heap.size 3 1 v (m + 1) (((chRow (j + 1)).take (m + 1)).map (Value.int .i64)) ∧ Below wo.heap.size wo w2) (fun _ i _ => (j + 1 : Nat) - (intOf i).toNat)
      case atStart =>
        subst hwo
        exact ⟨0, Nat.zero_le _, rfl, ⟨by simp [chRow], Or.inr ⟨wo.heap.size, 1, #[.int .i64 1], rfl, Nat.le_refl _, heap_alloc_new wo _, by omega, by simp [maxLen], rfl, by simp [chRow, List.range_succ_eq_map, ch_zero]⟩⟩, (Below.refl _ _).alloc (Nat.le_refl _) _⟩
      case round =>
        obtain ⟨m, hm, rfl, hown2, hbel2⟩ := hrel
        have hg3 : g < wo.heap.size := by rw [hwo]; exact hg2
        have hce : ∀ i, i < j + 1 → wr.cell? ⟨g, i, none⟩ = some (.int .i64 ((chRow j).getD i 0)) := fun i hi => by
          rw [← hcell i hi, ← hwo]; exact hbel2.cell (p := ⟨g, i, none⟩) hg3
        have HC := hid hce
        have hz := hbel2.size
        have HWO := hid hwo
        have HBEL := hid hbel
        clear hcell hce hfro hown hbel hwo
        by_cases hl2 : m < j
        · have c1 := HC.out m (by omega)
          have c2 := HC.out (m + 1) (by omega)
          rw [chRow_getD (by omega)] at c1 c2
          have hm0 : (0 : Int) ≤ (m : Int) := Int.natCast_nonneg _
          have hm1 : (m : Int) < ((j + 1 : Nat) : Int) := by omega
          have hm2 : (m : Int) + 1 < ((j + 1 : Nat) : Int) := by omega
          have s1 := ch_le_pow j m
          have s2 := ch_le_pow j (m + 1)
          have s3 : 2 ^ j ≤ 2 ^ 30 := Nat.pow_le_pow_right (by omega) (by omega)
          have s4 : ch j m ≤ 1073741824 := by omega
          have s5 : ch j (m + 1) ≤ 1073741824 := by omega
          clear s1 s2 s3
          go_wp2_with fail
          ((refine wp_three [0] [1, 2, 3, 4, 5, 6, 7, 8, 9, 10] 11 (by kernel_rfl) (by kernel_rfl) ?_); (intro _ _); (simp only [pick, List.drop_succ_cons, List.drop_zero, List.head?_cons, Option.toList_some, List.cons_append, List.nil_append]); (repeat (first | (go_big_quiet_step (fail)) | (quiet_step (fail)))); (try refine wpQuiet_nil ?_); (repeat (first | (go_big_quiet_step (fail)) | (quiet_step (fail)))); (try refine wpQuiet_nil ?_); (intro nq))
          go_wp2_with (at_builtin; refine wpList_push rfl _ _ _ rfl elemInt wo.heap.size u7 (m + 1) _ rfl (wr.drewN nq) (ownsRow_drewN nq hown2) [.int .i64 ((ch j m : Nat) + (ch j (m + 1) : Nat))] rfl (by simp [Value.oneCell']) rfl _ rfl rfl (by omega) (by unfold maxLen; omega) hz ?_; intro v1 w1 hown3 hb3 _ _)
          go_roundw
          case rel =>
            refine ⟨m + 1, by omega, by go_num, ?_, (Below.drewN nq hbel2).trans hb3⟩
            have e1 : (chRow (j + 1)).take (m + 1 + 1) = (chRow (j + 1)).take (m + 1) ++ [((ch j m : Nat) + (ch j (m + 1) : Nat) : Int)] := by
              rw [take_getD 0 (by rw [chRow_len]; omega), chRow_getD (by omega)]
              simp [ch]
            rw [e1, List.map_append]
            exact hown3
          case measure => simp [intOf]; omega
        · have hmj : m = j := by omega
          subst hmj
          go_wp2_with (at_builtin; refine wpList_push rfl _ _ _ rfl elemInt wo.heap.size u7 (m + 1) _ rfl wr hown2 [.int .i64 1] rfl (by simp [Value.oneCell']) rfl _ rfl rfl (by omega) (by unfold maxLen; omega) hz ?_; intro v1 w1 hown3 hb3 _ _)
          go_roundw
          case rel =>
            refine ⟨m + 1, by omega, by go_num, ?_, ?_⟩
            · have e1 : chRow (m + 1) = (chRow (m + 1)).take (m + 1) ++ [(1 : Int)] := by
                have h2 := cut_getD (l := chRow (m + 1)) (k := m + 1) 0 (by rw [chRow_len]; omega)
                rw [chRow_getD (by omega), ch_self, List.drop_of_length_le (by rw [chRow_len]; omega)] at h2
                exact h2
              rw [e1, List.map_append]
              exact ownsRow_base hown3 (by have := HBEL.out.size; rw [HWO.out]; exact this)
            · have h1 := HBEL.out
              rw [← HWO.out] at h1
              exact (h1.trans (hbel2.mono h1.size)).trans (hb3.mono h1.size)
          case measure => simp [intOf]; omega
    · have hjN : j = N := by omega
      subst hjN
      have c1 := hcell K (by omega)
      rw [chRow_getD (by omega)] at c1
      go_wp2_with fail
      go_ret
      refine ⟨ret_int ?_, hbel⟩
      simp only [chI]; rw [if_pos (by omega)]; simp

end Go.Proofs.Ytllddidjiabegaa
