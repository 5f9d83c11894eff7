/- Contracts of counting: choose, powers, sequences, greatest common divisors, chances. -/
import Derived.Test.YtllddidjiabegaaA
set_option linter.unusedVariables false
set_option linter.unusedSimpArgs false
namespace Go.Proofs.Ytllddidjiabegaa
open Go.RowKit

theorem blind_power (n k : Int) (w : World) (h0 : 0 ≤ n) (h1 : n ≤ 10) (hk0 : 0 ≤ k) (hk : k ≤ 12) :
    Calls Try.prog 143 #[.int .i64 n, .int .i64 k] w fun e w' => e = .returned (.int .i64 (powI n k)) ∧ w = w' := by
  obtain ⟨m, rfl⟩ := Int.eq_ofNat_of_zero_le hk0
  go_enter Try.func143, Try.ntmps143
  go_wp2_with fail
  go_loop [5, 7] (fun o i => ∃ j : Nat, j ≤ m ∧ o = .int .i64 (powI n j) ∧ i = .int .i64 j) (fun _ i => m - (intOf i).toNat)
  case atStart => exact ⟨0, by omega, by simp [powI], rfl⟩
  case round =>
    obtain ⟨j, hj, rfl, rfl⟩ := hrel
    by_cases hlt : j < m
    · have HE : Hid (powI n j * n = powI n ((j + 1 : Nat) : Int)) := hid (by simp [powI, Int.pow_succ])
      have b1 := powI_le (k := ((j + 1 : Nat) : Int)) h0 h1 (by omega)
      have b2 := powI_nonneg ((j + 1 : Nat) : Int) h0
      have h2 : 0 ≤ powI n j * n := by rw [HE.out]; omega
      have h3 : powI n j * n ≤ 1000000000000 := by rw [HE.out]; omega
      clear b1 b2
      go_wp2_with fail
      go_round
      case rel => exact ⟨j + 1, by omega, by rw [HE.out], by go_num⟩
      case measure => simp [intOf]; omega
    · go_wp2_with fail
      go_ret
      exact ⟨ret_int (by rw [show j = m from by omega]), rfl⟩

theorem chI_of {n k : Int} (h : ¬ (0 ≤ k ∧ k ≤ n)) : chI n k = 0 := by simp only [chI, if_neg h]

theorem blind_choose (n k : Int) (w : World) (h0 : n ≤ 30) (hl : -1000 ≤ n) (hk1 : -1000 ≤ k) (hk2 : k ≤ 1000):
    Calls Try.prog 130 #[.int .i64 n, .int .i64 k] w fun e w' => e = .returned (.int .i64 (chI n k)) ∧ w = w' := by
  cases hb : inB k 0 n
  · have HB := hid hb
    have hb' : (!inB k 0 n) = true := by simp [hb]
    go_enter Try.func130, Try.ntmps130
    go_wp2_with (go_at_call 77; refine (blind_within _ _ _ _).mono ?_; rintro _ _ ⟨rfl, rfl⟩)
    go_ret
    exact ⟨ret_int (chI_of (inB_false.1 HB.out)).symm, rfl⟩
  · obtain ⟨h1, h2⟩ := inB_true.1 hb
    have HB := hid hb
    have hb' : (!inB k 0 n) = false := by simp [hb]
    obtain ⟨N, rfl⟩ := Int.eq_ofNat_of_zero_le (show 0 ≤ n by omega)
    obtain ⟨K, rfl⟩ := Int.eq_ofNat_of_zero_le h1
    obtain ⟨M, hM1, hM2, hM3⟩ : ∃ M : Nat, M ≤ K ∧ M + K ≤ N ∧ (M = K ∨ M + K = N) := ⟨min K (N - K), by omega, by omega, by omega⟩
    have HM := hid hM3
    have hch : ∀ j : Nat, j < M → 0 ≤ (ch N j : Int) * ((N : Int) - j) ∧ (ch N j : Int) * ((N : Int) - j) ≤ 32212254720 ∧ (ch N j : Int) * ((N : Int) - j) / ((j : Int) + 1) = (ch N (j + 1) : Int) := by
      intro j hj
      have e1 : ((N : Int) - j) = ((N - j : Nat) : Int) := by omega
      have h1 := ch_le_pow N j
      have h2 : 2 ^ N ≤ 2 ^ 30 := Nat.pow_le_pow_right (by omega) (by omega)
      have h3 : ch N j * (N - j) ≤ 1073741824 * 30 := Nat.mul_le_mul (by omega) (by omega)
      rw [e1]
      refine ⟨by have : (0 : Int) ≤ ((ch N j * (N - j) : Nat) : Int) := Int.natCast_nonneg _
                 rw [Int.natCast_mul] at this; exact this, by have h4 := Int.ofNat_le.2 h3; rw [Int.natCast_mul] at h4; omega, ?_⟩
      have := ch_div (n := N) (k := j) (by omega)
      exact_mod_cast this
    have HC := hid hch
    have hfin : chI N K = (ch N M : Int) := by
      simp only [chI, if_pos (And.intro h1 h2), Int.toNat_natCast]
      rcases hM3 with e | e
      · rw [e]
      · rw [← ch_symm (show K ≤ N by omega), show N - K = M by omega]
    have HF := hid hfin
    clear hch hM3 hfin hb
    by_cases hle : (K : Int) ≤ (N : Int) - K
    all_goals
      go_enter Try.func130, Try.ntmps130
      go_wp2_with (go_at_call 77; refine (blind_within _ _ _ _).mono ?_; rintro _ _ ⟨rfl, rfl⟩)
      go_loop [5, 16] (fun o i => ∃ j : Nat, j ≤ M ∧ o = .int .i64 (ch N j : Nat) ∧ i = .int .i64 j) (fun _ i => M - (intOf i).toNat)
      case atStart => exact ⟨0, by omega, by simp [ch_zero], rfl⟩
      case round =>
        obtain ⟨j, hj, rfl, rfl⟩ := hrel
        by_cases hlt : j < M
        · obtain ⟨b1, b2, b3⟩ := HC.out j hlt
          have H3 := hid b3
          clear b3
          go_wp2_with fail
          go_round
          case rel => exact ⟨j + 1, by omega, by rw [← H3.out], by go_num⟩
          case measure => simp [intOf]; omega
        · have hj2 : ((K : Int) ≤ (N : Int) - K → ¬ (j : Int) < K) ∧ (¬ (K : Int) ≤ (N : Int) - K → ¬ (j : Int) < (N : Int) - K) := by have := HM.out; omega
          first | (have hj3 := hj2.1 (by omega)) | (have hj3 := hj2.2 (by omega))
          clear hj2
          go_wp2_with fail
          go_ret
          exact ⟨ret_int (by rw [HF.out, show j = M from by omega]), rfl⟩

def exI (T H S : Int) : Int := (ex S.toNat (10 - S.toNat) T.toNat H.toNat : Nat)
def waysI (T H S : Int) : Int := (waysN S.toNat T.toNat H.toNat : Nat)

theorem exI_eq {T H S : Int} (h1 : 0 ≤ H) (h2 : H ≤ T) (h5 : 0 ≤ S) (h6 : S ≤ 10) : chI T H * powI S H * powI (10 - S) (T - H) = exI T H S := by
  obtain ⟨h, rfl⟩ := Int.eq_ofNat_of_zero_le h1
  obtain ⟨t, rfl⟩ := Int.eq_ofNat_of_zero_le (show 0 ≤ T by omega)
  obtain ⟨s, rfl⟩ := Int.eq_ofNat_of_zero_le h5
  unfold exI
  simp only [Int.toNat_natCast]
  rw [ex_eq _ _ _ _ (by omega), chI, if_pos (by omega)]
  simp only [Int.toNat_natCast, powI]
  rw [show ((t : Int) - h).toNat = t - h from by omega, show (10 - (s : Int)) = ((10 - s : Nat) : Int) from by omega]
  push_cast
  rfl

theorem blind_exactly (T H S : Int) (w : World) (h1 : 0 ≤ H) (h2 : H ≤ T) (h3 : T ≤ 12) (h5 : 0 ≤ S) (h6 : S ≤ 10) :
    Calls Try.prog 103 #[.int .i64 T, .int .i64 H, .int .i64 S] w fun e w' => e = .returned (.int .i64 (exI T H S)) ∧ w = w' := by
  have c1 : chI T H ≤ 4096 := by
    unfold chI; split
    · have := ch_le_pow T.toNat H.toNat
      have h2 : 2 ^ T.toNat ≤ 2 ^ 12 := Nat.pow_le_pow_right (by omega) (by omega)
      omega
    · omega
  have c0 := chI_nonneg T H
  have p1 := powI_le (n := S) (k := H) h5 h6 (by omega)
  have p0 := powI_nonneg H h5
  have q1 := powI_le (n := 10 - S) (k := T - H) (by omega) (by omega) (by omega)
  have q0 := powI_nonneg (T - H) (show 0 ≤ 10 - S by omega)
  have m0 : 0 ≤ chI T H * powI S H := Int.mul_nonneg c0 p0
  have m1 : chI T H * powI S H ≤ 4096 * 1000000000000 := Int.mul_le_mul c1 p1 p0 (by omega)
  have he := exI_eq h1 h2 h5 h6
  have hb : exI T H S ≤ 1000000000000 := by
    have a1 := ex_le (s := S.toNat) (t := T.toNat) (k := H.toNat) (by omega)
    have a2 := ten_le (t := T.toNat) (by omega)
    unfold exI; omega
  have n0 : 0 ≤ chI T H * powI S H * powI (10 - S) (T - H) := Int.mul_nonneg m0 q0
  have n1 : chI T H * powI S H * powI (10 - S) (T - H) ≤ 1000000000000 := by rw [he]; exact hb
  have HE := hid he
  clear he hb
  go_enter Try.func103, Try.ntmps103
  go_wp2_with (first | (go_at_call 130; refine (blind_choose _ _ _ (by omega) (by omega) (by omega) (by omega)).mono ?_; rintro _ _ ⟨rfl, rfl⟩) | (go_at_call 143; refine (blind_power _ _ _ (by omega) (by omega) (by omega) (by omega)).mono ?_; rintro _ _ ⟨rfl, rfl⟩))
  go_ret
  exact ⟨ret_int HE.out, rfl⟩

theorem blind_ways (T H S : Int) (w : World) (h1 : 0 ≤ H) (h2 : H ≤ T + 1) (h4 : 0 ≤ T) (h3 : T ≤ 12) (h5 : 0 ≤ S) (h6 : S ≤ 10) :
    Calls Try.prog 105 #[.int .i64 T, .int .i64 H, .int .i64 S] w fun e w' => e = .returned (.int .i64 (waysI T H S)) ∧ w = w' := by
  obtain ⟨h, rfl⟩ := Int.eq_ofNat_of_zero_le h1
  obtain ⟨t, rfl⟩ := Int.eq_ofNat_of_zero_le h4
  obtain ⟨s, rfl⟩ := Int.eq_ofNat_of_zero_le h5
  go_enter Try.func105, Try.ntmps105
  go_wp2_with fail
  go_loop [7, 8] (fun o i => ∃ j : Nat, j ≤ t + 1 - h ∧ o = .int .i64 (sumFrom (ex s (10 - s) t) h j : Nat) ∧ i = .int .i64 ((h : Int) + (j : Int))) (fun _ i => ((t : Int) + 1 - intOf i).toNat)
  case atStart => exact ⟨0, by omega, rfl, by simp⟩
  case round =>
    obtain ⟨j, hj, rfl, rfl⟩ := hrel
    by_cases hlt : h + j ≤ t
    · have a1 : sumFrom (ex s (10 - s) t) h (j + 1) ≤ sumFrom (ex s (10 - s) t) h (t + 1 - h) := sumFrom_le (by omega)
      have a2 := waysN_le (s := s) (t := t) (h := h) (by omega)
      have a3 := ten_le (t := t) (by omega)
      have HW : Hid (sumFrom (ex s (10 - s) t) h (j + 1) = sumFrom (ex s (10 - s) t) h j + ex s (10 - s) t (h + j)) := hid rfl
      have a4 : sumFrom (ex s (10 - s) t) h j + ex s (10 - s) t (h + j) ≤ 1000000000000 := by
        unfold waysN at a2; rw [← HW.out]; omega
      have HX : Hid (exI (t : Int) ((h : Int) + (j : Int)) (s : Int) = (ex s (10 - s) t (h + j) : Nat)) := hid (by simp only [exI, Int.toNat_natCast]; rw [show ((h : Int) + (j : Int)).toNat = h + j from by omega])
      have a5 : 0 ≤ exI (t : Int) ((h : Int) + (j : Int)) (s : Int) := by rw [HX.out]; omega
      have a6 : (sumFrom (ex s (10 - s) t) h j : Int) + exI (t : Int) ((h : Int) + (j : Int)) (s : Int) ≤ 1000000000000 := by rw [HX.out]; omega
      clear a1 a2 a3 a4
      go_wp2_with (go_at_call 103; refine (blind_exactly _ _ _ _ (by omega) (by omega) (by omega) (by omega) (by omega)).mono ?_; rintro _ _ ⟨rfl, rfl⟩)
      go_round
      case rel => exact ⟨j + 1, by omega, by rw [HW.out, HX.out]; go_num, by go_num⟩
      case measure => simp [intOf]; omega
    · go_wp2_with fail
      go_ret
      exact ⟨ret_int (by simp only [waysI, Int.toNat_natCast, waysN]; rw [show j = t + 1 - h from by omega]), rfl⟩

theorem base_Size (n : Int) (w : World) (h : -9223372036854775807 ≤ n) (h' : n ≤ 9223372036854775807) :
    Calls Try.prog 131 #[.int .i64 n] w fun e w' => e = .returned (.int .i64 (n.natAbs : Int)) ∧ w = w' := by
  go_enter Try.func131, Try.ntmps131
  go_wp2_with fail
  all_goals
    go_ret
    exact ⟨ret_int (by omega), rfl⟩

theorem blind_divisor (a b : Int) (w : World) (h : -9223372036854775808 ≤ a) (h' : a ≤ 9223372036854775807) (hb : 0 < b) (hb' : b ≤ 9223372036854775807) :
    Calls Try.prog 89 #[.int .i64 a, .int .i64 b] w fun e w' => e = .returned (.int .i64 (Int.gcd a b : Nat)) ∧ ∃ m, w' = w.drewN m := by
  obtain ⟨g, hg⟩ : ∃ g, g = Int.gcd a b := ⟨_, rfl⟩
  have HG := hid hg
  clear hg
  go_enter Try.func89, Try.ntmps89
  go_wp2_with fail
  go_loopw [0, 1] (fun x y wr => ∃ p q : Int, x = .int .i64 p ∧ y = .int .i64 q ∧ Hid (g = Int.gcd p q) ∧ -9223372036854775808 ≤ p ∧ p ≤ 9223372036854775807 ∧ -9223372036854775807 ≤ q ∧ q ≤ 9223372036854775807 ∧ (q = 0 → -9223372036854775807 ≤ p) ∧ ∃ m, wr = w.drewN m) (fun _ y _ => (intOf y).natAbs)
  case atStart => exact ⟨a, b, rfl, rfl, HG, h, h', by omega, hb', by omega, 0, rfl⟩
  case round =>
    obtain ⟨p, q, rfl, rfl, hG, p1, p2, q1, q2, hq, m, rfl⟩ := hrel
    by_cases hz : q = 0
    · subst hz
      go_wp2_with fail
      all_goals
        go_ret
        refine ⟨ret_int ?_, m, rfl⟩
        rw [HG.out.symm, hG.out, Int.gcd_zero_right]
        omega
    · have hz' : (q != 0) = true := by simpa using hz
      have HT := hid (tmod_abs p q hz)
      have HT2 := hid (gcd_tmod p q)
      go_wp2_with fail
      go_quiet (fail)
      go_wp2
      go_roundw
      case rel => exact ⟨q, p.tmod q, rfl, rfl, hid (by rw [HT2.out]; exact hG.out), by omega, by omega, by have := HT.out; omega, by have := HT.out; omega, by omega, m + nq, by simp⟩
      case measure => simp only [intOf]; exact HT.out

end Go.Proofs.Ytllddidjiabegaa
