/- Contracts of limits and coverages in the program, third part. -/
import Derived.Test.YtllddidjiabegaaH
set_option linter.unusedVariables false
set_option linter.unusedSimpArgs false
namespace Go.Proofs.Ytllddidjiabegaa
open Go.RowKit

def limE (T h r : Int) : List Int := [trErr T, hitErr T h, rskErr r]
def limErr (T h r : Int) : Int := if firstNZ (limE T h r) = 0 then (if limHi T h r 11 = -1 then 12 else 0) else firstNZ (limE T h r)
def limForV (T h r : Int) : Value := .tuple #[if limErr T h r = 0 then .agg #[.int .i64 (limLo T h r 11), .int .i64 (limHi T h r 11)] else .agg #[.int .i64 0, .int .i64 0], .int .i64 (limErr T h r)]

set_option maxRecDepth 100000 in
set_option maxHeartbeats 1000000 in
theorem blind_LimitsFor (T h r : Int) (w : World) : Calls Try.prog 47 #[.int .i64 T, .int .i64 h, .int .i64 r] w fun e w' => e = .returned (limForV T h r) ∧ Below w.heap.size w w' := by
  by_cases he : firstNZ [trErr T, hitErr T h, rskErr r] = 0
  · have HE : Hid (firstNZ (limE T h r) = 0) := hid he
    have h2 := firstNZ_zero.1 he
    have h3 := trErr_ok (h2 (trErr T) (by simp))
    have h4 := hitErr_ok (h2 (hitErr T h) (by simp))
    have h5 := rskErr_ok (h2 (rskErr r) (by simp))
    have he' : (firstNZ [trErr T, hitErr T h, rskErr r] != 0) = false := by simpa using he
    clear he h2
    by_cases hh : limHi T h r 11 = -1
    · have HH := hid hh
      have HV := hid (limV_no hh)
      clear hh
      go_enter Try.func47, Try.ntmps47
      go_wp2_with (first | (go_at_call 90; refine (blind_trialsErr _ _).mono ?_; rintro _ _ ⟨rfl, rfl⟩) | (go_at_call 104; refine (blind_hitsErr _ _ _).mono ?_; rintro _ _ ⟨rfl, rfl⟩) | (go_at_call 101; refine (blind_riskErr _ _).mono ?_; rintro _ _ ⟨rfl, rfl⟩) | (go_at_call 75; refine (blind_first [trErr T, hitErr T h, rskErr r] _ _ (intsAt_new _ _ _ _ _ rfl (by simp) (by simp))).mono ?_; rintro _ _ ⟨rfl, rfl⟩) | (go_at_call 102; refine ((by rw [← HV.out]; exact blind_limits _ _ _ _ (by omega) (by omega) (by omega) (by omega) : Calls Try.prog 102 #[.int .i64 T, .int .i64 h, .int .i64 r] _ fun e w' => e = .returned (.tuple #[.agg #[.int .i64 0, .int .i64 0], .bool false]) ∧ Below _ _ w')).mono ?_; rintro _ w1 ⟨rfl, hb1⟩; obtain ⟨hc1, hf1⟩ := bcell hb1; have hz1 := hb1.size; (try simp only [World.size_alloc, World.heap_drewN] at hz1); have hk1_0 : w.heap.size < w1.heap.size := (by omega); have q1_0_0 := hc1 (w.heap.size) 0 (by first | assumption | (simp; done) | (simp; omega)); (try simp at q1_0_0); have p1_0_0 := hf1 (w.heap.size) 0 (by first | assumption | (simp; done) | (simp; omega)); (try simp at p1_0_0); have q1_0_1 := hc1 (w.heap.size) 1 (by first | assumption | (simp; done) | (simp; omega)); (try simp at q1_0_1); have p1_0_1 := hf1 (w.heap.size) 1 (by first | assumption | (simp; done) | (simp; omega)); (try simp at p1_0_1)))
      ((refine wp_three [] [0, 1, 2] 3 (by kernel_rfl) (by kernel_rfl) ?_); (intro _ _); (simp only [pick, List.drop_succ_cons, List.drop_zero, List.head?_cons, Option.toList_some, List.cons_append, List.nil_append]); (repeat (first | (go_big_quiet_step ((go_at_call 78; exact quiet_same (blind_unless _ _ _) ⟨_, rfl⟩))) | (quiet_step ((go_at_call 78; exact quiet_same (blind_unless _ _ _) ⟨_, rfl⟩))))); (try refine wpQuiet_nil ?_); (repeat (first | (go_big_quiet_step ((go_at_call 78; exact quiet_same (blind_unless _ _ _) ⟨_, rfl⟩))) | (quiet_step ((go_at_call 78; exact quiet_same (blind_unless _ _ _) ⟨_, rfl⟩))))); (try refine wpQuiet_nil ?_); (intro nq))
      go_wp2
      ((try simp only [Exit.inBlock, Exit.then]); refine bodyPost_ret (v := .tuple #[.agg #[.int .i64 0, .int .i64 0], .int .i64 12]) ?_ rfl ?_; (next => simp [results, Try.results47, go_sem, hk1_0, q1_0_0, q1_0_1, unl]); refine ⟨?_, ?_⟩; (next => simp [limForV, limErr, HE.out, HH.out]); (next => (repeat (with_reducible first | exact Below.refl _ _ | assumption | refine Below.drewN _ ?_ | refine Below.drew ?_ | refine Below_alloc ?_ _ | refine Below.alloc ?_ (by first | (simp; done) | (simp; omega) | omega) _ | refine Below.setCell ?_ (by first | (simp; done) | (simp; omega) | omega) _ | refine Below_call ?_ (by assumption) | refine Below.trans ?_ (by assumption)))))
    · have HH := hid hh
      have HV := hid (limV_yes hh)
      clear hh
      go_enter Try.func47, Try.ntmps47
      go_wp2_with (first | (go_at_call 90; refine (blind_trialsErr _ _).mono ?_; rintro _ _ ⟨rfl, rfl⟩) | (go_at_call 104; refine (blind_hitsErr _ _ _).mono ?_; rintro _ _ ⟨rfl, rfl⟩) | (go_at_call 101; refine (blind_riskErr _ _).mono ?_; rintro _ _ ⟨rfl, rfl⟩) | (go_at_call 75; refine (blind_first [trErr T, hitErr T h, rskErr r] _ _ (intsAt_new _ _ _ _ _ rfl (by simp) (by simp))).mono ?_; rintro _ _ ⟨rfl, rfl⟩) | (go_at_call 102; refine ((by rw [← HV.out]; exact blind_limits _ _ _ _ (by omega) (by omega) (by omega) (by omega) : Calls Try.prog 102 #[.int .i64 T, .int .i64 h, .int .i64 r] _ fun e w' => e = .returned (.tuple #[.agg #[.int .i64 (limLo T h r 11), .int .i64 (limHi T h r 11)], .bool true]) ∧ Below _ _ w')).mono ?_; rintro _ w1 ⟨rfl, hb1⟩; obtain ⟨hc1, hf1⟩ := bcell hb1; have hz1 := hb1.size; (try simp only [World.size_alloc, World.heap_drewN] at hz1); have hk1_0 : w.heap.size < w1.heap.size := (by omega); have q1_0_0 := hc1 (w.heap.size) 0 (by first | assumption | (simp; done) | (simp; omega)); (try simp at q1_0_0); have p1_0_0 := hf1 (w.heap.size) 0 (by first | assumption | (simp; done) | (simp; omega)); (try simp at p1_0_0); have q1_0_1 := hc1 (w.heap.size) 1 (by first | assumption | (simp; done) | (simp; omega)); (try simp at q1_0_1); have p1_0_1 := hf1 (w.heap.size) 1 (by first | assumption | (simp; done) | (simp; omega)); (try simp at p1_0_1)))
      ((refine wp_three [] [0, 1, 2] 3 (by kernel_rfl) (by kernel_rfl) ?_); (intro _ _); (simp only [pick, List.drop_succ_cons, List.drop_zero, List.head?_cons, Option.toList_some, List.cons_append, List.nil_append]); (repeat (first | (go_big_quiet_step ((go_at_call 78; exact quiet_same (blind_unless _ _ _) ⟨_, rfl⟩))) | (quiet_step ((go_at_call 78; exact quiet_same (blind_unless _ _ _) ⟨_, rfl⟩))))); (try refine wpQuiet_nil ?_); (repeat (first | (go_big_quiet_step ((go_at_call 78; exact quiet_same (blind_unless _ _ _) ⟨_, rfl⟩))) | (quiet_step ((go_at_call 78; exact quiet_same (blind_unless _ _ _) ⟨_, rfl⟩))))); (try refine wpQuiet_nil ?_); (intro nq))
      go_wp2
      ((try simp only [Exit.inBlock, Exit.then]); refine bodyPost_ret (v := .tuple #[.agg #[.int .i64 (limLo T h r 11), .int .i64 (limHi T h r 11)], .int .i64 0]) ?_ rfl ?_; (next => simp [results, Try.results47, go_sem, hk1_0, q1_0_0, q1_0_1, unl]); refine ⟨?_, ?_⟩; (next => simp [limForV, limErr, HE.out, HH.out]); (next => (repeat (with_reducible first | exact Below.refl _ _ | assumption | refine Below.drewN _ ?_ | refine Below.drew ?_ | refine Below_alloc ?_ _ | refine Below.alloc ?_ (by first | (simp; done) | (simp; omega) | omega) _ | refine Below.setCell ?_ (by first | (simp; done) | (simp; omega) | omega) _ | refine Below_call ?_ (by assumption) | refine Below.trans ?_ (by assumption)))))
  · have HE : Hid (¬ firstNZ (limE T h r) = 0) := hid he
    have he' : (firstNZ [trErr T, hitErr T h, rskErr r] != 0) = true := by simpa using he
    clear he
    go_enter Try.func47, Try.ntmps47
    go_wp2_with (first | (go_at_call 90; refine (blind_trialsErr _ _).mono ?_; rintro _ _ ⟨rfl, rfl⟩) | (go_at_call 104; refine (blind_hitsErr _ _ _).mono ?_; rintro _ _ ⟨rfl, rfl⟩) | (go_at_call 101; refine (blind_riskErr _ _).mono ?_; rintro _ _ ⟨rfl, rfl⟩) | (go_at_call 75; refine (blind_first [trErr T, hitErr T h, rskErr r] _ _ (intsAt_new _ _ _ _ _ rfl (by simp) (by simp))).mono ?_; rintro _ _ ⟨rfl, rfl⟩))
    ((try simp only [Exit.inBlock, Exit.then]); refine bodyPost_ret (v := .tuple #[.agg #[.int .i64 0, .int .i64 0], .int .i64 (firstNZ [trErr T, hitErr T h, rskErr r])]) ?_ rfl ?_; (next => simp [results, Try.results47, go_sem]); refine ⟨?_, ?_⟩; (next => simp only [limForV, limErr, if_neg HE.out]; rfl); (next => (repeat (with_reducible first | exact Below.refl _ _ | assumption | refine Below.drewN _ ?_ | refine Below.drew ?_ | refine Below_alloc ?_ _ | refine Below.alloc ?_ (by first | (simp; done) | (simp; omega) | omega) _ | refine Below.setCell ?_ (by first | (simp; done) | (simp; omega) | omega) _ | refine Below_call ?_ (by assumption) | refine Below.trans ?_ (by assumption)))))

/-- the limits of a count contain a share. -/
def covB (T S r : Int) (h : Nat) : Bool := (limHi T h r 11 != -1) && inB S (limLo T h r 11) (limHi T h r 11)
/-- the sequences with a count below n whose limits contain a share. -/
def cov (T S r : Int) : Nat → Int
  | 0 => 0
  | n + 1 => cov T S r n + (if covB T S r n = true then exI T n S else 0)
theorem exI_nonneg (T H S : Int) : 0 ≤ exI T H S := by unfold exI; omega
theorem cov_bound (T S r : Int) (n : Nat) : 0 ≤ cov T S r n ∧ cov T S r n ≤ (sumFrom (ex S.toNat (10 - S.toNat) T.toNat) 0 n : Nat) := by
  induction n with
  | zero => simp [cov, sumFrom]
  | succ n ih =>
    have h1 := exI_nonneg T n S
    have h2 : exI T n S = (ex S.toNat (10 - S.toNat) T.toNat n : Nat) := by simp [exI]
    simp only [cov, sumFrom, Nat.zero_add]
    split <;> omega
theorem cov_le {T S : Int} (r : Int) {n : Nat} (h0 : 0 ≤ T) (h1 : T ≤ 12) (h3 : S ≤ 10) (hn : n ≤ T.toNat + 1) : 0 ≤ cov T S r n ∧ cov T S r n ≤ 1000000000000 := by
  have h4 := cov_bound T S r n
  have h5 := sumFrom_le (f := ex S.toNat (10 - S.toNat) T.toNat) (a := 0) hn
  have h6 := waysN_zero (s := S.toNat) (t := T.toNat) (by omega)
  have h7 := ten_le (t := T.toNat) (by omega)
  unfold waysN at h6
  rw [show T.toNat + 1 - 0 = T.toNat + 1 from rfl] at h6
  omega

def covE (T S r : Int) : List Int := [trErr T, tenErr S, rskErr r]
def covV (T S r : Int) : Value := .tuple #[.int .i64 (if firstNZ (covE T S r) = 0 then cov T S r (T.toNat + 1) else 0), .int .i64 (firstNZ (covE T S r))]

set_option maxRecDepth 100000 in
set_option maxHeartbeats 1000000 in
theorem blind_CoverageOf (T S r : Int) (w : World) : Calls Try.prog 43 #[.int .i64 T, .int .i64 S, .int .i64 r] w fun e w' => e = .returned (covV T S r) ∧ Below w.heap.size w w' := by
  by_cases he : firstNZ [trErr T, tenErr S, rskErr r] = 0
  · have HE : Hid (firstNZ (covE T S r) = 0) := hid he
    have h2 := firstNZ_zero.1 he
    have h3 := trErr_ok (h2 (trErr T) (by simp))
    have h4 := tenErr_ok (h2 (tenErr S) (by simp))
    have h5 := rskErr_ok (h2 (rskErr r) (by simp))
    have he' : (firstNZ [trErr T, tenErr S, rskErr r] != 0) = false := by simpa using he
    clear he h2
    obtain ⟨t, rfl⟩ := Int.eq_ofNat_of_zero_le (show 0 ≤ T by omega)
    go_enter Try.func43, Try.ntmps43
    go_wp2_with (first | (go_at_call 90; refine (blind_trialsErr _ _).mono ?_; rintro _ _ ⟨rfl, rfl⟩) | (go_at_call 100; refine (blind_tenthsErr _ _).mono ?_; rintro _ _ ⟨rfl, rfl⟩) | (go_at_call 101; refine (blind_riskErr _ _).mono ?_; rintro _ _ ⟨rfl, rfl⟩) | (go_at_call 75; refine (blind_first [trErr t, tenErr S, rskErr r] _ _ (intsAt_new _ _ _ _ _ rfl (by simp) (by simp))).mono ?_; rintro _ _ ⟨rfl, rfl⟩))
    go_loopw [9, 26] (fun s i wr => ∃ n : Nat, n ≤ t + 1 ∧ s = .int .i64 (cov t S r n) ∧ i = .int .i64 n ∧ Below w.heap.size w wr) (fun _ i _ => t + 1 - (intOf i).toNat)
    case atStart => exact ⟨0, by omega, rfl, rfl, by (repeat (with_reducible first | exact Below.refl _ _ | assumption | refine Below.drewN _ ?_ | refine Below.drew ?_ | refine Below_alloc ?_ _ | refine Below.alloc ?_ (by first | (simp; done) | (simp; omega) | omega) _ | refine Below.setCell ?_ (by first | (simp; done) | (simp; omega) | omega) _ | refine Below_call ?_ (by assumption) | refine Below.trans ?_ (by assumption)))⟩
    case round =>
      obtain ⟨n, hn, rfl, rfl, hbel⟩ := hrel
      have hcb := cov_le (T := t) (S := S) r (n := n) (by omega) (by omega) (by omega) (by simp; omega)
      by_cases hlt : n < t + 1
      · have hcb1 := cov_le (T := t) (S := S) r (n := n + 1) (by omega) (by omega) (by omega) (by simp; omega)
        by_cases hh : limHi t n r 11 = -1
        · have HV := hid (limV_no hh)
          have HC : Hid (cov t S r (n + 1) = cov t S r n) := hid (by simp [cov, covB, hh])
          clear hh hcb1
          go_wp2_with (first | (go_at_call 102; refine ((by rw [← HV.out]; exact blind_limits _ _ _ _ (by omega) (by omega) (by omega) (by omega) : Calls Try.prog 102 #[.int .i64 t, .int .i64 n, .int .i64 r] _ fun e w' => e = .returned (.tuple #[.agg #[.int .i64 0, .int .i64 0], .bool false]) ∧ Below _ _ w')).mono ?_; rintro _ w1 ⟨rfl, hb1⟩; obtain ⟨hc1, hf1⟩ := bcell hb1; have hz1 := hb1.size; (try simp only [World.size_alloc, World.heap_drewN] at hz1)))
          go_roundw
          case rel => exact ⟨n + 1, by omega, by rw [HC.out], by go_num, by (repeat (with_reducible first | exact Below.refl _ _ | assumption | refine Below.drewN _ ?_ | refine Below.drew ?_ | refine Below_alloc ?_ _ | refine Below.alloc ?_ (by first | (simp; done) | (simp; omega) | omega) _ | refine Below.setCell ?_ (by first | (simp; done) | (simp; omega) | omega) _ | refine Below_call ?_ (by assumption) | refine Below.trans ?_ (by assumption)))⟩
          case measure => simp [intOf]; omega
        · have HV := hid (limV_yes hh)
          cases hi : inB S (limLo t n r 11) (limHi t n r 11)
          · have HC : Hid (cov t S r (n + 1) = cov t S r n) := hid (by simp [cov, covB, hi])
            clear hh hcb1
            go_wp2_with (first | (go_at_call 102; refine ((by rw [← HV.out]; exact blind_limits _ _ _ _ (by omega) (by omega) (by omega) (by omega) : Calls Try.prog 102 #[.int .i64 t, .int .i64 n, .int .i64 r] _ fun e w' => e = .returned (.tuple #[.agg #[.int .i64 (limLo t n r 11), .int .i64 (limHi t n r 11)], .bool true]) ∧ Below _ _ w')).mono ?_; rintro _ w1 ⟨rfl, hb1⟩; obtain ⟨hc1, hf1⟩ := bcell hb1; have hz1 := hb1.size; (try simp only [World.size_alloc, World.heap_drewN] at hz1)) | (go_at_call 77; refine (blind_within _ _ _ _).mono ?_; rintro _ _ ⟨rfl, rfl⟩))
            go_roundw
            case rel => exact ⟨n + 1, by omega, by rw [HC.out], by go_num, by (repeat (with_reducible first | exact Below.refl _ _ | assumption | refine Below.drewN _ ?_ | refine Below.drew ?_ | refine Below_alloc ?_ _ | refine Below.alloc ?_ (by first | (simp; done) | (simp; omega) | omega) _ | refine Below.setCell ?_ (by first | (simp; done) | (simp; omega) | omega) _ | refine Below_call ?_ (by assumption) | refine Below.trans ?_ (by assumption)))⟩
            case measure => simp [intOf]; omega
          · have HC : Hid (cov t S r (n + 1) = cov t S r n + exI t n S) := hid (by simp [cov, covB, hi, hh])
            have hcb2 : 0 ≤ cov t S r n + exI t n S ∧ cov t S r n + exI t n S ≤ 1000000000000 := by rw [← HC.out]; exact hcb1
            clear hh hcb1
            go_wp2_with (first | (go_at_call 102; refine ((by rw [← HV.out]; exact blind_limits _ _ _ _ (by omega) (by omega) (by omega) (by omega) : Calls Try.prog 102 #[.int .i64 t, .int .i64 n, .int .i64 r] _ fun e w' => e = .returned (.tuple #[.agg #[.int .i64 (limLo t n r 11), .int .i64 (limHi t n r 11)], .bool true]) ∧ Below _ _ w')).mono ?_; rintro _ w1 ⟨rfl, hb1⟩; obtain ⟨hc1, hf1⟩ := bcell hb1; have hz1 := hb1.size; (try simp only [World.size_alloc, World.heap_drewN] at hz1)) | (go_at_call 77; refine (blind_within _ _ _ _).mono ?_; rintro _ _ ⟨rfl, rfl⟩) | (go_at_call 103; refine (blind_exactly _ _ _ _ (by omega) (by omega) (by omega) (by omega) (by omega)).mono ?_; rintro _ _ ⟨rfl, rfl⟩))
            go_roundw
            case rel => exact ⟨n + 1, by omega, by rw [HC.out], by go_num, by (repeat (with_reducible first | exact Below.refl _ _ | assumption | refine Below.drewN _ ?_ | refine Below.drew ?_ | refine Below_alloc ?_ _ | refine Below.alloc ?_ (by first | (simp; done) | (simp; omega) | omega) _ | refine Below.setCell ?_ (by first | (simp; done) | (simp; omega) | omega) _ | refine Below_call ?_ (by assumption) | refine Below.trans ?_ (by assumption)))⟩
            case measure => simp [intOf]; omega
      · have hnt : n = t + 1 := by omega
        subst hnt
        go_wp2_with fail
        go_ret2
        exact ⟨by simp [covV, HE.out], by (repeat (with_reducible first | exact Below.refl _ _ | assumption | refine Below.drewN _ ?_ | refine Below.drew ?_ | refine Below_alloc ?_ _ | refine Below.alloc ?_ (by first | (simp; done) | (simp; omega) | omega) _ | refine Below.setCell ?_ (by first | (simp; done) | (simp; omega) | omega) _ | refine Below_call ?_ (by assumption) | refine Below.trans ?_ (by assumption)))⟩
  · have HE : Hid (¬ firstNZ (covE T S r) = 0) := hid he
    have he' : (firstNZ [trErr T, tenErr S, rskErr r] != 0) = true := by simpa using he
    clear he
    go_enter Try.func43, Try.ntmps43
    go_wp2_with (first | (go_at_call 90; refine (blind_trialsErr _ _).mono ?_; rintro _ _ ⟨rfl, rfl⟩) | (go_at_call 100; refine (blind_tenthsErr _ _).mono ?_; rintro _ _ ⟨rfl, rfl⟩) | (go_at_call 101; refine (blind_riskErr _ _).mono ?_; rintro _ _ ⟨rfl, rfl⟩) | (go_at_call 75; refine (blind_first [trErr T, tenErr S, rskErr r] _ _ (intsAt_new _ _ _ _ _ rfl (by simp) (by simp))).mono ?_; rintro _ _ ⟨rfl, rfl⟩))
    go_ret2
    exact ⟨by simp only [covV, if_neg HE.out]; rfl, by (repeat (with_reducible first | exact Below.refl _ _ | assumption | refine Below.drewN _ ?_ | refine Below.drew ?_ | refine Below_alloc ?_ _ | refine Below.alloc ?_ (by first | (simp; done) | (simp; omega) | omega) _ | refine Below.setCell ?_ (by first | (simp; done) | (simp; omega) | omega) _ | refine Below_call ?_ (by assumption) | refine Below.trans ?_ (by assumption)))⟩

end Go.Proofs.Ytllddidjiabegaa
