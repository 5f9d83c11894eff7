/- Contracts of chances. -/
import Derived.Test.YtllddidjiabegaaC
set_option linter.unusedVariables false
set_option linter.unusedSimpArgs false
namespace Go.Proofs.Ytllddidjiabegaa
open Go.RowKit

/-- two numbers as a struct. -/
def pair (a b : Int) : Value := .agg #[.int .i64 a, .int .i64 b]

def caseNum (all sel ins cnt : Int) : Int := lowNum (chWays all sel ins cnt) (chI all sel)
def caseDen (all sel ins cnt : Int) : Int := lowDen (chWays all sel ins cnt) (chI all sel)

set_option maxHeartbeats 1000000 in
theorem blind_chance (all sel ins cnt : Int) (w : World) (h1 : 0 ≤ all) (h1' : all ≤ 30) (h2 : 0 ≤ sel) (h2' : sel ≤ all) (h3 : 0 ≤ ins) (h3' : ins ≤ all) (h4 : 0 ≤ cnt) (h4' : cnt ≤ all) :
    Calls Try.prog 88 #[.agg #[.int .i64 all, .int .i64 sel, .int .i64 ins, .int .i64 cnt]] w fun e w' =>
      e = .returned (.agg #[.int .i64 (caseNum all sel ins cnt), .int .i64 (caseDen all sel ins cnt)]) ∧ Below w.heap.size w w' := by
  have hW := chWays_bound (cnt := cnt) h1' h3' h3 h2' h4
  have hA : 1 ≤ chI all sel := by simp only [chI]; rw [if_pos ⟨h2, h2'⟩]; have := ch_pos (n := all.toNat) (k := sel.toNat) (by omega); omega
  have hA2 := chI_le (k := sel) h1'
  go_enter Try.func88, Try.ntmps88
  go_wp2_with fail
  go_loopw [3, 4] (fun o i wr => ∃ j : Nat, j ≤ (sel + 1 - cnt).toNat ∧ o = .int .i64 (sumI (chTerm all sel ins) cnt j) ∧ i = .int .i64 (cnt + j) ∧ ∃ m, wr = ((w.alloc (.cells #[.int .i64 all, .int .i64 sel, .int .i64 ins, .int .i64 cnt] 46)).alloc (.cells #[.int .i64 0, .int .i64 0] 48)).drewN m) (fun _ i _ => (sel + 1 - intOf i).toNat)
  case atStart => exact ⟨0, Nat.zero_le _, rfl, by simp, 0, rfl⟩
  case round =>
    obtain ⟨j, hj, rfl, rfl, m, rfl⟩ := hrel
    by_cases hlt : cnt + (j : Int) ≤ sel
    · have b1 := sumI_bound (f := chTerm all sel ins) cnt j (chTerm_bound h1' h3' h3)
      have b2 := chTerm_bound (sel := sel) h1' h3' h3 (cnt + j)
      have b3 : 0 ≤ chI ins (cnt + j) * chI (all - ins) (sel - (cnt + j)) := b2.1
      have b4 : chI ins (cnt + j) * chI (all - ins) (sel - (cnt + j)) ≤ 1073741824 := b2.2
      have b5 : 0 ≤ sumI (chTerm all sel ins) cnt j := b1.1
      have b6 : sumI (chTerm all sel ins) cnt j ≤ 33285996544 := by omega
      clear b1 b2
      go_wp2_with fail
      ((refine wp_three [] [0, 1, 2, 3, 4, 5, 6, 7, 8, 9, 10, 11, 12, 13, 14, 15, 16] 17 (by kernel_rfl) (by kernel_rfl) ?_); (intro _ _); (simp only [pick, List.drop_succ_cons, List.drop_zero, List.head?_cons, Option.toList_some, List.cons_append, List.nil_append]); (repeat (first | (go_big_quiet_step ((go_at_call 130; exact quiet_same (blind_choose _ _ _ (by omega) (by omega) (by omega) (by omega)) ⟨_, rfl⟩))) | (quiet_step ((go_at_call 130; exact quiet_same (blind_choose _ _ _ (by omega) (by omega) (by omega) (by omega)) ⟨_, rfl⟩))))); (try refine wpQuiet_nil ?_); (repeat (first | (go_big_quiet_step ((go_at_call 130; exact quiet_same (blind_choose _ _ _ (by omega) (by omega) (by omega) (by omega)) ⟨_, rfl⟩))) | (quiet_step ((go_at_call 130; exact quiet_same (blind_choose _ _ _ (by omega) (by omega) (by omega) (by omega)) ⟨_, rfl⟩))))); (try refine wpQuiet_nil ?_); (intro nq))
      go_wp2
      go_roundw
      case rel => exact ⟨j + 1, by omega, rfl, by go_num, m + nq, by simp⟩
      case measure => simp [intOf]; omega
    · have HN : Hid (sumI (chTerm all sel ins) cnt j = chWays all sel ins cnt) := hid (by unfold chWays; rw [show j = (sel + 1 - cnt).toNat from by omega])
      rw [HN.out]
      have hg0 : 0 < Int.gcd (chWays all sel ins cnt) (chI all sel) := Nat.pos_of_ne_zero (by rw [Ne, Int.gcd_eq_zero_iff]; omega)
      have hg : 1 ≤ (Int.gcd (chWays all sel ins cnt) (chI all sel) : Int) := by omega
      go_wp2_with (first | (go_at_call 130; refine (blind_choose _ _ _ (by omega) (by omega) (by omega) (by omega)).mono ?_; rintro _ _ ⟨rfl, rfl⟩) | (go_at_call 89; refine (blind_divisor _ _ _ (by omega) (by omega) (by omega) (by omega)).mono ?_; rintro _ _ ⟨rfl, m2, rfl⟩))
      ((refine wp_three [] [0, 1, 2, 3, 4, 5, 6] 7 (by kernel_rfl) (by kernel_rfl) ?_); (intro _ _); (simp only [pick, List.drop_succ_cons, List.drop_zero, List.head?_cons, Option.toList_some, List.cons_append, List.nil_append]); (repeat (first | (go_big_quiet_step (fail)) | (quiet_step (fail)))); (try refine wpQuiet_nil ?_); (repeat (first | (go_big_quiet_step (fail)) | (quiet_step (fail)))); (try refine wpQuiet_nil ?_); (intro nq))
      go_wp2
      ((try simp only [Exit.inBlock, Exit.then]); refine bodyPost_ret (v := .agg #[.int .i64 (chWays all sel ins cnt / (Int.gcd (chWays all sel ins cnt) (chI all sel) : Int)), .int .i64 (chI all sel / (Int.gcd (chWays all sel ins cnt) (chI all sel) : Int))]) ?_ rfl ?_; (next => simp [results, Try.results88, go_sem]); refine ⟨?_, ?_⟩; (next => rfl); (next => (repeat (with_reducible first | exact Below.refl _ _ | assumption | refine Below.drewN _ ?_ | refine Below.drew ?_ | refine Below_alloc ?_ _ | refine Below.alloc ?_ (by first | (simp; done) | (simp; omega) | omega) _ | refine Below.setCell ?_ (by first | (simp; done) | (simp; omega) | omega) _ | refine Below_call ?_ (by assumption) | refine Below.trans ?_ (by assumption)))))

def caseB (all sel ins cnt : Int) : Bool := inB all 0 30 && inB sel 0 all && inB ins 0 all && inB cnt 0 all
theorem caseB_spec {all sel ins cnt : Int} (h : caseB all sel ins cnt = true) : (0 ≤ all ∧ all ≤ 30) ∧ (0 ≤ sel ∧ sel ≤ all) ∧ (0 ≤ ins ∧ ins ≤ all) ∧ (0 ≤ cnt ∧ cnt ≤ all) := by
  simp only [caseB, Bool.and_eq_true, inB_true] at h; exact ⟨h.1.1.1, h.1.1.2, h.1.2, h.2⟩
def caseV (all sel ins cnt : Int) : Value := .agg #[.int .i64 all, .int .i64 sel, .int .i64 ins, .int .i64 cnt]

theorem blind_ChanceOf1 (n all sel ins cnt : Int) (b : Nat) (w : World) (h : w.cell? ⟨b, 0, none⟩ = some (.int .i64 all)) :
    Calls Try.prog 87 #[.int .i64 n, .pointer (some ⟨b, 0, none⟩)] w fun e w' => e = .returned (.bool (inB n 0 all)) ∧ w = w' := by
  go_enter Try.func87, Try.ntmps87
  go_wp2_with (go_at_call 77; refine (blind_within _ _ _ _).mono ?_; rintro _ _ ⟨rfl, rfl⟩)
  go_ret; exact ⟨rfl, rfl⟩

def chanceV (all sel ins cnt : Int) : Value := .tuple #[if caseB all sel ins cnt = true then pair (caseNum all sel ins cnt) (caseDen all sel ins cnt) else pair 0 0, .int .i64 (unl (caseB all sel ins cnt) 2)]
theorem chanceV_no {all sel ins cnt : Int} (h : caseB all sel ins cnt = false) : chanceV all sel ins cnt = .tuple #[.agg #[.int .i64 0, .int .i64 0], .int .i64 2] := by simp [chanceV, h, unl, pair]
theorem chanceV_yes {all sel ins cnt : Int} (h : caseB all sel ins cnt = true) : chanceV all sel ins cnt = .tuple #[.agg #[.int .i64 (caseNum all sel ins cnt), .int .i64 (caseDen all sel ins cnt)], .int .i64 0] := by simp [chanceV, h, unl, pair]

set_option maxHeartbeats 1000000 in
theorem blind_ChanceOf (all sel ins cnt : Int) (w : World) :
    Calls Try.prog 24 #[caseV all sel ins cnt] w fun e w' =>
      e = .returned (chanceV all sel ins cnt) ∧ Below w.heap.size w w' := by
  unfold caseV
  go_enter Try.func24, Try.ntmps24
  go_wp2_with (first | (go_at_call 77; refine (blind_within _ _ _ _).mono ?_; rintro _ _ ⟨rfl, rfl⟩) | (go_at_call 87; refine (blind_ChanceOf1 _ all sel ins cnt _ _ (by simp)).mono ?_; rintro _ _ ⟨rfl, rfl⟩) | (go_at_call 88; have hcs := caseB_spec (all := all) (sel := sel) (ins := ins) (cnt := cnt) (by simp_all [caseB]); refine (blind_chance all sel ins cnt _ hcs.1.1 hcs.1.2 hcs.2.1.1 hcs.2.1.2 hcs.2.2.1.1 hcs.2.2.1.2 hcs.2.2.2.1 hcs.2.2.2.2).mono ?_; rintro _ w1 ⟨rfl, hb1⟩; obtain ⟨hc1, hf1⟩ := bcell hb1; have hz1 := hb1.size; simp only [World.size_alloc] at hz1))
  all_goals (try simp only [Bool.not_eq_true', Bool.not_eq_false', Bool.not_eq_true, Bool.not_eq_false] at *)
  all_goals first
    | ((try simp only [Exit.inBlock, Exit.then]); refine bodyPost_ret (v := .tuple #[.agg #[.int .i64 0, .int .i64 0], .int .i64 2]) ?_ rfl ?_; (next => simp [results, Try.results24, go_sem]); refine ⟨?_, ?_⟩; (next => rw [chanceV_no]; simp only [caseB]; simp [*]); (next => (repeat (with_reducible first | exact Below.refl _ _ | assumption | refine Below.drewN _ ?_ | refine Below.drew ?_ | refine Below_alloc ?_ _ | refine Below.alloc ?_ (by first | (simp; done) | (simp; omega) | omega) _ | refine Below.setCell ?_ (by first | (simp; done) | (simp; omega) | omega) _ | refine Below_call ?_ (by assumption) | refine Below.trans ?_ (by assumption)))))
    | ((try simp only [Exit.inBlock, Exit.then]); refine bodyPost_ret (v := .tuple #[.agg #[.int .i64 (caseNum all sel ins cnt), .int .i64 (caseDen all sel ins cnt)], .int .i64 0]) ?_ rfl ?_; (next => simp [results, Try.results24, go_sem, hc1, hz1]); refine ⟨?_, ?_⟩; (next => rw [chanceV_yes]; simp only [caseB]; simp [*]); (next => (repeat (with_reducible first | exact Below.refl _ _ | assumption | refine Below.drewN _ ?_ | refine Below.drew ?_ | refine Below_alloc ?_ _ | refine Below.alloc ?_ (by first | (simp; done) | (simp; omega) | omega) _ | refine Below.setCell ?_ (by first | (simp; done) | (simp; omega) | omega) _ | refine Below_call ?_ (by assumption) | refine Below.trans ?_ (by assumption)))))

end Go.Proofs.Ytllddidjiabegaa
