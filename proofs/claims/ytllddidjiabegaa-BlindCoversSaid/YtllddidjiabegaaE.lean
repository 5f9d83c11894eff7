/- Contracts of the reference's chances, and of trials. -/
import Derived.Test.YtllddidjiabegaaD
set_option linter.unusedVariables false
set_option linter.unusedSimpArgs false
namespace Go.Proofs.Ytllddidjiabegaa
open Go.RowKit

def caseErrS (all sel ins cnt : Int) : Int := unl (caseB all sel ins cnt) 2

theorem ref_CaseErr (all sel ins cnt : Int) (w : World) :
    Calls Try.prog 26 #[caseV all sel ins cnt] w fun e w' => e = .returned (.int .i64 (caseErrS all sel ins cnt)) ∧ Below w.heap.size w w' := by
  unfold caseV
  go_enter Try.func26, Try.ntmps26
  go_wp2_with (first | (go_at_call 44; refine (base_Within _ _ _ _).mono ?_; rintro _ _ ⟨rfl, rfl⟩))
  all_goals (try simp only [Bool.not_eq_true', Bool.not_eq_false', Bool.not_eq_true, Bool.not_eq_false] at *)
  all_goals
    go_ret
    refine ⟨ret_int ?_, by (repeat (with_reducible first | exact Below.refl _ _ | assumption | refine Below.drewN _ ?_ | refine Below.drew ?_ | refine Below_alloc ?_ _ | refine Below.alloc ?_ (by first | (simp; done) | (simp; omega) | omega) _ | refine Below.setCell ?_ (by first | (simp; done) | (simp; omega) | omega) _ | refine Below_call ?_ (by assumption) | refine Below.trans ?_ (by assumption)))⟩
    simp only [caseErrS, caseB, unl]; simp [*]

theorem base_Gcd (a b : Int) (w : World) (h : -9223372036854775808 ≤ a) (h' : a ≤ 9223372036854775807) (hb : 0 < b) (hb' : b ≤ 9223372036854775807) :
    Calls Try.prog 92 #[.int .i64 a, .int .i64 b] w fun e w' => e = .returned (.int .i64 (Int.gcd a b : Nat)) ∧ ∃ m, w' = w.drewN m := by
  obtain ⟨g, hg⟩ : ∃ g, g = Int.gcd a b := ⟨_, rfl⟩
  have HG := hid hg
  clear hg
  go_enter Try.func92, Try.ntmps92
  go_wp2_with fail
  go_loopw [0, 1] (fun x y wr => ∃ p q : Int, x = .int .i64 p ∧ y = .int .i64 q ∧ Hid (g = Int.gcd p q) ∧ -9223372036854775808 ≤ p ∧ p ≤ 9223372036854775807 ∧ -9223372036854775807 ≤ q ∧ q ≤ 9223372036854775807 ∧ (q = 0 → -9223372036854775807 ≤ p) ∧ ∃ m, wr = w.drewN m) (fun _ y _ => (intOf y).natAbs)
  case atStart => exact ⟨a, b, rfl, rfl, HG, h, h', by omega, hb', by omega, 0, rfl⟩
  case round =>
    obtain ⟨p, q, rfl, rfl, hG, p1, p2, q1, q2, hq, m, rfl⟩ := hrel
    by_cases hz : q = 0
    · subst hz
      go_wp2_with (go_at_call 131; refine (base_Size _ _ (by omega) (by omega)).mono ?_; rintro _ _ ⟨rfl, rfl⟩)
      go_ret
      refine ⟨ret_int ?_, m, rfl⟩
      rw [HG.out.symm, hG.out, Int.gcd_zero_right]
    · have hz' : (q != 0) = true := by simpa using hz
      have HT := hid (tmod_abs p q hz)
      have HT2 := hid (gcd_tmod p q)
      go_wp2_with fail
      go_quiet (fail)
      go_wp2
      go_roundw
      case rel => exact ⟨q, p.tmod q, rfl, rfl, hid (by rw [HT2.out]; exact hG.out), by omega, by omega, by have := HT.out; omega, by have := HT.out; omega, by omega, m + nq, by simp⟩
      case measure => simp only [intOf]; exact HT.out

theorem base_Lowest (n d : Int) (w : World) (h0 : 0 ≤ n) (h1 : n ≤ 9223372036854775807) (h2 : 0 < d) (h3 : d ≤ 9223372036854775807) :
    Calls Try.prog 72 #[.int .i64 n, .int .i64 d] w fun e w' => e = .returned (.agg #[.int .i64 (lowNum n d), .int .i64 (lowDen n d)]) ∧ Below w.heap.size w w' := by
  have hg0 : 0 < Int.gcd n d := Nat.pos_of_ne_zero (by rw [Ne, Int.gcd_eq_zero_iff]; omega)
  have hg : 1 ≤ (Int.gcd n d : Int) := by omega
  go_enter Try.func72, Try.ntmps72
  go_wp2_with (go_at_call 92; refine (base_Gcd _ _ _ (by omega) (by omega) (by omega) (by omega)).mono ?_; rintro _ _ ⟨rfl, m2, rfl⟩)
  ((refine wp_three [] [0, 1, 2, 3, 4, 5, 6] 7 (by kernel_rfl) (by kernel_rfl) ?_); (intro _ _); (simp only [pick, List.drop_succ_cons, List.drop_zero, List.head?_cons, Option.toList_some, List.cons_append, List.nil_append]); (repeat (first | (go_big_quiet_step (fail)) | (quiet_step (fail)))); (try refine wpQuiet_nil ?_); (repeat (first | (go_big_quiet_step (fail)) | (quiet_step (fail)))); (try refine wpQuiet_nil ?_); (intro nq))
  go_wp2
  ((try simp only [Exit.inBlock, Exit.then]); refine bodyPost_ret (v := .agg #[.int .i64 (n / (Int.gcd n d : Int)), .int .i64 (d / (Int.gcd n d : Int))]) ?_ rfl ?_; (next => simp [results, Try.results72, go_sem]); refine ⟨?_, ?_⟩; (next => rfl); (next => (repeat (with_reducible first | exact Below.refl _ _ | assumption | refine Below.drewN _ ?_ | refine Below.drew ?_ | refine Below_alloc ?_ _ | refine Below.alloc ?_ (by first | (simp; done) | (simp; omega) | omega) _ | refine Below.setCell ?_ (by first | (simp; done) | (simp; omega) | omega) _ | refine Below_call ?_ (by assumption) | refine Below.trans ?_ (by assumption)))))

/-- in every world that has grown. -/
theorem quiet_below {P : Program} {f : FuncId} {args : Array Value} {W w0 : World} {B : Nat} {v : Value}
    (h : Calls P f args W fun e w' => e = .returned v ∧ Below W.heap.size W w') (hB : Below B w0 W) (hs : B ≤ W.heap.size) : Calls P f args W fun e w'' => e = .returned v ∧ Below B w0 w'' :=
  h.mono fun _ _ ⟨he, hb⟩ => ⟨he, hB.trans (hb.mono hs)⟩

set_option maxHeartbeats 1000000 in
theorem ref_Chance (all sel ins cnt : Int) (w : World) (h1 : 0 ≤ all) (h1' : all ≤ 30) (h2 : 0 ≤ sel) (h2' : sel ≤ all) (h3 : 0 ≤ ins) (h3' : ins ≤ all) (h4 : 0 ≤ cnt) (h4' : cnt ≤ all) :
    Calls Try.prog 27 #[caseV all sel ins cnt] w fun e w' => e = .returned (.agg #[.int .i64 (caseNum all sel ins cnt), .int .i64 (caseDen all sel ins cnt)]) ∧ Below w.heap.size w w' := by
  have hW := chWays_bound (cnt := cnt) h1' h3' h3 h2' h4
  have hA : 1 ≤ chI all sel := by simp only [chI]; rw [if_pos ⟨h2, h2'⟩]; have := ch_pos (n := all.toNat) (k := sel.toNat) (by omega); omega
  have hA2 := chI_le (k := sel) h1'
  unfold caseV
  go_enter Try.func27, Try.ntmps27
  go_wp2_with fail
  obtain ⟨W0, hW0⟩ : ∃ W0, W0 = (w.alloc (.cells #[.int .i64 all, .int .i64 sel, .int .i64 ins, .int .i64 cnt] 46)).alloc (.cells #[.int .i64 0, .int .i64 0] 48) := ⟨_, rfl⟩
  have c0 : W0.cell? ⟨w.heap.size, 0, none⟩ = some (.int .i64 all) := by rw [hW0]; simp
  have c1 : W0.cell? ⟨w.heap.size, 1, none⟩ = some (.int .i64 sel) := by rw [hW0]; simp
  have c2 : W0.cell? ⟨w.heap.size, 2, none⟩ = some (.int .i64 ins) := by rw [hW0]; simp
  have c3 : W0.cell? ⟨w.heap.size, 3, none⟩ = some (.int .i64 cnt) := by rw [hW0]; simp
  have r0 : W0.cell? ⟨w.heap.size + 1, 0, none⟩ = some (.int .i64 0) := by rw [hW0]; simp
  have r1 : W0.cell? ⟨w.heap.size + 1, 1, none⟩ = some (.int .i64 0) := by rw [hW0]; simp
  have f0 : W0.frozen? ⟨w.heap.size + 1, 0, none⟩ = false := by rw [hW0]; simp
  have f1 : W0.frozen? ⟨w.heap.size + 1, 1, none⟩ = false := by rw [hW0]; simp
  have hz0 : w.heap.size + 2 ≤ W0.heap.size := by rw [hW0]; simp
  have hBW : Below w.heap.size w W0 := by rw [hW0]; (repeat (with_reducible first | exact Below.refl _ _ | assumption | refine Below.drewN _ ?_ | refine Below.drew ?_ | refine Below_alloc ?_ _ | refine Below.alloc ?_ (by first | (simp; done) | (simp; omega) | omega) _ | refine Below.setCell ?_ (by first | (simp; done) | (simp; omega) | omega) _ | refine Below_call ?_ (by assumption) | refine Below.trans ?_ (by assumption)))
  rw [← hW0]
  have HW0 := hid hW0
  clear hW0
  go_loopw [3, 4] (fun o i wr => ∃ j : Nat, j ≤ (all + 1 - cnt).toNat ∧ o = .int .i64 (sumI (chTerm all sel ins) cnt j) ∧ i = .int .i64 (cnt + j) ∧ Below W0.heap.size W0 wr) (fun _ i _ => (all + 1 - intOf i).toNat)
  case atStart => exact ⟨0, Nat.zero_le _, rfl, by simp, Below.refl _ _⟩
  case round =>
    obtain ⟨j, hj, rfl, rfl, hbel⟩ := hrel
    obtain ⟨hc, hf⟩ := bcell hbel
    have hz := hbel.size
    have d0 := (hc w.heap.size 0 (by omega)).trans c0
    have d1 := (hc w.heap.size 1 (by omega)).trans c1
    have d2 := (hc w.heap.size 2 (by omega)).trans c2
    have d3 := (hc w.heap.size 3 (by omega)).trans c3
    have e0 := (hc (w.heap.size + 1) 0 (by omega)).trans r0
    have e1 := (hc (w.heap.size + 1) 1 (by omega)).trans r1
    have g0 := (hf (w.heap.size + 1) 0 (by omega)).trans f0
    have g1 := (hf (w.heap.size + 1) 1 (by omega)).trans f1
    have hs0 : w.heap.size < wr.heap.size := by omega
    have hs1 : w.heap.size + 1 < wr.heap.size := by omega
    clear c0 c1 c2 c3 r0 r1 f0 f1 hc hf
    by_cases hlt : cnt + (j : Int) ≤ all
    · have b1 := sumI_bound (f := chTerm all sel ins) cnt j (chTerm_bound h1' h3' h3)
      have b2 := chTerm_bound (sel := sel) h1' h3' h3 (cnt + j)
      have b3 : 0 ≤ chI ins (cnt + j) * chI (all - ins) (sel - (cnt + j)) := b2.1
      have b4 : chI ins (cnt + j) * chI (all - ins) (sel - (cnt + j)) ≤ 1073741824 := b2.2
      have b5 : 0 ≤ sumI (chTerm all sel ins) cnt j := b1.1
      have b6 : sumI (chTerm all sel ins) cnt j ≤ 33285996544 := by omega
      clear b1 b2
      go_wp2_with fail
      ((refine wp_three_in (fun wc => Below wr.heap.size wr wc) [] [0, 1, 2, 3, 4, 5, 6, 7, 8, 9, 10, 11, 12, 13, 14, 15, 16] 17 (by kernel_rfl) (by kernel_rfl) ((Below.refl _ _).drew) ?_); (intro _ _); (simp only [pick, List.drop_succ_cons, List.drop_zero, List.head?_cons, Option.toList_some, List.cons_append, List.nil_append]); (repeat (first | go_big_quiet_skip | (go_big_quiet_want; refine quiet_simple rfl ?_; go_big_quiet_op; go_big_quiet_on) | (go_big_quiet_want; refine quiet_load rfl rfl Try.underlying3 (by assumption) (by first | omega | (simp; omega)) ?_; simp only [Act.put, List.setIfInBounds_toArray, List.set_cons_succ, List.set_cons_zero]; go_big_quiet_on) | (go_big_quiet_want; go_big_quiet_op; apply Exists.intro; refine ⟨fun wx hwx => ?_, ?_⟩; (focus ((go_at_call 91; exact quiet_below (ref_Choose _ _ _ (by omega)) hwx (by have := hwx.size; omega)))); go_big_quiet_on))); (try refine wpQuiet_nil ?_); (repeat (first | go_big_quiet_skip | (go_big_quiet_want; refine quiet_simple rfl ?_; go_big_quiet_op; go_big_quiet_on) | (go_big_quiet_want; refine quiet_load rfl rfl Try.underlying3 (by assumption) (by first | omega | (simp; omega)) ?_; simp only [Act.put, List.setIfInBounds_toArray, List.set_cons_succ, List.set_cons_zero]; go_big_quiet_on) | (go_big_quiet_want; go_big_quiet_op; apply Exists.intro; refine ⟨fun wx hwx => ?_, ?_⟩; (focus ((go_at_call 91; exact quiet_below (ref_Choose _ _ _ (by omega)) hwx (by have := hwx.size; omega)))); go_big_quiet_on))); (try refine wpQuiet_nil ?_); (intro wq hbq); obtain ⟨hcq, hfq⟩ := bcell hbq; have hzq := hbq.size)
      go_wp2
      go_roundw
      case rel => exact ⟨j + 1, by omega, rfl, by go_num, hbel.trans (hbq.mono hz)⟩
      case measure => simp [intOf]; omega
    · have HN : Hid (sumI (chTerm all sel ins) cnt j = chWays all sel ins cnt) := hid (by rw [← chWays_more h2', show j = (all + 1 - cnt).toNat from by omega])
      rw [HN.out]
      go_wp2_with (first | (go_at_call 91; refine (ref_Choose _ _ _ (by omega)).mono ?_; rintro _ w1 ⟨rfl, hb1⟩; obtain ⟨hc1, hf1⟩ := bcell hb1; have hz1 := hb1.size; (try simp only [World.size_alloc, World.heap_drewN] at hz1); have hk1_0 : w.heap.size + 1 < w1.heap.size := (by omega)) | (go_at_call 72; refine (base_Lowest _ _ _ (by omega) (by omega) (by omega) (by omega)).mono ?_; rintro _ w2 ⟨rfl, hb2⟩; obtain ⟨hc2, hf2⟩ := bcell hb2; have hz2 := hb2.size; (try simp only [World.size_alloc, World.heap_drewN] at hz2); have hk2_0 : w.heap.size + 1 < w2.heap.size := (by omega)))
      ((try simp only [Exit.inBlock, Exit.then]); refine bodyPost_ret (v := .agg #[.int .i64 (lowNum (chWays all sel ins cnt) (chI all sel)), .int .i64 (lowDen (chWays all sel ins cnt) (chI all sel))]) ?_ rfl ?_; (next => simp [results, Try.results27, go_sem, hc1, hc2, hk1_0, hk2_0, hs1, e0, e1]); refine ⟨?_, ?_⟩; (next => rfl); (next => (repeat (with_reducible first | exact Below.refl _ _ | assumption | refine Below.drewN _ ?_ | refine Below.drew ?_ | refine Below_alloc ?_ _ | refine Below.alloc ?_ (by first | (simp; done) | (simp; omega) | omega) _ | refine Below.setCell ?_ (by first | (simp; done) | (simp; omega) | omega) _ | refine Below_call ?_ (by assumption) | refine Below.trans ?_ (by assumption)))))
end Go.Proofs.Ytllddidjiabegaa
