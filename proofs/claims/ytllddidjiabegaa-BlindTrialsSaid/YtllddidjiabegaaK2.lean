/- Contracts of the reference's counting: rows of binomial numbers. -/
import Derived.Test.YtllddidjiabegaaK1
import Derived.Deep.RegionHeld3
import Derived.Deep.AppendLies
import Derived.Deep.LoopGhost
import Derived.Laws.CopyOwn
set_option linter.unusedVariables false
set_option linter.unusedSimpArgs false
namespace Go.Proofs.Ytllddidjiabegaa
open Go.RowKit

theorem elemInt : Elem Try.prog 33 3 1 8 := Elem.mk (z := .int .i64 0) Try.underlying33 (by kernel_rfl) rfl (by decide)
theorem infoInt : (Try.prog.info? 3).map (fun i => (i.zero, i.size, i.bytes)) = some (some (.int .i64 0), 1, 8) := by kernel_rfl

/-- row number n of the triangle. -/
def chRow (n : Nat) : List Int := (List.range (n + 1)).map fun k => (ch n k : Int)
theorem chRow_len (n : Nat) : (chRow n).length = n + 1 := by simp [chRow]
theorem chRow_getD {n k : Nat} (h : k ≤ n) : (chRow n).getD k 0 = (ch n k : Int) := by simp [chRow, List.getD, h, Nat.lt_succ_of_le h]

set_option maxHeartbeats 1000000 in
theorem ref_Choose (n k : Int) (w : World) (hn : n ≤ 30) :
    Calls Try.prog 91 #[.int .i64 n, .int .i64 k] w fun e w' => e = .returned (.int .i64 (chI n k)) ∧ Below w.heap.size w w' := by
  by_cases hk0 : k < 0
  · have hk0' : decide (k < 0) = true := by simpa using hk0
    have hr := hid (show chI n k = 0 by simp only [chI]; rw [if_neg (by omega)])
    go_enter Try.func91, Try.ntmps91
    go_wp2
    go_ret
    exact ⟨ret_int hr.out.symm, Below.refl _ _⟩
  by_cases hkn : n < k
  · have hr := hid (show chI n k = 0 by simp only [chI]; rw [if_neg (by omega)])
    go_enter Try.func91, Try.ntmps91
    go_wp2
    go_ret
    exact ⟨ret_int hr.out.symm, Below.refl _ _⟩
  obtain ⟨K, rfl⟩ := Int.eq_ofNat_of_zero_le (show 0 ≤ k by omega)
  obtain ⟨N, rfl⟩ := Int.eq_ofNat_of_zero_le (show 0 ≤ n by omega)
  obtain ⟨i0, hi, hz0, hz1, hz2⟩ := info_parts infoInt
  go_enter Try.func91, Try.ntmps91
  go_wp2_with fail
  go_loopw [5, 6] (fun v i wr => ∃ j : Nat, j ≤ N ∧ i = .int .i64 j ∧ wr.ownsRow w.heap.size 3 1 v (j + 1) ((chRow j).map (Value.int .i64)) ∧ Below w.heap.size w wr) (fun _ i _ => N - (intOf i).toNat)
  case atStart => exact ⟨0, Nat.zero_le _, rfl, ⟨by simp [chRow], Or.inr ⟨w.heap.size, 1, #[.int .i64 1], rfl, Nat.le_refl _, heap_alloc_new w _, by omega, by simp [maxLen], rfl, by simp [chRow, ch]⟩⟩, (Below.refl _ _).alloc (Nat.le_refl _) _⟩
  case round =>
    obtain ⟨j, hj, rfl, hown, hbel⟩ := hrel
    obtain ⟨g, cap, rfl, hg1, hg2, hcap, hcap2, hlen, hcell, hfro⟩ := ownsRow_open hown (by omega)
    unfold maxLen at hcap2
    by_cases hlt : j < N
    · go_wp2_with fail
      obtain ⟨wo, hwo⟩ : ∃ wo : World, wo = wr := ⟨_, rfl⟩
      go_loopw [7, 8] (fun v i w2 => ∃ m : Nat, m ≤ j ∧ i = .int .i64 ((m : Int) + 1) ∧ w2.ownsRow wo.heap.size 3 1 v (m + 1) (((chRow (j + 1)).take (m + 1)).map (Value.int .i64)) ∧ Below wo.heap.size wo w2) (fun _ i _ => (j + 1 : Nat) - (intOf i).toNat)
      case atStart =>
        subst hwo
        exact ⟨0, Nat.zero_le _, rfl, ⟨by simp [chRow], Or.inr ⟨wo.heap.size, 1, #[.int .i64 1], rfl, Nat.le_refl _, heap_alloc_new wo _, by omega, by simp [maxLen], rfl, by simp [chRow, List.range_succ_eq_map, ch_zero]⟩⟩, (Below.refl _ _).alloc (Nat.le_refl _) _⟩
      case round =>
        obtain ⟨m, hm, rfl, hown2, hbel2⟩ := hrel
        have hg3 : g < wo.heap.size := by rw [hwo]; exact hg2
        have hce : ∀ i, i < j + 1 → wr.cell? ⟨g, i, none⟩ = some (.int .i64 ((chRow j).getD i 0)) := fun i hi => by
          rw [← hcell i hi, ← hwo]; exact hbel2.cell (p := ⟨g, i, none⟩) hg3
        have HC := hid hce
        have hz := hbel2.size
        have HWO := hid hwo
        have HBEL := hid hbel
        clear hcell hce hfro hown hbel hwo
        by_cases hl2 : m < j
        · have c1 := HC.out m (by omega)
          have c2 := HC.out (m + 1) (by omega)
          rw [chRow_getD (by omega)] at c1 c2
          have hm0 : (0 : Int) ≤ (m : Int) := Int.natCast_nonneg _
          have hm1 : (m : Int) < ((j + 1 : Nat) : Int) := by omega
          have hm2 : (m : Int) + 1 < ((j + 1 : Nat) : Int) := by omega
          have s1 := ch_le_pow j m
          have s2 := ch_le_pow j (m + 1)
          have s3 : 2 ^ j ≤ 2 ^ 30 := Nat.pow_le_pow_right (by omega) (by omega)
          have s4 : ch j m ≤ 1073741824 := by omega
          have s5 : ch j (m + 1) ≤ 1073741824 := by omega
          clear s1 s2 s3
          go_wp2_with fail
          ((refine wp_three [0] [1, 2, 3, 4, 5, 6, 7, 8, 9, 10] 11 (by kernel_rfl) (by kernel_rfl) ?_); (intro _ _); (simp only [pick, List.drop_succ_cons, List.drop_zero, List.head?_cons, Option.toList_some, List.cons_append, List.nil_append]); (repeat (first | (go_big_quiet_step (fail)) | (quiet_step (fail)))); (try refine wpQuiet_nil ?_); (repeat (first | (go_big_quiet_step (fail)) | (quiet_step (fail)))); (try refine wpQuiet_nil ?_); (intro nq))
          go_wp2_with (at_builtin; refine wpList_push rfl _ _ _ rfl elemInt wo.heap.size u7 (m + 1) _ rfl (wr.drewN nq) (ownsRow_drewN nq hown2) [.int .i64 ((ch j m : Nat) + (ch j (m + 1) : Nat))] rfl (by simp [Value.oneCell']) rfl _ rfl rfl (by omega) (by unfold maxLen; omega) hz ?_; intro v1 w1 hown3 hb3 _ _)
          go_roundw
          case rel =>
            refine ⟨m + 1, by omega, by go_num, ?_, (Below.drewN nq hbel2).trans hb3⟩
            have e1 : (chRow (j + 1)).take (m + 1 + 1) = (chRow (j + 1)).take (m + 1) ++ [((ch j m : Nat) + (ch j (m + 1) : Nat) : Int)] := by
              rw [take_getD 0 (by rw [chRow_len]; omega), chRow_getD (by omega)]
              simp [ch]
            rw [e1, List.map_append]
            exact hown3
          case measure => simp [intOf]; omega
        · have hmj : m = j := by omega
          subst hmj
          go_wp2_with (at_builtin; refine wpList_push rfl _ _ _ rfl elemInt wo.heap.size u7 (m + 1) _ rfl wr hown2 [.int .i64 1] rfl (by simp [Value.oneCell']) rfl _ rfl rfl (by omega) (by unfold maxLen; omega) hz ?_; intro v1 w1 hown3 hb3 _ _)
          go_roundw
          case rel =>
            refine ⟨m + 1, by omega, by go_num, ?_, ?_⟩
            · have e1 : chRow (m + 1) = (chRow (m + 1)).take (m + 1) ++ [(1 : Int)] := by
                have h2 := cut_getD (l := chRow (m + 1)) (k := m + 1) 0 (by rw [chRow_len]; omega)
                rw [chRow_getD (by omega), ch_self, List.drop_of_length_le (by rw [chRow_len]; omega)] at h2
                exact h2
              rw [e1, List.map_append]
              exact ownsRow_base hown3 (by have := HBEL.out.size; rw [HWO.out]; exact this)
            · have h1 := HBEL.out
              rw [← HWO.out] at h1
              exact (h1.trans (hbel2.mono h1.size)).trans (hb3.mono h1.size)
          case measure => simp [intOf]; omega
    · have hjN : j = N := by omega
      subst hjN
      have c1 := hcell K (by omega)
      rw [chRow_getD (by omega)] at c1
      go_wp2_with fail
      go_ret
      refine ⟨ret_int ?_, hbel⟩
      simp only [chI]; rw [if_pos (by omega)]; simp

end Go.Proofs.Ytllddidjiabegaa

/- Contracts of chances. -/
set_option linter.unusedVariables false
set_option linter.unusedSimpArgs false
namespace Go.Proofs.Ytllddidjiabegaa
open Go.RowKit

/-- two numbers as a struct. -/
def pair (a b : Int) : Value := .agg #[.int .i64 a, .int .i64 b]

def caseNum (all sel ins cnt : Int) : Int := lowNum (chWays all sel ins cnt) (chI all sel)
def caseDen (all sel ins cnt : Int) : Int := lowDen (chWays all sel ins cnt) (chI all sel)

set_option maxHeartbeats 1000000 in
theorem blind_chance (all sel ins cnt : Int) (w : World) (h1 : 0 ≤ all) (h1' : all ≤ 30) (h2 : 0 ≤ sel) (h2' : sel ≤ all) (h3 : 0 ≤ ins) (h3' : ins ≤ all) (h4 : 0 ≤ cnt) (h4' : cnt ≤ all) :
    Calls Try.prog 88 #[.agg #[.int .i64 all, .int .i64 sel, .int .i64 ins, .int .i64 cnt]] w fun e w' =>
      e = .returned (.agg #[.int .i64 (caseNum all sel ins cnt), .int .i64 (caseDen all sel ins cnt)]) ∧ Below w.heap.size w w' := by
  have hW := chWays_bound (cnt := cnt) h1' h3' h3 h2' h4
  have hA : 1 ≤ chI all sel := by simp only [chI]; rw [if_pos ⟨h2, h2'⟩]; have := ch_pos (n := all.toNat) (k := sel.toNat) (by omega); omega
  have hA2 := chI_le (k := sel) h1'
  go_enter Try.func88, Try.ntmps88
  go_wp2_with fail
  go_loopw [3, 4] (fun o i wr => ∃ j : Nat, j ≤ (sel + 1 - cnt).toNat ∧ o = .int .i64 (sumI (chTerm all sel ins) cnt j) ∧ i = .int .i64 (cnt + j) ∧ ∃ m, wr = ((w.alloc (.cells #[.int .i64 all, .int .i64 sel, .int .i64 ins, .int .i64 cnt] 46)).alloc (.cells #[.int .i64 0, .int .i64 0] 48)).drewN m) (fun _ i _ => (sel + 1 - intOf i).toNat)
  case atStart => exact ⟨0, Nat.zero_le _, rfl, by simp, 0, rfl⟩
  case round =>
    obtain ⟨j, hj, rfl, rfl, m, rfl⟩ := hrel
    by_cases hlt : cnt + (j : Int) ≤ sel
    · have b1 := sumI_bound (f := chTerm all sel ins) cnt j (chTerm_bound h1' h3' h3)
      have b2 := chTerm_bound (sel := sel) h1' h3' h3 (cnt + j)
      have b3 : 0 ≤ chI ins (cnt + j) * chI (all - ins) (sel - (cnt + j)) := b2.1
      have b4 : chI ins (cnt + j) * chI (all - ins) (sel - (cnt + j)) ≤ 1073741824 := b2.2
      have b5 : 0 ≤ sumI (chTerm all sel ins) cnt j := b1.1
      have b6 : sumI (chTerm all sel ins) cnt j ≤ 33285996544 := by omega
      clear b1 b2
      go_wp2_with fail
      ((refine wp_three [] [0, 1, 2, 3, 4, 5, 6, 7, 8, 9, 10, 11, 12, 13, 14, 15, 16] 17 (by kernel_rfl) (by kernel_rfl) ?_); (intro _ _); (simp only [pick, List.drop_succ_cons, List.drop_zero, List.head?_cons, Option.toList_some, List.cons_append, List.nil_append]); (repeat (first | (go_big_quiet_step ((go_at_call 130; exact quiet_same (blind_choose _ _ _ (by omega) (by omega) (by omega) (by omega)) ⟨_, rfl⟩))) | (quiet_step ((go_at_call 130; exact quiet_same (blind_choose _ _ _ (by omega) (by omega) (by omega) (by omega)) ⟨_, rfl⟩))))); (try refine wpQuiet_nil ?_); (repeat (first | (go_big_quiet_step ((go_at_call 130; exact quiet_same (blind_choose _ _ _ (by omega) (by omega) (by omega) (by omega)) ⟨_, rfl⟩))) | (quiet_step ((go_at_call 130; exact quiet_same (blind_choose _ _ _ (by omega) (by omega) (by omega) (by omega)) ⟨_, rfl⟩))))); (try refine wpQuiet_nil ?_); (intro nq))
      go_wp2
      go_roundw
      case rel => exact ⟨j + 1, by omega, rfl, by go_num, m + nq, by simp⟩
      case measure => simp [intOf]; omega
    · have HN : Hid (sumI (chTerm all sel ins) cnt j = chWays all sel ins cnt) := hid (by unfold chWays; rw [show j = (sel + 1 - cnt).toNat from by omega])
      rw [HN.out]
      have hg0 : 0 < Int.gcd (chWays all sel ins cnt) (chI all sel) := Nat.pos_of_ne_zero (by rw [Ne, Int.gcd_eq_zero_iff]; omega)
      have hg : 1 ≤ (Int.gcd (chWays all sel ins cnt) (chI all sel) : Int) := by omega
      go_wp2_with (first | (go_at_call 130; refine (blind_choose _ _ _ (by omega) (by omega) (by omega) (by omega)).mono ?_; rintro _ _ ⟨rfl, rfl⟩) | (go_at_call 89; refine (blind_divisor _ _ _ (by omega) (by omega) (by omega) (by omega)).mono ?_; rintro _ _ ⟨rfl, m2, rfl⟩))
      ((refine wp_three [] [0, 1, 2, 3, 4, 5, 6] 7 (by kernel_rfl) (by kernel_rfl) ?_); (intro _ _); (simp only [pick, List.drop_succ_cons, List.drop_zero, List.head?_cons, Option.toList_some, List.cons_append, List.nil_append]); (repeat (first | (go_big_quiet_step (fail)) | (quiet_step (fail)))); (try refine wpQuiet_nil ?_); (repeat (first | (go_big_quiet_step (fail)) | (quiet_step (fail)))); (try refine wpQuiet_nil ?_); (intro nq))
      go_wp2
      ((try simp only [Exit.inBlock, Exit.then]); refine bodyPost_ret (v := .agg #[.int .i64 (chWays all sel ins cnt / (Int.gcd (chWays all sel ins cnt) (chI all sel) : Int)), .int .i64 (chI all sel / (Int.gcd (chWays all sel ins cnt) (chI all sel) : Int))]) ?_ rfl ?_; (next => simp [results, Try.results88, go_sem]); refine ⟨?_, ?_⟩; (next => rfl); (next => (repeat (with_reducible first | exact Below.refl _ _ | assumption | refine Below.drewN _ ?_ | refine Below.drew ?_ | refine Below_alloc ?_ _ | refine Below.alloc ?_ (by first | (simp; done) | (simp; omega) | omega) _ | refine Below.setCell ?_ (by first | (simp; done) | (simp; omega) | omega) _ | refine Below_call ?_ (by assumption) | refine Below.trans ?_ (by assumption)))))

def caseB (all sel ins cnt : Int) : Bool := inB all 0 30 && inB sel 0 all && inB ins 0 all && inB cnt 0 all
theorem caseB_spec {all sel ins cnt : Int} (h : caseB all sel ins cnt = true) : (0 ≤ all ∧ all ≤ 30) ∧ (0 ≤ sel ∧ sel ≤ all) ∧ (0 ≤ ins ∧ ins ≤ all) ∧ (0 ≤ cnt ∧ cnt ≤ all) := by
  simp only [caseB, Bool.and_eq_true, inB_true] at h; exact ⟨h.1.1.1, h.1.1.2, h.1.2, h.2⟩
def caseV (all sel ins cnt : Int) : Value := .agg #[.int .i64 all, .int .i64 sel, .int .i64 ins, .int .i64 cnt]

theorem blind_ChanceOf1 (n all sel ins cnt : Int) (b : Nat) (w : World) (h : w.cell? ⟨b, 0, none⟩ = some (.int .i64 all)) :
    Calls Try.prog 87 #[.int .i64 n, .pointer (some ⟨b, 0, none⟩)] w fun e w' => e = .returned (.bool (inB n 0 all)) ∧ w = w' := by
  go_enter Try.func87, Try.ntmps87
  go_wp2_with (go_at_call 77; refine (blind_within _ _ _ _).mono ?_; rintro _ _ ⟨rfl, rfl⟩)
  go_ret; exact ⟨rfl, rfl⟩

def chanceV (all sel ins cnt : Int) : Value := .tuple #[if caseB all sel ins cnt = true then pair (caseNum all sel ins cnt) (caseDen all sel ins cnt) else pair 0 0, .int .i64 (unl (caseB all sel ins cnt) 2)]
theorem chanceV_no {all sel ins cnt : Int} (h : caseB all sel ins cnt = false) : chanceV all sel ins cnt = .tuple #[.agg #[.int .i64 0, .int .i64 0], .int .i64 2] := by simp [chanceV, h, unl, pair]
theorem chanceV_yes {all sel ins cnt : Int} (h : caseB all sel ins cnt = true) : chanceV all sel ins cnt = .tuple #[.agg #[.int .i64 (caseNum all sel ins cnt), .int .i64 (caseDen all sel ins cnt)], .int .i64 0] := by simp [chanceV, h, unl, pair]

set_option maxHeartbeats 1000000 in
theorem blind_ChanceOf (all sel ins cnt : Int) (w : World) :
    Calls Try.prog 24 #[caseV all sel ins cnt] w fun e w' =>
      e = .returned (chanceV all sel ins cnt) ∧ Below w.heap.size w w' := by
  unfold caseV
  go_enter Try.func24, Try.ntmps24
  go_wp2_with (first | (go_at_call 77; refine (blind_within _ _ _ _).mono ?_; rintro _ _ ⟨rfl, rfl⟩) | (go_at_call 87; refine (blind_ChanceOf1 _ all sel ins cnt _ _ (by simp)).mono ?_; rintro _ _ ⟨rfl, rfl⟩) | (go_at_call 88; have hcs := caseB_spec (all := all) (sel := sel) (ins := ins) (cnt := cnt) (by simp_all [caseB]); refine (blind_chance all sel ins cnt _ hcs.1.1 hcs.1.2 hcs.2.1.1 hcs.2.1.2 hcs.2.2.1.1 hcs.2.2.1.2 hcs.2.2.2.1 hcs.2.2.2.2).mono ?_; rintro _ w1 ⟨rfl, hb1⟩; obtain ⟨hc1, hf1⟩ := bcell hb1; have hz1 := hb1.size; simp only [World.size_alloc] at hz1))
  all_goals (try simp only [Bool.not_eq_true', Bool.not_eq_false', Bool.not_eq_true, Bool.not_eq_false] at *)
  all_goals first
    | ((try simp only [Exit.inBlock, Exit.then]); refine bodyPost_ret (v := .tuple #[.agg #[.int .i64 0, .int .i64 0], .int .i64 2]) ?_ rfl ?_; (next => simp [results, Try.results24, go_sem]); refine ⟨?_, ?_⟩; (next => rw [chanceV_no]; simp only [caseB]; simp [*]); (next => (repeat (with_reducible first | exact Below.refl _ _ | assumption | refine Below.drewN _ ?_ | refine Below.drew ?_ | refine Below_alloc ?_ _ | refine Below.alloc ?_ (by first | (simp; done) | (simp; omega) | omega) _ | refine Below.setCell ?_ (by first | (simp; done) | (simp; omega) | omega) _ | refine Below_call ?_ (by assumption) | refine Below.trans ?_ (by assumption)))))
    | ((try simp only [Exit.inBlock, Exit.then]); refine bodyPost_ret (v := .tuple #[.agg #[.int .i64 (caseNum all sel ins cnt), .int .i64 (caseDen all sel ins cnt)], .int .i64 0]) ?_ rfl ?_; (next => simp [results, Try.results24, go_sem, hc1, hz1]); refine ⟨?_, ?_⟩; (next => rw [chanceV_yes]; simp only [caseB]; simp [*]); (next => (repeat (with_reducible first | exact Below.refl _ _ | assumption | refine Below.drewN _ ?_ | refine Below.drew ?_ | refine Below_alloc ?_ _ | refine Below.alloc ?_ (by first | (simp; done) | (simp; omega) | omega) _ | refine Below.setCell ?_ (by first | (simp; done) | (simp; omega) | omega) _ | refine Below_call ?_ (by assumption) | refine Below.trans ?_ (by assumption)))))

end Go.Proofs.Ytllddidjiabegaa

/- Contracts of the reference's chances, and of trials. -/
set_option linter.unusedVariables false
set_option linter.unusedSimpArgs false
namespace Go.Proofs.Ytllddidjiabegaa
open Go.RowKit

def caseErrS (all sel ins cnt : Int) : Int := unl (caseB all sel ins cnt) 2

theorem ref_CaseErr (all sel ins cnt : Int) (w : World) :
    Calls Try.prog 26 #[caseV all sel ins cnt] w fun e w' => e = .returned (.int .i64 (caseErrS all sel ins cnt)) ∧ Below w.heap.size w w' := by
  unfold caseV
  go_enter Try.func26, Try.ntmps26
  go_wp2_with (first | (go_at_call 44; refine (base_Within _ _ _ _).mono ?_; rintro _ _ ⟨rfl, rfl⟩))
  all_goals (try simp only [Bool.not_eq_true', Bool.not_eq_false', Bool.not_eq_true, Bool.not_eq_false] at *)
  all_goals
    go_ret
    refine ⟨ret_int ?_, by (repeat (with_reducible first | exact Below.refl _ _ | assumption | refine Below.drewN _ ?_ | refine Below.drew ?_ | refine Below_alloc ?_ _ | refine Below.alloc ?_ (by first | (simp; done) | (simp; omega) | omega) _ | refine Below.setCell ?_ (by first | (simp; done) | (simp; omega) | omega) _ | refine Below_call ?_ (by assumption) | refine Below.trans ?_ (by assumption)))⟩
    simp only [caseErrS, caseB, unl]; simp [*]

theorem base_Gcd (a b : Int) (w : World) (h : -9223372036854775808 ≤ a) (h' : a ≤ 9223372036854775807) (hb : 0 < b) (hb' : b ≤ 9223372036854775807) :
    Calls Try.prog 92 #[.int .i64 a, .int .i64 b] w fun e w' => e = .returned (.int .i64 (Int.gcd a b : Nat)) ∧ ∃ m, w' = w.drewN m := by
  obtain ⟨g, hg⟩ : ∃ g, g = Int.gcd a b := ⟨_, rfl⟩
  have HG := hid hg
  clear hg
  go_enter Try.func92, Try.ntmps92
  go_wp2_with fail
  go_loopw [0, 1] (fun x y wr => ∃ p q : Int, x = .int .i64 p ∧ y = .int .i64 q ∧ Hid (g = Int.gcd p q) ∧ -9223372036854775808 ≤ p ∧ p ≤ 9223372036854775807 ∧ -9223372036854775807 ≤ q ∧ q ≤ 9223372036854775807 ∧ (q = 0 → -9223372036854775807 ≤ p) ∧ ∃ m, wr = w.drewN m) (fun _ y _ => (intOf y).natAbs)
  case atStart => exact ⟨a, b, rfl, rfl, HG, h, h', by omega, hb', by omega, 0, rfl⟩
  case round =>
    obtain ⟨p, q, rfl, rfl, hG, p1, p2, q1, q2, hq, m, rfl⟩ := hrel
    by_cases hz : q = 0
    · subst hz
      go_wp2_with (go_at_call 131; refine (base_Size _ _ (by omega) (by omega)).mono ?_; rintro _ _ ⟨rfl, rfl⟩)
      go_ret
      refine ⟨ret_int ?_, m, rfl⟩
      rw [HG.out.symm, hG.out, Int.gcd_zero_right]
    · have hz' : (q != 0) = true := by simpa using hz
      have HT := hid (tmod_abs p q hz)
      have HT2 := hid (gcd_tmod p q)
      go_wp2_with fail
      go_quiet (fail)
      go_wp2
      go_roundw
      case rel => exact ⟨q, p.tmod q, rfl, rfl, hid (by rw [HT2.out]; exact hG.out), by omega, by omega, by have := HT.out; omega, by have := HT.out; omega, by omega, m + nq, by simp⟩
      case measure => simp only [intOf]; exact HT.out

theorem base_Lowest (n d : Int) (w : World) (h0 : 0 ≤ n) (h1 : n ≤ 9223372036854775807) (h2 : 0 < d) (h3 : d ≤ 9223372036854775807) :
    Calls Try.prog 72 #[.int .i64 n, .int .i64 d] w fun e w' => e = .returned (.agg #[.int .i64 (lowNum n d), .int .i64 (lowDen n d)]) ∧ Below w.heap.size w w' := by
  have hg0 : 0 < Int.gcd n d := Nat.pos_of_ne_zero (by rw [Ne, Int.gcd_eq_zero_iff]; omega)
  have hg : 1 ≤ (Int.gcd n d : Int) := by omega
  go_enter Try.func72, Try.ntmps72
  go_wp2_with (go_at_call 92; refine (base_Gcd _ _ _ (by omega) (by omega) (by omega) (by omega)).mono ?_; rintro _ _ ⟨rfl, m2, rfl⟩)
  ((refine wp_three [] [0, 1, 2, 3, 4, 5, 6] 7 (by kernel_rfl) (by kernel_rfl) ?_); (intro _ _); (simp only [pick, List.drop_succ_cons, List.drop_zero, List.head?_cons, Option.toList_some, List.cons_append, List.nil_append]); (repeat (first | (go_big_quiet_step (fail)) | (quiet_step (fail)))); (try refine wpQuiet_nil ?_); (repeat (first | (go_big_quiet_step (fail)) | (quiet_step (fail)))); (try refine wpQuiet_nil ?_); (intro nq))
  go_wp2
  ((try simp only [Exit.inBlock, Exit.then]); refine bodyPost_ret (v := .agg #[.int .i64 (n / (Int.gcd n d : Int)), .int .i64 (d / (Int.gcd n d : Int))]) ?_ rfl ?_; (next => simp [results, Try.results72, go_sem]); refine ⟨?_, ?_⟩; (next => rfl); (next => (repeat (with_reducible first | exact Below.refl _ _ | assumption | refine Below.drewN _ ?_ | refine Below.drew ?_ | refine Below_alloc ?_ _ | refine Below.alloc ?_ (by first | (simp; done) | (simp; omega) | omega) _ | refine Below.setCell ?_ (by first | (simp; done) | (simp; omega) | omega) _ | refine Below_call ?_ (by assumption) | refine Below.trans ?_ (by assumption)))))

/-- in every world that has grown. -/
theorem quiet_below {P : Program} {f : FuncId} {args : Array Value} {W w0 : World} {B : Nat} {v : Value}
    (h : Calls P f args W fun e w' => e = .returned v ∧ Below W.heap.size W w') (hB : Below B w0 W) (hs : B ≤ W.heap.size) : Calls P f args W fun e w'' => e = .returned v ∧ Below B w0 w'' :=
  h.mono fun _ _ ⟨he, hb⟩ => ⟨he, hB.trans (hb.mono hs)⟩

set_option maxHeartbeats 1000000 in
theorem ref_Chance (all sel ins cnt : Int) (w : World) (h1 : 0 ≤ all) (h1' : all ≤ 30) (h2 : 0 ≤ sel) (h2' : sel ≤ all) (h3 : 0 ≤ ins) (h3' : ins ≤ all) (h4 : 0 ≤ cnt) (h4' : cnt ≤ all) :
    Calls Try.prog 27 #[caseV all sel ins cnt] w fun e w' => e = .returned (.agg #[.int .i64 (caseNum all sel ins cnt), .int .i64 (caseDen all sel ins cnt)]) ∧ Below w.heap.size w w' := by
  have hW := chWays_bound (cnt := cnt) h1' h3' h3 h2' h4
  have hA : 1 ≤ chI all sel := by simp only [chI]; rw [if_pos ⟨h2, h2'⟩]; have := ch_pos (n := all.toNat) (k := sel.toNat) (by omega); omega
  have hA2 := chI_le (k := sel) h1'
  unfold caseV
  go_enter Try.func27, Try.ntmps27
  go_wp2_with fail
  obtain ⟨W0, hW0⟩ : ∃ W0, W0 = (w.alloc (.cells #[.int .i64 all, .int .i64 sel, .int .i64 ins, .int .i64 cnt] 46)).alloc (.cells #[.int .i64 0, .int .i64 0] 48) := ⟨_, rfl⟩
  have c0 : W0.cell? ⟨w.heap.size, 0, none⟩ = some (.int .i64 all) := by rw [hW0]; simp
  have c1 : W0.cell? ⟨w.heap.size, 1, none⟩ = some (.int .i64 sel) := by rw [hW0]; simp
  have c2 : W0.cell? ⟨w.heap.size, 2, none⟩ = some (.int .i64 ins) := by rw [hW0]; simp
  have c3 : W0.cell? ⟨w.heap.size, 3, none⟩ = some (.int .i64 cnt) := by rw [hW0]; simp
  have r0 : W0.cell? ⟨w.heap.size + 1, 0, none⟩ = some (.int .i64 0) := by rw [hW0]; simp
  have r1 : W0.cell? ⟨w.heap.size + 1, 1, none⟩ = some (.int .i64 0) := by rw [hW0]; simp
  have f0 : W0.frozen? ⟨w.heap.size + 1, 0, none⟩ = false := by rw [hW0]; simp
  have f1 : W0.frozen? ⟨w.heap.size + 1, 1, none⟩ = false := by rw [hW0]; simp
  have hz0 : w.heap.size + 2 ≤ W0.heap.size := by rw [hW0]; simp
  have hBW : Below w.heap.size w W0 := by rw [hW0]; (repeat (with_reducible first | exact Below.refl _ _ | assumption | refine Below.drewN _ ?_ | refine Below.drew ?_ | refine Below_alloc ?_ _ | refine Below.alloc ?_ (by first | (simp; done) | (simp; omega) | omega) _ | refine Below.setCell ?_ (by first | (simp; done) | (simp; omega) | omega) _ | refine Below_call ?_ (by assumption) | refine Below.trans ?_ (by assumption)))
  rw [← hW0]
  have HW0 := hid hW0
  clear hW0
  go_loopw [3, 4] (fun o i wr => ∃ j : Nat, j ≤ (all + 1 - cnt).toNat ∧ o = .int .i64 (sumI (chTerm all sel ins) cnt j) ∧ i = .int .i64 (cnt + j) ∧ Below W0.heap.size W0 wr) (fun _ i _ => (all + 1 - intOf i).toNat)
  case atStart => exact ⟨0, Nat.zero_le _, rfl, by simp, Below.refl _ _⟩
  case round =>
    obtain ⟨j, hj, rfl, rfl, hbel⟩ := hrel
    obtain ⟨hc, hf⟩ := bcell hbel
    have hz := hbel.size
    have d0 := (hc w.heap.size 0 (by omega)).trans c0
    have d1 := (hc w.heap.size 1 (by omega)).trans c1
    have d2 := (hc w.heap.size 2 (by omega)).trans c2
    have d3 := (hc w.heap.size 3 (by omega)).trans c3
    have e0 := (hc (w.heap.size + 1) 0 (by omega)).trans r0
    have e1 := (hc (w.heap.size + 1) 1 (by omega)).trans r1
    have g0 := (hf (w.heap.size + 1) 0 (by omega)).trans f0
    have g1 := (hf (w.heap.size + 1) 1 (by omega)).trans f1
    have hs0 : w.heap.size < wr.heap.size := by omega
    have hs1 : w.heap.size + 1 < wr.heap.size := by omega
    clear c0 c1 c2 c3 r0 r1 f0 f1 hc hf
    by_cases hlt : cnt + (j : Int) ≤ all
    · have b1 := sumI_bound (f := chTerm all sel ins) cnt j (chTerm_bound h1' h3' h3)
      have b2 := chTerm_bound (sel := sel) h1' h3' h3 (cnt + j)
      have b3 : 0 ≤ chI ins (cnt + j) * chI (all - ins) (sel - (cnt + j)) := b2.1
      have b4 : chI ins (cnt + j) * chI (all - ins) (sel - (cnt + j)) ≤ 1073741824 := b2.2
      have b5 : 0 ≤ sumI (chTerm all sel ins) cnt j := b1.1
      have b6 : sumI (chTerm all sel ins) cnt j ≤ 33285996544 := by omega
      clear b1 b2
      go_wp2_with fail
      ((refine wp_three_in (fun wc => Below wr.heap.size wr wc) [] [0, 1, 2, 3, 4, 5, 6, 7, 8, 9, 10, 11, 12, 13, 14, 15, 16] 17 (by kernel_rfl) (by kernel_rfl) ((Below.refl _ _).drew) ?_); (intro _ _); (simp only [pick, List.drop_succ_cons, List.drop_zero, List.head?_cons, Option.toList_some, List.cons_append, List.nil_append]); (repeat (first | go_big_quiet_skip | (go_big_quiet_want; refine quiet_simple rfl ?_; go_big_quiet_op; go_big_quiet_on) | (go_big_quiet_want; refine quiet_load rfl rfl Try.underlying3 (by assumption) (by first | omega | (simp; omega)) ?_; simp only [Act.put, List.setIfInBounds_toArray, List.set_cons_succ, List.set_cons_zero]; go_big_quiet_on) | (go_big_quiet_want; go_big_quiet_op; apply Exists.intro; refine ⟨fun wx hwx => ?_, ?_⟩; (focus ((go_at_call 91; exact quiet_below (ref_Choose _ _ _ (by omega)) hwx (by have := hwx.size; omega)))); go_big_quiet_on))); (try refine wpQuiet_nil ?_); (repeat (first | go_big_quiet_skip | (go_big_quiet_want; refine quiet_simple rfl ?_; go_big_quiet_op; go_big_quiet_on) | (go_big_quiet_want; refine quiet_load rfl rfl Try.underlying3 (by assumption) (by first | omega | (simp; omega)) ?_; simp only [Act.put, List.setIfInBounds_toArray, List.set_cons_succ, List.set_cons_zero]; go_big_quiet_on) | (go_big_quiet_want; go_big_quiet_op; apply Exists.intro; refine ⟨fun wx hwx => ?_, ?_⟩; (focus ((go_at_call 91; exact quiet_below (ref_Choose _ _ _ (by omega)) hwx (by have := hwx.size; omega)))); go_big_quiet_on))); (try refine wpQuiet_nil ?_); (intro wq hbq); obtain ⟨hcq, hfq⟩ := bcell hbq; have hzq := hbq.size)
      go_wp2
      go_roundw
      case rel => exact ⟨j + 1, by omega, rfl, by go_num, hbel.trans (hbq.mono hz)⟩
      case measure => simp [intOf]; omega
    · have HN : Hid (sumI (chTerm all sel ins) cnt j = chWays all sel ins cnt) := hid (by rw [← chWays_more h2', show j = (all + 1 - cnt).toNat from by omega])
      rw [HN.out]
      go_wp2_with (first | (go_at_call 91; refine (ref_Choose _ _ _ (by omega)).mono ?_; rintro _ w1 ⟨rfl, hb1⟩; obtain ⟨hc1, hf1⟩ := bcell hb1; have hz1 := hb1.size; (try simp only [World.size_alloc, World.heap_drewN] at hz1); have hk1_0 : w.heap.size + 1 < w1.heap.size := (by omega)) | (go_at_call 72; refine (base_Lowest _ _ _ (by omega) (by omega) (by omega) (by omega)).mono ?_; rintro _ w2 ⟨rfl, hb2⟩; obtain ⟨hc2, hf2⟩ := bcell hb2; have hz2 := hb2.size; (try simp only [World.size_alloc, World.heap_drewN] at hz2); have hk2_0 : w.heap.size + 1 < w2.heap.size := (by omega)))
      ((try simp only [Exit.inBlock, Exit.then]); refine bodyPost_ret (v := .agg #[.int .i64 (lowNum (chWays all sel ins cnt) (chI all sel)), .int .i64 (lowDen (chWays all sel ins cnt) (chI all sel))]) ?_ rfl ?_; (next => simp [results, Try.results27, go_sem, hc1, hc2, hk1_0, hk2_0, hs1, e0, e1]); refine ⟨?_, ?_⟩; (next => rfl); (next => (repeat (with_reducible first | exact Below.refl _ _ | assumption | refine Below.drewN _ ?_ | refine Below.drew ?_ | refine Below_alloc ?_ _ | refine Below.alloc ?_ (by first | (simp; done) | (simp; omega) | omega) _ | refine Below.setCell ?_ (by first | (simp; done) | (simp; omega) | omega) _ | refine Below_call ?_ (by assumption) | refine Below.trans ?_ (by assumption)))))
end Go.Proofs.Ytllddidjiabegaa

/- Contracts of ways, bands and limits in the program. -/
set_option linter.unusedVariables false
set_option linter.unusedSimpArgs false
namespace Go.Proofs.Ytllddidjiabegaa
open Go.RowKit

def trErr (n : Int) : Int := unl (inB n 1 12) 2
def hitErr (t n : Int) : Int := unl (inB n 0 t) 2
def tenErr (n : Int) : Int := unl (inB n 0 10) 2
def rskErr (n : Int) : Int := unl (inB n 0 999) 2

theorem blind_trialsErr (n : Int) (w : World) : Calls Try.prog 90 #[.int .i64 n] w fun e w' => e = .returned (.int .i64 (trErr n)) ∧ w = w' := by
  go_enter Try.func90, Try.ntmps90
  go_wp2_with (first | (go_at_call 77; refine (blind_within _ _ _ _).mono ?_; rintro _ _ ⟨rfl, rfl⟩) | (go_at_call 78; refine (blind_unless _ _ _).mono ?_; rintro _ _ ⟨rfl, rfl⟩))
  go_ret; exact ⟨rfl, rfl⟩
theorem blind_hitsErr (t n : Int) (w : World) : Calls Try.prog 104 #[.int .i64 t, .int .i64 n] w fun e w' => e = .returned (.int .i64 (hitErr t n)) ∧ w = w' := by
  go_enter Try.func104, Try.ntmps104
  go_wp2_with (first | (go_at_call 77; refine (blind_within _ _ _ _).mono ?_; rintro _ _ ⟨rfl, rfl⟩) | (go_at_call 78; refine (blind_unless _ _ _).mono ?_; rintro _ _ ⟨rfl, rfl⟩))
  go_ret; exact ⟨rfl, rfl⟩
theorem blind_tenthsErr (n : Int) (w : World) : Calls Try.prog 100 #[.int .i64 n] w fun e w' => e = .returned (.int .i64 (tenErr n)) ∧ w = w' := by
  go_enter Try.func100, Try.ntmps100
  go_wp2_with (first | (go_at_call 77; refine (blind_within _ _ _ _).mono ?_; rintro _ _ ⟨rfl, rfl⟩) | (go_at_call 78; refine (blind_unless _ _ _).mono ?_; rintro _ _ ⟨rfl, rfl⟩))
  go_ret; exact ⟨rfl, rfl⟩
theorem blind_riskErr (n : Int) (w : World) : Calls Try.prog 101 #[.int .i64 n] w fun e w' => e = .returned (.int .i64 (rskErr n)) ∧ w = w' := by
  go_enter Try.func101, Try.ntmps101
  go_wp2_with (first | (go_at_call 77; refine (blind_within _ _ _ _).mono ?_; rintro _ _ ⟨rfl, rfl⟩) | (go_at_call 78; refine (blind_unless _ _ _).mono ?_; rintro _ _ ⟨rfl, rfl⟩))
  go_ret; exact ⟨rfl, rfl⟩

theorem ref_CountErr (n : Int) (w : World) : Calls Try.prog 40 #[.int .i64 n] w fun e w' => e = .returned (.int .i64 (trErr n)) ∧ w = w' := by
  cases hb : inB n 1 12 <;> have HB := hid hb <;>
  · go_enter Try.func40, Try.ntmps40
    go_wp2_with (go_at_call 44; refine (base_Within _ _ _ _).mono ?_; rintro _ _ ⟨rfl, rfl⟩)
    go_ret; exact ⟨ret_int (by simp [trErr, unl, HB.out]), rfl⟩
theorem ref_ShareErr (n : Int) (w : World) : Calls Try.prog 41 #[.int .i64 n] w fun e w' => e = .returned (.int .i64 (tenErr n)) ∧ w = w' := by
  cases hb : inB n 0 10 <;> have HB := hid hb <;>
  · go_enter Try.func41, Try.ntmps41
    go_wp2_with (go_at_call 44; refine (base_Within _ _ _ _).mono ?_; rintro _ _ ⟨rfl, rfl⟩)
    go_ret; exact ⟨ret_int (by simp [tenErr, unl, HB.out]), rfl⟩
theorem ref_RiskErr (n : Int) (w : World) : Calls Try.prog 42 #[.int .i64 n] w fun e w' => e = .returned (.int .i64 (rskErr n)) ∧ w = w' := by
  cases hb : inB n 0 999 <;> have HB := hid hb <;>
  · go_enter Try.func42, Try.ntmps42
    go_wp2_with (go_at_call 44; refine (base_Within _ _ _ _).mono ?_; rintro _ _ ⟨rfl, rfl⟩)
    go_ret; exact ⟨ret_int (by simp [rskErr, unl, HB.out]), rfl⟩
def studyErr (t h : Int) : Int := unl (inB t 1 12 && inB h 0 t) 2
theorem ref_StudyErr (t n : Int) (w : World) : Calls Try.prog 50 #[.int .i64 t, .int .i64 n] w fun e w' => e = .returned (.int .i64 (studyErr t n)) ∧ w = w' := by
  cases hb : inB t 1 12
  · have HB := hid hb
    have h1 : (trErr t != 0) = true := by simp [trErr, unl, hb]
    go_enter Try.func50, Try.ntmps50
    go_wp2_with (first | (go_at_call 40; refine (ref_CountErr _ _).mono ?_; rintro _ _ ⟨rfl, rfl⟩) | (go_at_call 44; refine (base_Within _ _ _ _).mono ?_; rintro _ _ ⟨rfl, rfl⟩))
    go_ret; exact ⟨ret_int (by simp [studyErr, unl, HB.out]), rfl⟩
  · have HB := hid hb
    have h1 : (trErr t != 0) = false := by simp [trErr, unl, hb]
    cases hb2 : inB n 0 t <;> have HB2 := hid hb2 <;>
    · go_enter Try.func50, Try.ntmps50
      go_wp2_with (first | (go_at_call 40; refine (ref_CountErr _ _).mono ?_; rintro _ _ ⟨rfl, rfl⟩) | (go_at_call 44; refine (base_Within _ _ _ _).mono ?_; rintro _ _ ⟨rfl, rfl⟩))
      go_ret; exact ⟨ret_int (by simp [studyErr, unl, HB.out, HB2.out]), rfl⟩
theorem studyErr_eq (t h : Int) (l : List Int) : firstNZ (trErr t :: hitErr t h :: l) = firstNZ (studyErr t h :: l) := by
  cases h1 : inB t 1 12 <;> cases h2 : inB h 0 t <;> simp [firstNZ, trErr, hitErr, studyErr, unl, h1, h2]
theorem trErr_ok {n : Int} (h : trErr n = 0) : 1 ≤ n ∧ n ≤ 12 := by
  cases hb : inB n 1 12
  · simp [trErr, unl, hb] at h
  · exact inB_true.1 hb
theorem hitErr_ok {t n : Int} (h : hitErr t n = 0) : 0 ≤ n ∧ n ≤ t := by
  cases hb : inB n 0 t
  · simp [hitErr, unl, hb] at h
  · exact inB_true.1 hb
theorem tenErr_ok {n : Int} (h : tenErr n = 0) : 0 ≤ n ∧ n ≤ 10 := by
  cases hb : inB n 0 10
  · simp [tenErr, unl, hb] at h
  · exact inB_true.1 hb
theorem rskErr_ok {n : Int} (h : rskErr n = 0) : 0 ≤ n ∧ n ≤ 999 := by
  cases hb : inB n 0 999
  · simp [rskErr, unl, hb] at h
  · exact inB_true.1 hb

def waysV (T H S : Int) : Value := .tuple #[.int .i64 (if firstNZ [trErr T, hitErr T H, tenErr S] = 0 then waysI T H S else 0), .int .i64 (firstNZ [trErr T, hitErr T H, tenErr S])]
theorem blind_WaysOf (T H S : Int) (w : World) : Calls Try.prog 46 #[.int .i64 T, .int .i64 H, .int .i64 S] w fun e w' => e = .returned (waysV T H S) ∧ Below w.heap.size w w' := by
  by_cases he : firstNZ [trErr T, hitErr T H, tenErr S] = 0
  · have HE := hid he
    have h2 := firstNZ_zero.1 he
    have h3 := trErr_ok (h2 (trErr T) (by simp))
    have h4 := hitErr_ok (h2 (hitErr T H) (by simp))
    have h5 := tenErr_ok (h2 (tenErr S) (by simp))
    have he' : (firstNZ [trErr T, hitErr T H, tenErr S] != 0) = false := by simpa using he
    clear he h2
    go_enter Try.func46, Try.ntmps46
    go_wp2_with (first | (go_at_call 90; refine (blind_trialsErr _ _).mono ?_; rintro _ _ ⟨rfl, rfl⟩) | (go_at_call 104; refine (blind_hitsErr _ _ _).mono ?_; rintro _ _ ⟨rfl, rfl⟩) | (go_at_call 100; refine (blind_tenthsErr _ _).mono ?_; rintro _ _ ⟨rfl, rfl⟩) | (go_at_call 75; refine (blind_first [trErr T, hitErr T H, tenErr S] _ _ (intsAt_new _ _ _ _ _ rfl (by simp) (by simp))).mono ?_; rintro _ _ ⟨rfl, rfl⟩) | (go_at_call 105; refine (blind_ways _ _ _ _ (by omega) (by omega) (by omega) (by omega) (by omega) (by omega)).mono ?_; rintro _ _ ⟨rfl, rfl⟩))
    go_ret2
    exact ⟨by simp [waysV, HE.out], by (repeat (with_reducible first | exact Below.refl _ _ | assumption | refine Below.drewN _ ?_ | refine Below.drew ?_ | refine Below_alloc ?_ _ | refine Below.alloc ?_ (by first | (simp; done) | (simp; omega) | omega) _ | refine Below.setCell ?_ (by first | (simp; done) | (simp; omega) | omega) _ | refine Below_call ?_ (by assumption) | refine Below.trans ?_ (by assumption)))⟩
  · have HE := hid he
    have he' : (firstNZ [trErr T, hitErr T H, tenErr S] != 0) = true := by simpa using he
    clear he
    go_enter Try.func46, Try.ntmps46
    go_wp2_with (first | (go_at_call 90; refine (blind_trialsErr _ _).mono ?_; rintro _ _ ⟨rfl, rfl⟩) | (go_at_call 104; refine (blind_hitsErr _ _ _).mono ?_; rintro _ _ ⟨rfl, rfl⟩) | (go_at_call 100; refine (blind_tenthsErr _ _).mono ?_; rintro _ _ ⟨rfl, rfl⟩) | (go_at_call 75; refine (blind_first [trErr T, hitErr T H, tenErr S] _ _ (intsAt_new _ _ _ _ _ rfl (by simp) (by simp))).mono ?_; rintro _ _ ⟨rfl, rfl⟩) | (go_at_call 105; refine (blind_ways _ _ _ _ (by omega) (by omega) (by omega) (by omega) (by omega) (by omega)).mono ?_; rintro _ _ ⟨rfl, rfl⟩))
    go_ret2
    exact ⟨by simp [waysV, if_neg HE.out], by (repeat (with_reducible first | exact Below.refl _ _ | assumption | refine Below.drewN _ ?_ | refine Below.drew ?_ | refine Below_alloc ?_ _ | refine Below.alloc ?_ (by first | (simp; done) | (simp; omega) | omega) _ | refine Below.setCell ?_ (by first | (simp; done) | (simp; omega) | omega) _ | refine Below_call ?_ (by assumption) | refine Below.trans ?_ (by assumption)))⟩

theorem le_int1 (W A r : Nat) (h : W ≤ A) : 2000 * (A - W) ≤ r * A ↔ 2000 * ((A : Int) - (W : Int)) ≤ (r : Int) * (A : Int) := by
  rw [← Int.natCast_mul]
  generalize r * A = x
  omega
theorem le_int2 (W A r : Nat) : 2000 * W ≤ r * A ↔ 2000 * (W : Int) ≤ (r : Int) * (A : Int) := by
  rw [← Int.natCast_mul]
  generalize r * A = x
  omega

def bandLoI (T S r : Int) : Int := (bandLo T.toNat S.toNat r.toNat : Nat)
def bandHiI (T S r : Int) : Int := (bandHi T.toNat S.toNat r.toNat : Nat)

set_option maxHeartbeats 1000000 in
theorem blind_band (T S r : Int) (w : World) (h0 : 0 ≤ T) (h1 : T ≤ 12) (h2 : 0 ≤ S) (h3 : S ≤ 10) (h4 : 0 ≤ r) (h5 : r ≤ 999) :
    Calls Try.prog 106 #[.int .i64 T, .int .i64 S, .int .i64 r] w fun e w' => e = .returned (.agg #[.int .i64 (bandLoI T S r), .int .i64 (bandHiI T S r)]) ∧ Below w.heap.size w w' := by
  obtain ⟨t, rfl⟩ := Int.eq_ofNat_of_zero_le h0
  obtain ⟨s, rfl⟩ := Int.eq_ofNat_of_zero_le h2
  obtain ⟨r, rfl⟩ := Int.eq_ofNat_of_zero_le h4
  have hp : powI 10 t = ((10 ^ t : Nat) : Int) := by simp [powI]
  have HP := hid hp
  have hten := ten_le (t := t) (by omega)
  have hpos : 0 < 10 ^ t := Nat.pow_pos (by decide)
  obtain ⟨A, hA⟩ : ∃ A : Nat, A = 10 ^ t := ⟨_, rfl⟩
  rw [← hA] at hp hten hpos
  have HA := hid hA
  have hrA : r * A ≤ 999 * 1000000000000 := Nat.mul_le_mul (by omega) hten
  have hrA' : (r : Int) * (A : Int) ≤ 999000000000000 := by have h4 := Int.ofNat_le.2 hrA; rw [Int.natCast_mul] at h4; omega
  have hrA0 : 0 ≤ (r : Int) * (A : Int) := Int.mul_nonneg (by omega) (by omega)
  clear hA hrA
  go_enter Try.func106, Try.ntmps106
  go_wp2_with (go_at_call 143; refine (blind_power _ _ _ (by omega) (by omega) (by omega) (by omega)).mono ?_; rintro _ _ ⟨rfl, rfl⟩)
  have HR : ∀ a : Nat, Hid (waysI t ((a : Int) + 1) s = (waysN s t (a + 1) : Nat)) := fun a => hid (by simp only [waysI, Int.toNat_natCast]; rw [show ((a : Int) + 1).toNat = a + 1 from by omega])
  have HR' : ∀ a : Nat, Hid (waysI t (a : Int) s = (waysN s t a : Nat)) := fun a => hid (by simp only [waysI, Int.toNat_natCast])
  have HL : Hid (∀ a, loP t s r a = true ↔ 2000 * ((A : Int) - waysI t ((a : Int) + 1) s) ≤ (r : Int) * A) := hid (fun a => by
    have h6 := waysN_le (s := s) (t := t) (h := a + 1) (by omega)
    rw [← HA.out] at h6
    simp only [loP, decide_eq_true_eq, ← HA.out, (HR a).out]
    exact le_int1 _ _ _ h6)
  have HH : Hid (∀ b, hiP t s r b = true ↔ 2000 * waysI t (b : Int) s ≤ (r : Int) * A) := hid (fun b => by
    simp only [hiP, decide_eq_true_eq, ← HA.out, (HR' b).out]
    exact le_int2 _ _ _)
  have HB : ∀ x : Int, 0 ≤ x → x ≤ (t : Int) + 1 → 0 ≤ waysI t x s ∧ waysI t x s ≤ A := fun x _ _ => by
    have h6 := waysN_le (s := s) (t := t) (h := x.toNat) (by omega)
    rw [← HA.out] at h6
    simp only [waysI, Int.toNat_natCast]; omega
  have HE1 : Hid (loP t s r t = false) := hid (loP_end (by omega))
  have HE2 : Hid (hiP t s r 0 = false) := hid (hiP_end (by omega) (by omega))
  have HBH := hid HB
  clear HB HR HR'
  go_loopg [] (t) (fun n wr => ∃ a : Nat, a ≤ t ∧ n = t - a ∧ Hid (∀ j, j < a → loP t s r j = true) ∧ wr = (w.alloc (.cells #[.int .i64 0, .int .i64 0] 74)).alloc (.cells #[.int .i64 a, .int .i64 t] 74))
  case atStart => exact ⟨0, by omega, rfl, hid (fun j hj => by omega), rfl⟩
  case round =>
    obtain ⟨a, ha, hn, hall, rfl⟩ := hrel
    have hway := HBH.out ((a : Int) + 1) (by omega) (by omega)
    cases hp : loP t s r a
    · have hno : ¬ 2000 * ((A : Int) - waysI t ((a : Int) + 1) s) ≤ (r : Int) * A := fun h => by rw [(HL.out a).2 h] at hp; cases hp
      have HPa := hid hp
      clear hp
      go_wp2_with (go_at_call 105; refine (blind_ways _ _ _ _ (by omega) (by omega) (by omega) (by omega) (by omega) (by omega)).mono ?_; rintro _ _ ⟨rfl, rfl⟩)
      have HLO : Hid (bandLo t s r = a) := hid (upTo_eq _ _ _ (Nat.zero_le _) (by omega) (fun j _ hj => hall.out j hj) HPa.out)
      clear hno hway hn
      go_loopg [] (t) (fun n wr => ∃ b : Nat, b ≤ t ∧ n = b ∧ Hid (∀ j, b < j → j ≤ t → hiP t s r j = true) ∧ wr = (w.alloc (.cells #[.int .i64 0, .int .i64 0] 74)).alloc (.cells #[.int .i64 a, .int .i64 b] 74))
      case atStart => exact ⟨t, by omega, rfl, hid (fun j hj hj2 => by omega), rfl⟩
      case round =>
        obtain ⟨b, hb, hn, hall2, rfl⟩ := hrel
        have hway := HBH.out (b : Int) (by omega) (by omega)
        cases hp : hiP t s r b
        · have hno : ¬ 2000 * waysI t (b : Int) s ≤ (r : Int) * A := fun h => by rw [(HH.out b).2 h] at hp; cases hp
          have HPb := hid hp
          clear hp
          go_wp2_with (go_at_call 105; refine (blind_ways _ _ _ _ (by omega) (by omega) (by omega) (by omega) (by omega) (by omega)).mono ?_; rintro _ _ ⟨rfl, rfl⟩)
          have HHI : Hid (bandHi t s r = b) := hid (downTo_eq _ _ hb (fun j h1 h2 => hall2.out j h1 h2) (Or.inr HPb.out))
          ((try simp only [Exit.inBlock, Exit.then]); refine bodyPost_ret (v := .agg #[.int .i64 a, .int .i64 b]) ?_ rfl ?_; (next => simp [results, Try.results106, go_sem]); refine ⟨?_, ?_⟩; (next => simp only [bandLoI, bandHiI, Int.toNat_natCast]; rw [HLO.out, HHI.out]); (next => (repeat (with_reducible first | exact Below.refl _ _ | assumption | refine Below.drewN _ ?_ | refine Below.drew ?_ | refine Below_alloc ?_ _ | refine Below.alloc ?_ (by first | (simp; done) | (simp; omega) | omega) _ | refine Below.setCell ?_ (by first | (simp; done) | (simp; omega) | omega) _ | refine Below_call ?_ (by assumption) | refine Below.trans ?_ (by assumption)))))
        · have hyes := (HH.out b).1 hp
          have hb0 : 0 < b := Nat.pos_of_ne_zero (fun h => by rw [h, HE2.out] at hp; cases hp)
          have HPb := hid hp
          clear hp
          go_wp2_with (go_at_call 105; refine (blind_ways _ _ _ _ (by omega) (by omega) (by omega) (by omega) (by omega) (by omega)).mono ?_; rintro _ _ ⟨rfl, rfl⟩)
          go_roundg (b - 1)
          case rel =>
            refine ⟨b - 1, by omega, rfl, hid (fun j h1 h2 => ?_), by rw [show ((b : Int) - 1) = ((b - 1 : Nat) : Int) from by omega]⟩
            by_cases e : j = b
            · rw [e]; exact HPb.out
            · exact hall2.out j (by omega) h2
          case measure => omega
    · have hyes := (HL.out a).1 hp
      have hat : a < t := Nat.lt_of_le_of_ne ha (fun h => by rw [h, HE1.out] at hp; cases hp)
      have HPa := hid hp
      clear hp
      go_wp2_with (go_at_call 105; refine (blind_ways _ _ _ _ (by omega) (by omega) (by omega) (by omega) (by omega) (by omega)).mono ?_; rintro _ _ ⟨rfl, rfl⟩)
      go_roundg (t - (a + 1))
      case rel =>
        refine ⟨a + 1, by omega, rfl, hid (fun j h1 => ?_), by simp⟩
        by_cases e : j = a
        · rw [e]; exact HPa.out
        · exact hall.out j (by omega)
      case measure => omega

end Go.Proofs.Ytllddidjiabegaa

/- Contracts of limits and coverages in the program. -/
set_option linter.unusedVariables false
set_option linter.unusedSimpArgs false
namespace Go.Proofs.Ytllddidjiabegaa
open Go.RowKit

def bandV (T S r : Int) : Value :=
  .tuple #[if firstNZ [trErr T, tenErr S, rskErr r] = 0 then .agg #[.int .i64 (bandLoI T S r), .int .i64 (bandHiI T S r)] else .agg #[.int .i64 0, .int .i64 0], .int .i64 (firstNZ [trErr T, tenErr S, rskErr r])]

theorem blind_BandOf (T S r : Int) (w : World) : Calls Try.prog 48 #[.int .i64 T, .int .i64 S, .int .i64 r] w fun e w' => e = .returned (bandV T S r) ∧ Below w.heap.size w w' := by
  by_cases he : firstNZ [trErr T, tenErr S, rskErr r] = 0
  · have HE := hid he
    have h2 := firstNZ_zero.1 he
    have h3 := trErr_ok (h2 (trErr T) (by simp))
    have h4 := tenErr_ok (h2 (tenErr S) (by simp))
    have h5 := rskErr_ok (h2 (rskErr r) (by simp))
    have he' : (firstNZ [trErr T, tenErr S, rskErr r] != 0) = false := by simpa using he
    clear he h2
    go_enter Try.func48, Try.ntmps48
    go_wp2_with (first | (go_at_call 90; refine (blind_trialsErr _ _).mono ?_; rintro _ _ ⟨rfl, rfl⟩) | (go_at_call 100; refine (blind_tenthsErr _ _).mono ?_; rintro _ _ ⟨rfl, rfl⟩) | (go_at_call 101; refine (blind_riskErr _ _).mono ?_; rintro _ _ ⟨rfl, rfl⟩) | (go_at_call 75; refine (blind_first [trErr T, tenErr S, rskErr r] _ _ (intsAt_new _ _ _ _ _ rfl (by simp) (by simp))).mono ?_; rintro _ _ ⟨rfl, rfl⟩) | (go_at_call 106; refine (blind_band _ _ _ _ (by omega) (by omega) (by omega) (by omega) (by omega) (by omega)).mono ?_; rintro _ w1 ⟨rfl, hb1⟩; obtain ⟨hc1, hf1⟩ := bcell hb1; have hz1 := hb1.size; (try simp only [World.size_alloc, World.heap_drewN] at hz1); have hk1_0 : w.heap.size < w1.heap.size := (by omega); have q1_0_0 := hc1 (w.heap.size) 0 (by first | assumption | (simp; done) | (simp; omega)); (try simp at q1_0_0); have p1_0_0 := hf1 (w.heap.size) 0 (by first | assumption | (simp; done) | (simp; omega)); (try simp at p1_0_0); have q1_0_1 := hc1 (w.heap.size) 1 (by first | assumption | (simp; done) | (simp; omega)); (try simp at q1_0_1); have p1_0_1 := hf1 (w.heap.size) 1 (by first | assumption | (simp; done) | (simp; omega)); (try simp at p1_0_1)))
    ((try simp only [Exit.inBlock, Exit.then]); refine bodyPost_ret (v := .tuple #[.agg #[.int .i64 (bandLoI T S r), .int .i64 (bandHiI T S r)], .int .i64 0]) ?_ rfl ?_; (next => simp [results, Try.results48, go_sem, hk1_0, q1_0_0, q1_0_1]); refine ⟨?_, ?_⟩; (next => simp [bandV, HE.out]); (next => (repeat (with_reducible first | exact Below.refl _ _ | assumption | refine Below.drewN _ ?_ | refine Below.drew ?_ | refine Below_alloc ?_ _ | refine Below.alloc ?_ (by first | (simp; done) | (simp; omega) | omega) _ | refine Below.setCell ?_ (by first | (simp; done) | (simp; omega) | omega) _ | refine Below_call ?_ (by assumption) | refine Below.trans ?_ (by assumption)))))
  · have HE := hid he
    have he' : (firstNZ [trErr T, tenErr S, rskErr r] != 0) = true := by simpa using he
    clear he
    go_enter Try.func48, Try.ntmps48
    go_wp2_with (first | (go_at_call 90; refine (blind_trialsErr _ _).mono ?_; rintro _ _ ⟨rfl, rfl⟩) | (go_at_call 100; refine (blind_tenthsErr _ _).mono ?_; rintro _ _ ⟨rfl, rfl⟩) | (go_at_call 101; refine (blind_riskErr _ _).mono ?_; rintro _ _ ⟨rfl, rfl⟩) | (go_at_call 75; refine (blind_first [trErr T, tenErr S, rskErr r] _ _ (intsAt_new _ _ _ _ _ rfl (by simp) (by simp))).mono ?_; rintro _ _ ⟨rfl, rfl⟩))
    ((try simp only [Exit.inBlock, Exit.then]); refine bodyPost_ret (v := .tuple #[.agg #[.int .i64 0, .int .i64 0], .int .i64 (firstNZ [trErr T, tenErr S, rskErr r])]) ?_ rfl ?_; (next => simp [results, Try.results48, go_sem]); refine ⟨?_, ?_⟩; (next => simp [bandV, if_neg HE.out]); (next => (repeat (with_reducible first | exact Below.refl _ _ | assumption | refine Below.drewN _ ?_ | refine Below.drew ?_ | refine Below_alloc ?_ _ | refine Below.alloc ?_ (by first | (simp; done) | (simp; omega) | omega) _ | refine Below.setCell ?_ (by first | (simp; done) | (simp; omega) | omega) _ | refine Below_call ?_ (by assumption) | refine Below.trans ?_ (by assumption)))))

/-- the least, the greatest of the first k + 1 numbers of a list. -/
def mnI (l : List Int) : Nat → Int
  | 0 => nth l 0
  | k + 1 => min (mnI l k) (nth l (k + 1))
def mxI (l : List Int) : Nat → Int
  | 0 => nth l 0
  | k + 1 => max (mxI l k) (nth l (k + 1))

theorem slices_Min (l : List Int) (v : Value) (w : World) (h : IntsAt w v l) (h0 : 0 < l.length) :
    Calls Try.prog 141 #[v] w fun e w' => e = .returned (.int .i64 (mnI l (l.length - 1))) ∧ w = w' := by
  obtain ⟨ao, cap, rfl, h1, h2, h3⟩ := h.opn
  obtain ⟨b, off, rfl, hb, hc⟩ := h3 0 h0
  unfold maxLen at h2
  have c0 := hc 0 h0
  rw [Nat.add_zero] at c0
  have HC := hid hc
  clear hc h3
  go_enter Try.func141, Try.ntmps141
  go_wp2_with fail
  go_loop [3, 4] (fun m i => ∃ k : Nat, k < l.length ∧ m = .int .i64 (mnI l k) ∧ i = .int .i64 ((k : Int) + 1)) (fun _ i => l.length - (intOf i).toNat)
  case atStart => exact ⟨0, h0, rfl, rfl⟩
  case round =>
    obtain ⟨k, hk, rfl, rfl⟩ := hrel
    by_cases hlt : k + 1 < l.length
    · have ck := HC.out (k + 1) hlt
      clear c0
      go_wp2_with fail
      all_goals
        go_round
        case rel => exact ⟨k + 1, hlt, by simp only [mnI]; go_num, by go_num⟩
        case measure => simp [intOf]; omega
    · go_wp2_with fail
      go_ret
      exact ⟨ret_int (by rw [show k = l.length - 1 from by omega]), rfl⟩

theorem slices_Max (l : List Int) (v : Value) (w : World) (h : IntsAt w v l) (h0 : 0 < l.length) :
    Calls Try.prog 142 #[v] w fun e w' => e = .returned (.int .i64 (mxI l (l.length - 1))) ∧ w = w' := by
  obtain ⟨ao, cap, rfl, h1, h2, h3⟩ := h.opn
  obtain ⟨b, off, rfl, hb, hc⟩ := h3 0 h0
  unfold maxLen at h2
  have c0 := hc 0 h0
  rw [Nat.add_zero] at c0
  have HC := hid hc
  clear hc h3
  go_enter Try.func142, Try.ntmps142
  go_wp2_with fail
  go_loop [3, 4] (fun m i => ∃ k : Nat, k < l.length ∧ m = .int .i64 (mxI l k) ∧ i = .int .i64 ((k : Int) + 1)) (fun _ i => l.length - (intOf i).toNat)
  case atStart => exact ⟨0, h0, rfl, rfl⟩
  case round =>
    obtain ⟨k, hk, rfl, rfl⟩ := hrel
    by_cases hlt : k + 1 < l.length
    · have ck := HC.out (k + 1) hlt
      clear c0
      go_wp2_with fail
      all_goals
        go_round
        case rel => exact ⟨k + 1, hlt, by simp only [mxI]; go_num, by go_num⟩
        case measure => simp [intOf]; omega
    · go_wp2_with fail
      go_ret
      exact ⟨ret_int (by rw [show k = l.length - 1 from by omega]), rfl⟩

end Go.Proofs.Ytllddidjiabegaa

/- Contracts of limits and coverages in the program, second part. -/
set_option linter.unusedVariables false
set_option linter.unusedSimpArgs false
namespace Go.Proofs.Ytllddidjiabegaa
open Go.RowKit

/-- the band of a share contains a count. -/
def inBandB (T h r : Int) (s : Nat) : Bool := inB h (bandLoI T s r) (bandHiI T s r)
/-- the shares below n whose band contains a count. -/
def shs (T h r : Int) : Nat → List Int
  | 0 => []
  | n + 1 => if inBandB T h r n = true then shs T h r n ++ [(n : Int)] else shs T h r n
theorem shs_len (T h r : Int) (n : Nat) : (shs T h r n).length ≤ n := by
  induction n with
  | zero => simp [shs]
  | succ n ih => simp only [shs]; split
                 · simp; omega
                 · omega
/-- the least and the greatest of them, 11 and -1 if there are none. -/
def limLo (T h r : Int) : Nat → Int
  | 0 => 11
  | n + 1 => if inBandB T h r n = true then min (limLo T h r n) n else limLo T h r n
def limHi (T h r : Int) : Nat → Int
  | 0 => -1
  | n + 1 => if inBandB T h r n = true then (n : Int) else limHi T h r n
theorem limHi_le (T h r : Int) (n : Nat) : -1 ≤ limHi T h r n ∧ limHi T h r n < n := by
  induction n with
  | zero => simp [limHi]
  | succ n ih => simp only [limHi]; split <;> omega
theorem nth_app_lt {l m : List Int} {i : Nat} (h : i < l.length) : nth (l ++ m) i = nth l i := by
  simp [nth, List.getD, List.getElem?_append_left h]
theorem nth_app_end (l : List Int) (x : Int) : nth (l ++ [x]) l.length = x := by simp [nth, List.getD]
theorem mnI_app {l m : List Int} {k : Nat} (h : k < l.length) : mnI (l ++ m) k = mnI l k := by
  induction k with
  | zero => simp only [mnI]; rw [nth_app_lt h]
  | succ k ih => simp only [mnI]; rw [ih (by omega), nth_app_lt h]
theorem mxI_app {l m : List Int} {k : Nat} (h : k < l.length) : mxI (l ++ m) k = mxI l k := by
  induction k with
  | zero => simp only [mxI]; rw [nth_app_lt h]
  | succ k ih => simp only [mxI]; rw [ih (by omega), nth_app_lt h]
theorem shs_spec (T h r : Int) (n : Nat) (hn : n ≤ 11) : ((shs T h r n).length = 0 → limHi T h r n = -1 ∧ limLo T h r n = 11) ∧
    (0 < (shs T h r n).length → 0 ≤ limHi T h r n ∧ mnI (shs T h r n) ((shs T h r n).length - 1) = limLo T h r n ∧ mxI (shs T h r n) ((shs T h r n).length - 1) = limHi T h r n) := by
  induction n with
  | zero => simp [shs, limHi, limLo]
  | succ n ih =>
    have ih := ih (by omega)
    have hle := limHi_le T h r n
    simp only [shs, limHi, limLo]
    split
    · refine ⟨fun h0 => by simp at h0, fun _ => ⟨by omega, ?_⟩⟩
      by_cases h0 : (shs T h r n).length = 0
      · have e := List.eq_nil_of_length_eq_zero h0
        have := ih.1 h0
        rw [e]; simp [mnI, mxI, nth]; omega
      · have h1 := ih.2 (by omega)
        obtain ⟨k, hk⟩ : ∃ k, (shs T h r n).length = k + 1 := ⟨(shs T h r n).length - 1, by omega⟩
        have e1 : (shs T h r n ++ [(n : Int)]).length - 1 = k + 1 := by simp; omega
        rw [e1]
        simp only [mnI, mxI]
        rw [mnI_app (by omega), mxI_app (by omega), ← hk, nth_app_end]
        rw [hk, Nat.add_sub_cancel] at h1
        rw [h1.2.1, h1.2.2]
        omega
    · exact ih

/-- the limits of a count: from, to, and whether some band contains it. -/
def limV (T h r : Int) : Value := .tuple #[if limHi T h r 11 = -1 then .agg #[.int .i64 0, .int .i64 0] else .agg #[.int .i64 (limLo T h r 11), .int .i64 (limHi T h r 11)], .bool (limHi T h r 11 != -1)]
theorem limV_no {T h r : Int} (hh : limHi T h r 11 = -1) : limV T h r = .tuple #[.agg #[.int .i64 0, .int .i64 0], .bool false] := by simp [limV, hh]
theorem limV_yes {T h r : Int} (hh : limHi T h r 11 ≠ -1) : limV T h r = .tuple #[.agg #[.int .i64 (limLo T h r 11), .int .i64 (limHi T h r 11)], .bool true] := by simp [limV, hh]

set_option maxRecDepth 100000 in
set_option maxHeartbeats 1000000 in
theorem blind_limits (T h r : Int) (w : World) (h0 : 0 ≤ T) (h1 : T ≤ 12) (h4 : 0 ≤ r) (h5 : r ≤ 999) :
    Calls Try.prog 102 #[.int .i64 T, .int .i64 h, .int .i64 r] w fun e w' => e = .returned (limV T h r) ∧ Below w.heap.size w w' := by
  go_enter Try.func102, Try.ntmps102
  go_wp2_with fail
  obtain ⟨W0, hW0⟩ : ∃ W0, W0 = w.alloc (.cells #[.int .i64 0, .int .i64 0] 74) := ⟨_, rfl⟩
  have r0 : W0.cell? ⟨w.heap.size, 0, none⟩ = some (.int .i64 0) := by rw [hW0]; simp
  have r1 : W0.cell? ⟨w.heap.size, 1, none⟩ = some (.int .i64 0) := by rw [hW0]; simp
  have f0 : W0.frozen? ⟨w.heap.size, 0, none⟩ = false := by rw [hW0]; simp
  have f1 : W0.frozen? ⟨w.heap.size, 1, none⟩ = false := by rw [hW0]; simp
  have hz0 : w.heap.size + 1 ≤ W0.heap.size := by rw [hW0]; simp
  have hBW : Below w.heap.size w W0 := by rw [hW0]; (repeat (with_reducible first | exact Below.refl _ _ | assumption | refine Below.drewN _ ?_ | refine Below.drew ?_ | refine Below_alloc ?_ _ | refine Below.alloc ?_ (by first | (simp; done) | (simp; omega) | omega) _ | refine Below.setCell ?_ (by first | (simp; done) | (simp; omega) | omega) _ | refine Below_call ?_ (by assumption) | refine Below.trans ?_ (by assumption)))
  rw [← hW0]
  clear hW0
  go_loopw [8, 11] (fun v i wr => ∃ n : Nat, n ≤ 11 ∧ i = .int .i64 n ∧ wr.ownsRow W0.heap.size 3 1 v (shs T h r n).length ((shs T h r n).map (Value.int .i64)) ∧ Below W0.heap.size W0 wr) (fun _ i _ => 11 - (intOf i).toNat)
  case atStart => exact ⟨0, by omega, rfl, World.ownsRow_nil _ _ _ _, Below.refl _ _⟩
  case round =>
    obtain ⟨n, hn, rfl, hown, hbel⟩ := hrel
    obtain ⟨hc, hf⟩ := bcell hbel
    have hz := hbel.size
    have e0 := (hc w.heap.size 0 (by omega)).trans r0
    have e1 := (hc w.heap.size 1 (by omega)).trans r1
    have g0 := (hf w.heap.size 0 (by omega)).trans f0
    have g1 := (hf w.heap.size 1 (by omega)).trans f1
    have hs0 : w.heap.size < wr.heap.size := by omega
    have hln := shs_len T h r n
    clear hc hf r0 r1 f0 f1
    by_cases hlt : n < 11
    · cases hp : inBandB T h r n
      · have HPn := hid hp
        have hp' : inB h (bandLoI T n r) (bandHiI T n r) = false := hp
        clear hp
        go_wp2_with (first | (go_at_call 106; refine (blind_band _ _ _ _ (by omega) (by omega) (by omega) (by omega) (by omega) (by omega)).mono ?_; rintro _ w1 ⟨rfl, hb1⟩; obtain ⟨hc1, hf1⟩ := bcell hb1; have hz1 := hb1.size; (try simp only [World.size_alloc, World.heap_drewN] at hz1); have hk1_0 : w.heap.size < w1.heap.size := (by omega)) | (go_at_call 77; refine (blind_within _ _ _ _).mono ?_; rintro _ _ ⟨rfl, rfl⟩))
        go_roundw
        case rel =>
          refine ⟨n + 1, by omega, by go_num, ?_, ?_⟩
          · rw [shs, if_neg (by rw [HPn.out]; simp)]
            exact (ownsRow_below hown hb1).alloc _
          · (repeat (with_reducible first | exact Below.refl _ _ | assumption | refine Below.drewN _ ?_ | refine Below.drew ?_ | refine Below_alloc ?_ _ | refine Below.alloc ?_ (by first | (simp; done) | (simp; omega) | omega) _ | refine Below.setCell ?_ (by first | (simp; done) | (simp; omega) | omega) _ | refine Below_call ?_ (by assumption) | refine Below.trans ?_ (by assumption)))
        case measure => simp [intOf]; omega
      · have HPn := hid hp
        have hp' : inB h (bandLoI T n r) (bandHiI T n r) = true := hp
        clear hp
        go_wp2_with (first | (go_at_call 106; refine (blind_band _ _ _ _ (by omega) (by omega) (by omega) (by omega) (by omega) (by omega)).mono ?_; rintro _ w1 ⟨rfl, hb1⟩; obtain ⟨hc1, hf1⟩ := bcell hb1; have hz1 := hb1.size; (try simp only [World.size_alloc, World.heap_drewN] at hz1); have hk1_0 : w.heap.size < w1.heap.size := (by omega)) | (go_at_call 77; refine (blind_within _ _ _ _).mono ?_; rintro _ _ ⟨rfl, rfl⟩) | (at_builtin; refine wpList_push rfl _ _ _ rfl elemInt W0.heap.size _ (shs T h r n).length _ rfl _ ((ownsRow_below hown hb1).alloc _) [.int .i64 n] rfl (by simp [Value.oneCell']) rfl (w1.heap.size + 1) (by simp) rfl (by omega) (by unfold maxLen; omega) (by simp; omega) ?_; intro v1 w2 hown3 hb3 _ _))
        go_roundw
        case rel =>
          refine ⟨n + 1, by omega, by go_num, ?_, ?_⟩
          · rw [shs, if_pos HPn.out]
            simpa using hown3
          · (repeat (with_reducible first | exact Below.refl _ _ | assumption | refine Below.drewN _ ?_ | refine Below.drew ?_ | refine Below_alloc ?_ _ | refine Below.alloc ?_ (by first | (simp; done) | (simp; omega) | omega) _ | refine Below.setCell ?_ (by first | (simp; done) | (simp; omega) | omega) _ | refine Below_call ?_ (by assumption) | refine Below.trans ?_ (by assumption)))
        case measure => simp [intOf]; omega
    · have hn11 : n = 11 := by omega
      subst hn11
      obtain ⟨s1, s2⟩ := shs_spec T h r 11 (by omega)
      have hints := ownsRow_ints hown
      obtain ⟨ao, cap, rfl, -, -, -⟩ := hints.opn
      by_cases hl : (shs T h r 11).length = 0
      · have hno := hid (s1 hl).1
        have hl' : (((shs T h r 11).length : Int) == 0) = true := by simpa using hl
        have HLN := hid hl
        clear s1 s2 hl
        go_wp2_with fail
        ((try simp only [Exit.inBlock, Exit.then]); refine bodyPost_ret (v := .tuple #[.agg #[.int .i64 0, .int .i64 0], .bool false]) ?_ rfl ?_; (next => simp [results, Try.results102, go_sem, hs0, e0, e1]); refine ⟨?_, ?_⟩; (next => rw [limV_no hno.out]); (next => (repeat (with_reducible first | exact Below.refl _ _ | assumption | refine Below.drewN _ ?_ | refine Below.drew ?_ | refine Below_alloc ?_ _ | refine Below.alloc ?_ (by first | (simp; done) | (simp; omega) | omega) _ | refine Below.setCell ?_ (by first | (simp; done) | (simp; omega) | omega) _ | refine Below_call ?_ (by assumption) | refine Below.trans ?_ (by assumption)))))
      · obtain ⟨y1, y2, y3⟩ := s2 (by omega)
        have hyes := hid (show limHi T h r 11 ≠ -1 by omega)
        have hl' : (((shs T h r 11).length : Int) == 0) = false := by simpa using hl
        have HMN := hid y2
        have HMX := hid y3
        have hpos : 0 < (shs T h r 11).length := by omega
        clear s1 s2 hl y1 y2 y3
        go_wp2_with (first | (go_at_call 141; refine (slices_Min _ _ _ hints hpos).mono ?_; rintro _ _ ⟨rfl, rfl⟩) | (go_at_call 142; refine (slices_Max _ _ _ hints hpos).mono ?_; rintro _ _ ⟨rfl, rfl⟩))
        rw [HMN.out, HMX.out]
        ((try simp only [Exit.inBlock, Exit.then]); refine bodyPost_ret (v := .tuple #[.agg #[.int .i64 (limLo T h r 11), .int .i64 (limHi T h r 11)], .bool true]) ?_ rfl ?_; (next => simp [results, Try.results102, go_sem, hs0, e0, e1]); refine ⟨?_, ?_⟩; (next => rw [limV_yes hyes.out]); (next => (repeat (with_reducible first | exact Below.refl _ _ | assumption | refine Below.drewN _ ?_ | refine Below.drew ?_ | refine Below_alloc ?_ _ | refine Below.alloc ?_ (by first | (simp; done) | (simp; omega) | omega) _ | refine Below.setCell ?_ (by first | (simp; done) | (simp; omega) | omega) _ | refine Below_call ?_ (by assumption) | refine Below.trans ?_ (by assumption)))))


end Go.Proofs.Ytllddidjiabegaa

/- Contracts of limits and coverages in the program, third part. -/
set_option linter.unusedVariables false
set_option linter.unusedSimpArgs false
namespace Go.Proofs.Ytllddidjiabegaa
open Go.RowKit

def limE (T h r : Int) : List Int := [trErr T, hitErr T h, rskErr r]
def limErr (T h r : Int) : Int := if firstNZ (limE T h r) = 0 then (if limHi T h r 11 = -1 then 12 else 0) else firstNZ (limE T h r)
def limForV (T h r : Int) : Value := .tuple #[if limErr T h r = 0 then .agg #[.int .i64 (limLo T h r 11), .int .i64 (limHi T h r 11)] else .agg #[.int .i64 0, .int .i64 0], .int .i64 (limErr T h r)]

set_option maxRecDepth 100000 in
set_option maxHeartbeats 1000000 in
theorem blind_LimitsFor (T h r : Int) (w : World) : Calls Try.prog 47 #[.int .i64 T, .int .i64 h, .int .i64 r] w fun e w' => e = .returned (limForV T h r) ∧ Below w.heap.size w w' := by
  by_cases he : firstNZ [trErr T, hitErr T h, rskErr r] = 0
  · have HE : Hid (firstNZ (limE T h r) = 0) := hid he
    have h2 := firstNZ_zero.1 he
    have h3 := trErr_ok (h2 (trErr T) (by simp))
    have h4 := hitErr_ok (h2 (hitErr T h) (by simp))
    have h5 := rskErr_ok (h2 (rskErr r) (by simp))
    have he' : (firstNZ [trErr T, hitErr T h, rskErr r] != 0) = false := by simpa using he
    clear he h2
    by_cases hh : limHi T h r 11 = -1
    · have HH := hid hh
      have HV := hid (limV_no hh)
      clear hh
      go_enter Try.func47, Try.ntmps47
      go_wp2_with (first | (go_at_call 90; refine (blind_trialsErr _ _).mono ?_; rintro _ _ ⟨rfl, rfl⟩) | (go_at_call 104; refine (blind_hitsErr _ _ _).mono ?_; rintro _ _ ⟨rfl, rfl⟩) | (go_at_call 101; refine (blind_riskErr _ _).mono ?_; rintro _ _ ⟨rfl, rfl⟩) | (go_at_call 75; refine (blind_first [trErr T, hitErr T h, rskErr r] _ _ (intsAt_new _ _ _ _ _ rfl (by simp) (by simp))).mono ?_; rintro _ _ ⟨rfl, rfl⟩) | (go_at_call 102; refine ((by rw [← HV.out]; exact blind_limits _ _ _ _ (by omega) (by omega) (by omega) (by omega) : Calls Try.prog 102 #[.int .i64 T, .int .i64 h, .int .i64 r] _ fun e w' => e = .returned (.tuple #[.agg #[.int .i64 0, .int .i64 0], .bool false]) ∧ Below _ _ w')).mono ?_; rintro _ w1 ⟨rfl, hb1⟩; obtain ⟨hc1, hf1⟩ := bcell hb1; have hz1 := hb1.size; (try simp only [World.size_alloc, World.heap_drewN] at hz1); have hk1_0 : w.heap.size < w1.heap.size := (by omega); have q1_0_0 := hc1 (w.heap.size) 0 (by first | assumption | (simp; done) | (simp; omega)); (try simp at q1_0_0); have p1_0_0 := hf1 (w.heap.size) 0 (by first | assumption | (simp; done) | (simp; omega)); (try simp at p1_0_0); have q1_0_1 := hc1 (w.heap.size) 1 (by first | assumption | (simp; done) | (simp; omega)); (try simp at q1_0_1); have p1_0_1 := hf1 (w.heap.size) 1 (by first | assumption | (simp; done) | (simp; omega)); (try simp at p1_0_1)))
      ((refine wp_three [] [0, 1, 2] 3 (by kernel_rfl) (by kernel_rfl) ?_); (intro _ _); (simp only [pick, List.drop_succ_cons, List.drop_zero, List.head?_cons, Option.toList_some, List.cons_append, List.nil_append]); (repeat (first | (go_big_quiet_step ((go_at_call 78; exact quiet_same (blind_unless _ _ _) ⟨_, rfl⟩))) | (quiet_step ((go_at_call 78; exact quiet_same (blind_unless _ _ _) ⟨_, rfl⟩))))); (try refine wpQuiet_nil ?_); (repeat (first | (go_big_quiet_step ((go_at_call 78; exact quiet_same (blind_unless _ _ _) ⟨_, rfl⟩))) | (quiet_step ((go_at_call 78; exact quiet_same (blind_unless _ _ _) ⟨_, rfl⟩))))); (try refine wpQuiet_nil ?_); (intro nq))
      go_wp2
      ((try simp only [Exit.inBlock, Exit.then]); refine bodyPost_ret (v := .tuple #[.agg #[.int .i64 0, .int .i64 0], .int .i64 12]) ?_ rfl ?_; (next => simp [results, Try.results47, go_sem, hk1_0, q1_0_0, q1_0_1, unl]); refine ⟨?_, ?_⟩; (next => simp [limForV, limErr, HE.out, HH.out]); (next => (repeat (with_reducible first | exact Below.refl _ _ | assumption | refine Below.drewN _ ?_ | refine Below.drew ?_ | refine Below_alloc ?_ _ | refine Below.alloc ?_ (by first | (simp; done) | (simp; omega) | omega) _ | refine Below.setCell ?_ (by first | (simp; done) | (simp; omega) | omega) _ | refine Below_call ?_ (by assumption) | refine Below.trans ?_ (by assumption)))))
    · have HH := hid hh
      have HV := hid (limV_yes hh)
      clear hh
      go_enter Try.func47, Try.ntmps47
      go_wp2_with (first | (go_at_call 90; refine (blind_trialsErr _ _).mono ?_; rintro _ _ ⟨rfl, rfl⟩) | (go_at_call 104; refine (blind_hitsErr _ _ _).mono ?_; rintro _ _ ⟨rfl, rfl⟩) | (go_at_call 101; refine (blind_riskErr _ _).mono ?_; rintro _ _ ⟨rfl, rfl⟩) | (go_at_call 75; refine (blind_first [trErr T, hitErr T h, rskErr r] _ _ (intsAt_new _ _ _ _ _ rfl (by simp) (by simp))).mono ?_; rintro _ _ ⟨rfl, rfl⟩) | (go_at_call 102; refine ((by rw [← HV.out]; exact blind_limits _ _ _ _ (by omega) (by omega) (by omega) (by omega) : Calls Try.prog 102 #[.int .i64 T, .int .i64 h, .int .i64 r] _ fun e w' => e = .returned (.tuple #[.agg #[.int .i64 (limLo T h r 11), .int .i64 (limHi T h r 11)], .bool true]) ∧ Below _ _ w')).mono ?_; rintro _ w1 ⟨rfl, hb1⟩; obtain ⟨hc1, hf1⟩ := bcell hb1; have hz1 := hb1.size; (try simp only [World.size_alloc, World.heap_drewN] at hz1); have hk1_0 : w.heap.size < w1.heap.size := (by omega); have q1_0_0 := hc1 (w.heap.size) 0 (by first | assumption | (simp; done) | (simp; omega)); (try simp at q1_0_0); have p1_0_0 := hf1 (w.heap.size) 0 (by first | assumption | (simp; done) | (simp; omega)); (try simp at p1_0_0); have q1_0_1 := hc1 (w.heap.size) 1 (by first | assumption | (simp; done) | (simp; omega)); (try simp at q1_0_1); have p1_0_1 := hf1 (w.heap.size) 1 (by first | assumption | (simp; done) | (simp; omega)); (try simp at p1_0_1)))
      ((refine wp_three [] [0, 1, 2] 3 (by kernel_rfl) (by kernel_rfl) ?_); (intro _ _); (simp only [pick, List.drop_succ_cons, List.drop_zero, List.head?_cons, Option.toList_some, List.cons_append, List.nil_append]); (repeat (first | (go_big_quiet_step ((go_at_call 78; exact quiet_same (blind_unless _ _ _) ⟨_, rfl⟩))) | (quiet_step ((go_at_call 78; exact quiet_same (blind_unless _ _ _) ⟨_, rfl⟩))))); (try refine wpQuiet_nil ?_); (repeat (first | (go_big_quiet_step ((go_at_call 78; exact quiet_same (blind_unless _ _ _) ⟨_, rfl⟩))) | (quiet_step ((go_at_call 78; exact quiet_same (blind_unless _ _ _) ⟨_, rfl⟩))))); (try refine wpQuiet_nil ?_); (intro nq))
      go_wp2
      ((try simp only [Exit.inBlock, Exit.then]); refine bodyPost_ret (v := .tuple #[.agg #[.int .i64 (limLo T h r 11), .int .i64 (limHi T h r 11)], .int .i64 0]) ?_ rfl ?_; (next => simp [results, Try.results47, go_sem, hk1_0, q1_0_0, q1_0_1, unl]); refine ⟨?_, ?_⟩; (next => simp [limForV, limErr, HE.out, HH.out]); (next => (repeat (with_reducible first | exact Below.refl _ _ | assumption | refine Below.drewN _ ?_ | refine Below.drew ?_ | refine Below_alloc ?_ _ | refine Below.alloc ?_ (by first | (simp; done) | (simp; omega) | omega) _ | refine Below.setCell ?_ (by first | (simp; done) | (simp; omega) | omega) _ | refine Below_call ?_ (by assumption) | refine Below.trans ?_ (by assumption)))))
  · have HE : Hid (¬ firstNZ (limE T h r) = 0) := hid he
    have he' : (firstNZ [trErr T, hitErr T h, rskErr r] != 0) = true := by simpa using he
    clear he
    go_enter Try.func47, Try.ntmps47
    go_wp2_with (first | (go_at_call 90; refine (blind_trialsErr _ _).mono ?_; rintro _ _ ⟨rfl, rfl⟩) | (go_at_call 104; refine (blind_hitsErr _ _ _).mono ?_; rintro _ _ ⟨rfl, rfl⟩) | (go_at_call 101; refine (blind_riskErr _ _).mono ?_; rintro _ _ ⟨rfl, rfl⟩) | (go_at_call 75; refine (blind_first [trErr T, hitErr T h, rskErr r] _ _ (intsAt_new _ _ _ _ _ rfl (by simp) (by simp))).mono ?_; rintro _ _ ⟨rfl, rfl⟩))
    ((try simp only [Exit.inBlock, Exit.then]); refine bodyPost_ret (v := .tuple #[.agg #[.int .i64 0, .int .i64 0], .int .i64 (firstNZ [trErr T, hitErr T h, rskErr r])]) ?_ rfl ?_; (next => simp [results, Try.results47, go_sem]); refine ⟨?_, ?_⟩; (next => simp only [limForV, limErr, if_neg HE.out]; rfl); (next => (repeat (with_reducible first | exact Below.refl _ _ | assumption | refine Below.drewN _ ?_ | refine Below.drew ?_ | refine Below_alloc ?_ _ | refine Below.alloc ?_ (by first | (simp; done) | (simp; omega) | omega) _ | refine Below.setCell ?_ (by first | (simp; done) | (simp; omega) | omega) _ | refine Below_call ?_ (by assumption) | refine Below.trans ?_ (by assumption)))))

/-- the limits of a count contain a share. -/
def covB (T S r : Int) (h : Nat) : Bool := (limHi T h r 11 != -1) && inB S (limLo T h r 11) (limHi T h r 11)
/-- the sequences with a count below n whose limits contain a share. -/
def cov (T S r : Int) : Nat → Int
  | 0 => 0
  | n + 1 => cov T S r n + (if covB T S r n = true then exI T n S else 0)
theorem exI_nonneg (T H S : Int) : 0 ≤ exI T H S := by unfold exI; omega
theorem cov_bound (T S r : Int) (n : Nat) : 0 ≤ cov T S r n ∧ cov T S r n ≤ (sumFrom (ex S.toNat (10 - S.toNat) T.toNat) 0 n : Nat) := by
  induction n with
  | zero => simp [cov, sumFrom]
  | succ n ih =>
    have h1 := exI_nonneg T n S
    have h2 : exI T n S = (ex S.toNat (10 - S.toNat) T.toNat n : Nat) := by simp [exI]
    simp only [cov, sumFrom, Nat.zero_add]
    split <;> omega
theorem cov_le {T S : Int} (r : Int) {n : Nat} (h0 : 0 ≤ T) (h1 : T ≤ 12) (h3 : S ≤ 10) (hn : n ≤ T.toNat + 1) : 0 ≤ cov T S r n ∧ cov T S r n ≤ 1000000000000 := by
  have h4 := cov_bound T S r n
  have h5 := sumFrom_le (f := ex S.toNat (10 - S.toNat) T.toNat) (a := 0) hn
  have h6 := waysN_zero (s := S.toNat) (t := T.toNat) (by omega)
  have h7 := ten_le (t := T.toNat) (by omega)
  unfold waysN at h6
  rw [show T.toNat + 1 - 0 = T.toNat + 1 from rfl] at h6
  omega

def covE (T S r : Int) : List Int := [trErr T, tenErr S, rskErr r]
def covV (T S r : Int) : Value := .tuple #[.int .i64 (if firstNZ (covE T S r) = 0 then cov T S r (T.toNat + 1) else 0), .int .i64 (firstNZ (covE T S r))]

set_option maxRecDepth 100000 in
set_option maxHeartbeats 1000000 in
theorem blind_CoverageOf (T S r : Int) (w : World) : Calls Try.prog 43 #[.int .i64 T, .int .i64 S, .int .i64 r] w fun e w' => e = .returned (covV T S r) ∧ Below w.heap.size w w' := by
  by_cases he : firstNZ [trErr T, tenErr S, rskErr r] = 0
  · have HE : Hid (firstNZ (covE T S r) = 0) := hid he
    have h2 := firstNZ_zero.1 he
    have h3 := trErr_ok (h2 (trErr T) (by simp))
    have h4 := tenErr_ok (h2 (tenErr S) (by simp))
    have h5 := rskErr_ok (h2 (rskErr r) (by simp))
    have he' : (firstNZ [trErr T, tenErr S, rskErr r] != 0) = false := by simpa using he
    clear he h2
    obtain ⟨t, rfl⟩ := Int.eq_ofNat_of_zero_le (show 0 ≤ T by omega)
    go_enter Try.func43, Try.ntmps43
    go_wp2_with (first | (go_at_call 90; refine (blind_trialsErr _ _).mono ?_; rintro _ _ ⟨rfl, rfl⟩) | (go_at_call 100; refine (blind_tenthsErr _ _).mono ?_; rintro _ _ ⟨rfl, rfl⟩) | (go_at_call 101; refine (blind_riskErr _ _).mono ?_; rintro _ _ ⟨rfl, rfl⟩) | (go_at_call 75; refine (blind_first [trErr t, tenErr S, rskErr r] _ _ (intsAt_new _ _ _ _ _ rfl (by simp) (by simp))).mono ?_; rintro _ _ ⟨rfl, rfl⟩))
    go_loopw [9, 26] (fun s i wr => ∃ n : Nat, n ≤ t + 1 ∧ s = .int .i64 (cov t S r n) ∧ i = .int .i64 n ∧ Below w.heap.size w wr) (fun _ i _ => t + 1 - (intOf i).toNat)
    case atStart => exact ⟨0, by omega, rfl, rfl, by (repeat (with_reducible first | exact Below.refl _ _ | assumption | refine Below.drewN _ ?_ | refine Below.drew ?_ | refine Below_alloc ?_ _ | refine Below.alloc ?_ (by first | (simp; done) | (simp; omega) | omega) _ | refine Below.setCell ?_ (by first | (simp; done) | (simp; omega) | omega) _ | refine Below_call ?_ (by assumption) | refine Below.trans ?_ (by assumption)))⟩
    case round =>
      obtain ⟨n, hn, rfl, rfl, hbel⟩ := hrel
      have hcb := cov_le (T := t) (S := S) r (n := n) (by omega) (by omega) (by omega) (by simp; omega)
      by_cases hlt : n < t + 1
      · have hcb1 := cov_le (T := t) (S := S) r (n := n + 1) (by omega) (by omega) (by omega) (by simp; omega)
        by_cases hh : limHi t n r 11 = -1
        · have HV := hid (limV_no hh)
          have HC : Hid (cov t S r (n + 1) = cov t S r n) := hid (by simp [cov, covB, hh])
          clear hh hcb1
          go_wp2_with (first | (go_at_call 102; refine ((by rw [← HV.out]; exact blind_limits _ _ _ _ (by omega) (by omega) (by omega) (by omega) : Calls Try.prog 102 #[.int .i64 t, .int .i64 n, .int .i64 r] _ fun e w' => e = .returned (.tuple #[.agg #[.int .i64 0, .int .i64 0], .bool false]) ∧ Below _ _ w')).mono ?_; rintro _ w1 ⟨rfl, hb1⟩; obtain ⟨hc1, hf1⟩ := bcell hb1; have hz1 := hb1.size; (try simp only [World.size_alloc, World.heap_drewN] at hz1)))
          go_roundw
          case rel => exact ⟨n + 1, by omega, by rw [HC.out], by go_num, by (repeat (with_reducible first | exact Below.refl _ _ | assumption | refine Below.drewN _ ?_ | refine Below.drew ?_ | refine Below_alloc ?_ _ | refine Below.alloc ?_ (by first | (simp; done) | (simp; omega) | omega) _ | refine Below.setCell ?_ (by first | (simp; done) | (simp; omega) | omega) _ | refine Below_call ?_ (by assumption) | refine Below.trans ?_ (by assumption)))⟩
          case measure => simp [intOf]; omega
        · have HV := hid (limV_yes hh)
          cases hi : inB S (limLo t n r 11) (limHi t n r 11)
          · have HC : Hid (cov t S r (n + 1) = cov t S r n) := hid (by simp [cov, covB, hi])
            clear hh hcb1
            go_wp2_with (first | (go_at_call 102; refine ((by rw [← HV.out]; exact blind_limits _ _ _ _ (by omega) (by omega) (by omega) (by omega) : Calls Try.prog 102 #[.int .i64 t, .int .i64 n, .int .i64 r] _ fun e w' => e = .returned (.tuple #[.agg #[.int .i64 (limLo t n r 11), .int .i64 (limHi t n r 11)], .bool true]) ∧ Below _ _ w')).mono ?_; rintro _ w1 ⟨rfl, hb1⟩; obtain ⟨hc1, hf1⟩ := bcell hb1; have hz1 := hb1.size; (try simp only [World.size_alloc, World.heap_drewN] at hz1)) | (go_at_call 77; refine (blind_within _ _ _ _).mono ?_; rintro _ _ ⟨rfl, rfl⟩))
            go_roundw
            case rel => exact ⟨n + 1, by omega, by rw [HC.out], by go_num, by (repeat (with_reducible first | exact Below.refl _ _ | assumption | refine Below.drewN _ ?_ | refine Below.drew ?_ | refine Below_alloc ?_ _ | refine Below.alloc ?_ (by first | (simp; done) | (simp; omega) | omega) _ | refine Below.setCell ?_ (by first | (simp; done) | (simp; omega) | omega) _ | refine Below_call ?_ (by assumption) | refine Below.trans ?_ (by assumption)))⟩
            case measure => simp [intOf]; omega
          · have HC : Hid (cov t S r (n + 1) = cov t S r n + exI t n S) := hid (by simp [cov, covB, hi, hh])
            have hcb2 : 0 ≤ cov t S r n + exI t n S ∧ cov t S r n + exI t n S ≤ 1000000000000 := by rw [← HC.out]; exact hcb1
            clear hh hcb1
            go_wp2_with (first | (go_at_call 102; refine ((by rw [← HV.out]; exact blind_limits _ _ _ _ (by omega) (by omega) (by omega) (by omega) : Calls Try.prog 102 #[.int .i64 t, .int .i64 n, .int .i64 r] _ fun e w' => e = .returned (.tuple #[.agg #[.int .i64 (limLo t n r 11), .int .i64 (limHi t n r 11)], .bool true]) ∧ Below _ _ w')).mono ?_; rintro _ w1 ⟨rfl, hb1⟩; obtain ⟨hc1, hf1⟩ := bcell hb1; have hz1 := hb1.size; (try simp only [World.size_alloc, World.heap_drewN] at hz1)) | (go_at_call 77; refine (blind_within _ _ _ _).mono ?_; rintro _ _ ⟨rfl, rfl⟩) | (go_at_call 103; refine (blind_exactly _ _ _ _ (by omega) (by omega) (by omega) (by omega) (by omega)).mono ?_; rintro _ _ ⟨rfl, rfl⟩))
            go_roundw
            case rel => exact ⟨n + 1, by omega, by rw [HC.out], by go_num, by (repeat (with_reducible first | exact Below.refl _ _ | assumption | refine Below.drewN _ ?_ | refine Below.drew ?_ | refine Below_alloc ?_ _ | refine Below.alloc ?_ (by first | (simp; done) | (simp; omega) | omega) _ | refine Below.setCell ?_ (by first | (simp; done) | (simp; omega) | omega) _ | refine Below_call ?_ (by assumption) | refine Below.trans ?_ (by assumption)))⟩
            case measure => simp [intOf]; omega
      · have hnt : n = t + 1 := by omega
        subst hnt
        go_wp2_with fail
        go_ret2
        exact ⟨by simp [covV, HE.out], by (repeat (with_reducible first | exact Below.refl _ _ | assumption | refine Below.drewN _ ?_ | refine Below.drew ?_ | refine Below_alloc ?_ _ | refine Below.alloc ?_ (by first | (simp; done) | (simp; omega) | omega) _ | refine Below.setCell ?_ (by first | (simp; done) | (simp; omega) | omega) _ | refine Below_call ?_ (by assumption) | refine Below.trans ?_ (by assumption)))⟩
  · have HE : Hid (¬ firstNZ (covE T S r) = 0) := hid he
    have he' : (firstNZ [trErr T, tenErr S, rskErr r] != 0) = true := by simpa using he
    clear he
    go_enter Try.func43, Try.ntmps43
    go_wp2_with (first | (go_at_call 90; refine (blind_trialsErr _ _).mono ?_; rintro _ _ ⟨rfl, rfl⟩) | (go_at_call 100; refine (blind_tenthsErr _ _).mono ?_; rintro _ _ ⟨rfl, rfl⟩) | (go_at_call 101; refine (blind_riskErr _ _).mono ?_; rintro _ _ ⟨rfl, rfl⟩) | (go_at_call 75; refine (blind_first [trErr T, tenErr S, rskErr r] _ _ (intsAt_new _ _ _ _ _ rfl (by simp) (by simp))).mono ?_; rintro _ _ ⟨rfl, rfl⟩))
    go_ret2
    exact ⟨by simp only [covV, if_neg HE.out]; rfl, by (repeat (with_reducible first | exact Below.refl _ _ | assumption | refine Below.drewN _ ?_ | refine Below.drew ?_ | refine Below_alloc ?_ _ | refine Below.alloc ?_ (by first | (simp; done) | (simp; omega) | omega) _ | refine Below.setCell ?_ (by first | (simp; done) | (simp; omega) | omega) _ | refine Below_call ?_ (by assumption) | refine Below.trans ?_ (by assumption)))⟩

end Go.Proofs.Ytllddidjiabegaa

/- Contracts of the reference's sequences, trial by trial. -/
set_option linter.unusedVariables false
set_option linter.unusedSimpArgs false
namespace Go.Proofs.Ytllddidjiabegaa
open Go.RowKit

/-- the call returns a slice that reads as a list, and leaves old memory alone. -/
def RetInts (w : World) (l : List Int) (e : Ending) (w' : World) : Prop := ∃ v, e = .returned v ∧ IntsAt w' v l ∧ Below w.heap.size w w'

/-- the numbers of sequences with 0, 1, .. hits. -/
def exRow (s u t : Nat) : List Int := (List.range (t + 1)).map fun k => (ex s u t k : Int)
theorem exRow_len (s u t : Nat) : (exRow s u t).length = t + 1 := by simp [exRow]
theorem exRow_nth {s u t k : Nat} (h : k ≤ t) : nth (exRow s u t) k = (ex s u t k : Int) := by simp [exRow, nth, List.getD, Nat.lt_succ_of_le h]

/-- the next row when the first k numbers of the row have been used. -/
def nxAt (s u t k j : Nat) : Int := (if j < k then (ex s u t j : Int) * u else 0) + (if 1 ≤ j ∧ j ≤ k then (ex s u t (j - 1) : Int) * s else 0)
def nxRow (s u t k : Nat) : List Int := (List.range (t + 2)).map (nxAt s u t k)
theorem nxRow_len (s u t k : Nat) : (nxRow s u t k).length = t + 2 := by simp [nxRow]
theorem nxRow_nth {s u t k j : Nat} (h : j < t + 2) : nth (nxRow s u t k) j = nxAt s u t k j := by simp [nxRow, nth, List.getD, h]
theorem nxRow_end (s u t : Nat) : nxRow s u t (t + 1) = exRow s u (t + 1) := by
  unfold nxRow exRow
  refine List.map_congr_left fun j hj => ?_
  have hj' : j < t + 2 := List.mem_range.1 hj
  unfold nxAt
  cases j with
  | zero => simp [ex]
  | succ j =>
    simp only [ex]
    by_cases e : j < t
    · rw [if_pos (by omega), if_pos (by omega)]; simp
    · have : j = t := by omega
      subst this
      rw [if_neg (by omega), if_pos (by omega), ex_big (by omega : j < j + 1)]; simp
theorem nxRow_zero (s u t : Nat) : nxRow s u t 0 = List.replicate (t + 2) 0 := by
  unfold nxRow
  apply List.ext_getElem (by simp)
  intro j h1 h2
  simp [nxAt]; omega
theorem nxRow_step {s u t k : Nat} (h : k ≤ t) : ((nxRow s u t k).set k (nxAt s u t k k + (ex s u t k : Int) * u)).set (k + 1) (nxAt s u t k (k + 1) + (ex s u t k : Int) * s) = nxRow s u t (k + 1) := by
  apply List.ext_getElem (by simp [nxRow])
  intro j h1 h2
  have hj : j < t + 2 := by simpa [nxRow] using h2
  rw [List.getElem_set, List.getElem_set]
  simp only [nxRow, List.getElem_map, List.getElem_range]
  by_cases e1 : k + 1 = j
  · subst e1
    simp only [if_true, nxAt]
    rw [if_neg (by omega : ¬ k + 1 < k), if_neg (by omega : ¬ (1 ≤ k + 1 ∧ k + 1 ≤ k)), if_neg (by omega : ¬ k + 1 < k + 1), if_pos (by omega : 1 ≤ k + 1 ∧ k + 1 ≤ k + 1), Nat.add_sub_cancel]; omega
  · rw [if_neg e1]
    by_cases e2 : k = j
    · subst e2
      simp only [if_true, nxAt]
      rw [if_neg (by omega : ¬ k < k), if_pos (by omega : k < k + 1)]
      by_cases e3 : 1 ≤ k
      · rw [if_pos ⟨e3, Nat.le_refl _⟩, if_pos ⟨e3, by omega⟩]; omega
      · rw [if_neg (by omega), if_neg (by omega)]; omega
    · rw [if_neg e2]
      simp only [nxAt]
      by_cases e4 : j < k
      · rw [if_pos e4, if_pos (by omega : j < k + 1)]
        by_cases e3 : 1 ≤ j
        · rw [if_pos ⟨e3, by omega⟩, if_pos ⟨e3, by omega⟩]
        · rw [if_neg (by omega), if_neg (by omega)]
      · rw [if_neg e4, if_neg (by omega : ¬ j < k + 1), if_neg (by omega), if_neg (by omega)]

theorem map_nth {l : List Int} {i : Nat} (h : i < l.length) : (l.map (Value.int .i64))[i]? = some (.int .i64 (nth l i)) := by simp [nth, List.getD, h]

theorem exB {s t k : Nat} (hs : s ≤ 10) (ht : t ≤ 12) (x : Nat) (hx : x ≤ 10) : 0 ≤ (ex s (10 - s) t k : Int) * x ∧ (ex s (10 - s) t k : Int) * x ≤ 10000000000000 := by
  have h1 := ex_le (s := s) (t := t) (k := k) hs
  have h2 := ten_le ht
  have h3 : ex s (10 - s) t k * x ≤ 1000000000000 * 10 := Nat.mul_le_mul (by omega) hx
  rw [← Int.natCast_mul]
  omega
theorem nxAtB {s t k j : Nat} (hs : s ≤ 10) (ht : t ≤ 12) : 0 ≤ nxAt s (10 - s) t k j ∧ nxAt s (10 - s) t k j ≤ 20000000000000 := by
  have h1 := exB (k := j) hs ht (10 - s) (by omega)
  have h2 := exB (k := j - 1) hs ht s (by omega)
  unfold nxAt
  split <;> split <;> omega

theorem ref_All (t : Nat) (w : World) (h : t ≤ 12) :
    Calls Try.prog 45 #[.int .i64 t] w fun e w' => e = .returned (.int .i64 ((10 ^ t : Nat) : Int)) ∧ w = w' := by
  go_enter Try.func45, Try.ntmps45
  go_wp2_with fail
  go_loop [3, 4] (fun n i => ∃ k : Nat, k ≤ t ∧ n = .int .i64 ((10 ^ k : Nat) : Int) ∧ i = .int .i64 k) (fun _ i => t - (intOf i).toNat)
  case atStart => exact ⟨0, by omega, rfl, rfl⟩
  case round =>
    obtain ⟨k, hk, rfl, rfl⟩ := hrel
    obtain ⟨A, hA⟩ : ∃ A : Nat, A = 10 ^ k := ⟨_, rfl⟩
    rw [← hA]
    have h1 := ten_le (t := k) (by omega)
    rw [← hA] at h1
    have HA := hid hA
    clear hA
    by_cases hlt : k < t
    · go_wp2_with fail
      go_round
      case rel => exact ⟨k + 1, by omega, by rw [Nat.pow_succ, ← HA.out]; simp, by go_num⟩
      case measure => simp [intOf]; omega
    · go_wp2_with fail
      go_ret
      exact ⟨ret_int (by rw [HA.out, show k = t from by omega]; push_cast; rfl), rfl⟩

set_option maxRecDepth 100000 in
set_option maxHeartbeats 1000000 in
theorem ref_Exactly (t s : Nat) (w : World) (h : t ≤ 12) (hs : s ≤ 10) :
    Calls Try.prog 107 #[.int .i64 t, .int .i64 s] w (RetInts w (exRow s (10 - s) t)) := by
  obtain ⟨i0, hi, hz0, hz1, hz2⟩ := info_parts infoInt
  go_enter Try.func107, Try.ntmps107
  go_wp2_with fail
  go_loopw [5, 6] (fun v i wr => ∃ j : Nat, j ≤ t ∧ i = .int .i64 j ∧ wr.ownsRow w.heap.size 3 1 v (j + 1) ((exRow s (10 - s) j).map (Value.int .i64)) ∧ Below w.heap.size w wr) (fun _ i _ => t - (intOf i).toNat)
  case atStart => exact ⟨0, Nat.zero_le _, rfl, ⟨by simp [exRow], Or.inr ⟨w.heap.size, 1, #[.int .i64 1], rfl, Nat.le_refl _, heap_alloc_new w _, by omega, by simp [maxLen], rfl, by simp [exRow, ex]⟩⟩, by (repeat (with_reducible first | exact Below.refl _ _ | assumption | refine Below.drewN _ ?_ | refine Below.drew ?_ | refine Below_alloc ?_ _ | refine Below.alloc ?_ (by first | (simp; done) | (simp; omega) | omega) _ | refine Below.setCell ?_ (by first | (simp; done) | (simp; omega) | omega) _ | refine Below_call ?_ (by assumption) | refine Below.trans ?_ (by assumption)))⟩
  case round =>
    obtain ⟨j, hj, rfl, hown, hbel⟩ := hrel
    obtain ⟨g, cap, rfl, hg1, hg2, hcap, hcap2, hlen, hcell, hfro⟩ := ownsRow_open hown (by omega)
    have hzw := hbel.size
    unfold maxLen at hcap2
    obtain ⟨wo, rfl⟩ : ∃ wo : World, wo = wr := ⟨_, rfl⟩
    by_cases hlt : j < t
    · have HCELL := hid hcell
      have HOWN := hid hown
      have HBEL := hid hbel
      clear hcell hfro hown hbel
      go_wp2_with (at_make; refine wpList_make_full wo rfl _ _ _ rfl wo.heap.size 3 i0 _ 1 Try.underlying33 hi hz0 hz1 _ _ _ _ (j + 2) rfl rfl (by omega) (by omega) (by rw [hz2]; omega) (by unfold maxLen; omega) (Nat.le_refl _) ?_; intro w1 hmade hgrow)
      have hmade' : w1.ownsRow wo.heap.size 3 1 (.slice (some ⟨wo.heap.size, 0, none⟩) (j + 2) (j + 2)) (j + 2) ((nxRow s (10 - s) j 0).map (Value.int .i64)) := by
        rw [nxRow_zero, List.map_replicate]
        have e := toList_madeCells_one (.int .i64 0) (j + 2)
        simpa [Value.cells, e] using hmade
      have hb0 : Below wo.heap.size wo w1 := (Below.refl _ _).grown hgrow (Nat.le_refl _) (fun k hk => by cases hk)
      clear hmade hgrow
      go_loopw [8] (fun k w2 => ∃ m : Nat, m ≤ j + 1 ∧ k = .int .i64 m ∧ w2.ownsRow wo.heap.size 3 1 (.slice (some ⟨wo.heap.size, 0, none⟩) (j + 2) (j + 2)) (j + 2) ((nxRow s (10 - s) j m).map (Value.int .i64)) ∧ Below wo.heap.size wo w2) (fun k _ => j + 1 - (intOf k).toNat)
      case atStart => exact ⟨0, by omega, rfl, hmade', hb0⟩
      case round =>
        obtain ⟨m, hm, rfl, hn2, hb2⟩ := hrel
        have hz2 := hb2.size
        by_cases hl2 : m < j + 1
        · have q0 := (hn2.cellAt m (by omega)).trans (map_nth (by rw [nxRow_len]; omega))
          have q1 := (hn2.cellAt (m + 1) (by omega)).trans (map_nth (by rw [nxRow_len]; omega))
          rw [nxRow_nth (by omega)] at q0 q1
          have p0 := hn2.frozenAt m
          have p1 := hn2.frozenAt (m + 1)
          have d0 : wr.cell? ⟨g, m, none⟩ = some (.int .i64 (ex s (10 - s) j m : Nat)) := by
            have e := HCELL.out m (by omega)
            rw [show (exRow s (10 - s) j).getD m 0 = (ex s (10 - s) j m : Nat) from exRow_nth (by omega)] at e
            rw [← e]; exact hb2.cell (p := ⟨g, m, none⟩) hg2
          have hne : g ≠ wo.heap.size := by omega
          have hne' : wo.heap.size ≠ g := by omega
          have x0 := nxAtB (k := m) (j := m) hs (show j ≤ 12 by omega)
          have x1 := nxAtB (k := m) (j := m + 1) hs (show j ≤ 12 by omega)
          have y0 := exB (k := m) hs (show j ≤ 12 by omega) (10 - s) (by omega)
          have y1 := exB (k := m) hs (show j ≤ 12 by omega) s hs
          have HU : Hid (((10 - s : Nat) : Int) = 10 - (s : Int)) := hid (by omega)
          rw [HU.out] at y0
          have hm0 : (0 : Int) ≤ (m : Int) := Int.natCast_nonneg _
          have hm1 : (m : Int) < (j : Int) + 1 := by omega
          have hm2 : (m : Int) + 1 < (j : Int) + 2 := by omega
          have HN2 := hid hn2
          clear hn2
          go_wp2_with fail
          ((refine wp_three [] [0, 1, 2, 3, 4, 5, 6, 7, 8, 9, 10, 11, 12, 13, 14] 15 (by kernel_rfl) (by kernel_rfl) ?_); (intro _ _); (simp only [pick, List.drop_succ_cons, List.drop_zero, List.head?_cons, Option.toList_some, List.cons_append, List.nil_append]); (repeat (first | (go_big_quiet_step (fail)) | (quiet_step (fail)))); (try refine wpQuiet_nil ?_); (repeat (first | (go_big_quiet_step (fail)) | (quiet_step (fail)))); (try refine wpQuiet_nil ?_); (intro nq))
          go_wp2
          ((refine wp_three [] [0, 1, 2, 3, 4, 5, 6, 7, 8, 9, 10, 11, 12, 13, 14, 15] 16 (by kernel_rfl) (by kernel_rfl) ?_); (intro _ _); (simp only [pick, List.drop_succ_cons, List.drop_zero, List.head?_cons, Option.toList_some, List.cons_append, List.nil_append]); (repeat (first | (go_big_quiet_step (fail)) | (quiet_step (fail)))); (try refine wpQuiet_nil ?_); (repeat (first | (go_big_quiet_step (fail)) | (quiet_step (fail)))); (try refine wpQuiet_nil ?_); (intro nq))
          go_wp2
          go_roundw
          case rel =>
            refine ⟨m + 1, by omega, by go_num, ?_, by (repeat (with_reducible first | exact Below.refl _ _ | assumption | refine Below.drewN _ ?_ | refine Below.drew ?_ | refine Below_alloc ?_ _ | refine Below.alloc ?_ (by first | (simp; done) | (simp; omega) | omega) _ | refine Below.setCell ?_ (by first | (simp; done) | (simp; omega) | omega) _ | refine Below_call ?_ (by assumption) | refine Below.trans ?_ (by assumption)))⟩
            have e : (nxRow s (10 - s) j (m + 1)).map (Value.int .i64) = (((nxRow s (10 - s) j m).map (Value.int .i64)).set m (.int .i64 (nxAt s (10 - s) j m m + (ex s (10 - s) j m : Nat) * (10 - (s : Int))))).set (m + 1) (.int .i64 (nxAt s (10 - s) j m (m + 1) + (ex s (10 - s) j m : Nat) * (s : Int))) := by
              rw [← nxRow_step (by omega), List.map_set, List.map_set, HU.out]
            rw [e]
            exact ((ownsRow_drewN _ ((ownsRow_drewN _ HN2.out).stored m _).1).stored (m + 1) _).1
          case measure => simp [intOf]; omega
        · have hmj : m = j + 1 := by omega
          subst hmj
          go_wp2_with fail
          go_roundw
          case rel =>
            refine ⟨j + 1, by omega, by go_num, ?_, ?_⟩
            · rw [← nxRow_end]; exact ownsRow_base hn2 hzw
            · exact HBEL.out.trans (hb2.mono hzw)
          case measure => simp [intOf]; omega
    · go_wp2_with fail
      go_ret
      refine ⟨_, rfl, ?_, hbel⟩
      rw [show t = j from by omega]
      exact ownsRow_ints (by rw [exRow_len]; exact hown)

end Go.Proofs.Ytllddidjiabegaa

/- Contracts of the reference's ways, bands, limits and coverages. -/
set_option linter.unusedVariables false
set_option linter.unusedSimpArgs false
namespace Go.Proofs.Ytllddidjiabegaa
open Go.RowKit

set_option maxRecDepth 100000 in
theorem ref_Ways (t s : Nat) (h : Nat) (w : World) (ht : t ≤ 12) (hs : s ≤ 10) (hh : h ≤ t + 1) :
    Calls Try.prog 51 #[.int .i64 t, .int .i64 h, .int .i64 s] w fun e w' => e = .returned (.int .i64 (waysN s t h : Nat)) ∧ Below w.heap.size w w' := by
  go_enter Try.func51, Try.ntmps51
  go_wp2_with (go_at_call 107; refine (ref_Exactly _ _ _ ht hs).mono ?_; rintro _ w1 ⟨v, rfl, hints, hb1⟩)
  obtain ⟨ao, cap, rfl, h1, h2, h3⟩ := hints.opn
  rw [exRow_len] at h1 h3
  have HLEN := hid (exRow_len s (10 - s) t)
  rw [exRow_len]
  unfold maxLen at h2
  clear hints
  go_loop [8, 9] (fun o i => ∃ j : Nat, j ≤ t + 1 - h ∧ o = .int .i64 (sumFrom (ex s (10 - s) t) h j : Nat) ∧ i = .int .i64 ((h : Int) + (j : Int))) (fun _ i => ((t : Int) + 1 - intOf i).toNat)
  case atStart => exact ⟨0, by omega, rfl, by simp⟩
  case round =>
    obtain ⟨j, hj, rfl, rfl⟩ := hrel
    by_cases hlt : h + j ≤ t
    · obtain ⟨b, off, rfl, hb, hc⟩ := h3 0 (by omega)
      have c0 := hc (h + j) (by omega)
      rw [exRow_nth (by omega)] at c0
      have a1 : sumFrom (ex s (10 - s) t) h (j + 1) ≤ sumFrom (ex s (10 - s) t) h (t + 1 - h) := sumFrom_le (by omega)
      have a2 := waysN_le (s := s) (t := t) (h := h) (by omega)
      have a3 := ten_le (t := t) (by omega)
      have HW : Hid (sumFrom (ex s (10 - s) t) h (j + 1) = sumFrom (ex s (10 - s) t) h j + ex s (10 - s) t (h + j)) := hid rfl
      have a4 : sumFrom (ex s (10 - s) t) h j + ex s (10 - s) t (h + j) ≤ 1000000000000 := by
        unfold waysN at a2; rw [← HW.out]; omega
      have e1 : ((h : Int) + (j : Int)).toNat = h + j := by omega
      clear a1 a2 a3 hc h3
      go_wp2_with fail
      go_round
      case rel => exact ⟨j + 1, by omega, by rw [HW.out]; go_num, by go_num⟩
      case measure => simp [intOf]; omega
    · go_wp2_with fail
      go_ret
      exact ⟨ret_int (by simp only [waysN]; rw [show j = t + 1 - h from by omega]), hb1⟩

set_option maxRecDepth 100000 in
set_option maxHeartbeats 1000000 in
theorem ref_Band (t s r : Nat) (w : World) (h1 : t ≤ 12) (h3 : s ≤ 10) (h5 : r ≤ 999) :
    Calls Try.prog 52 #[.int .i64 t, .int .i64 s, .int .i64 r] w fun e w' => e = .returned (.agg #[.int .i64 (bandLoI t s r), .int .i64 (bandHiI t s r)]) ∧ Below w.heap.size w w' := by
  have hten := ten_le (t := t) (by omega)
  have hpos : 0 < 10 ^ t := Nat.pow_pos (by decide)
  obtain ⟨A, hA⟩ : ∃ A : Nat, A = 10 ^ t := ⟨_, rfl⟩
  have HALL : ∀ W : World, Calls Try.prog 45 #[.int .i64 t] W fun e w' => e = .returned (.int .i64 (A : Nat)) ∧ W = w' := fun W => by rw [hA]; exact ref_All t W h1
  have HAL := hid HALL
  rw [← hA] at hten hpos
  have HA := hid hA
  have hrA : r * A ≤ 999 * 1000000000000 := Nat.mul_le_mul (by omega) hten
  have hrA' : (r : Int) * (A : Int) ≤ 999000000000000 := by have h4 := Int.ofNat_le.2 hrA; rw [Int.natCast_mul] at h4; omega
  have hrA0 : 0 ≤ (r : Int) * (A : Int) := Int.mul_nonneg (by omega) (by omega)
  clear hA hrA HALL
  have HL : Hid (∀ a, loP t s r a = true ↔ 2000 * ((A : Int) - (waysN s t (a + 1) : Nat)) ≤ (r : Int) * A) := hid (fun a => by
    have h6 := waysN_le (s := s) (t := t) (h := a + 1) (by omega)
    rw [← HA.out] at h6
    simp only [loP, decide_eq_true_eq, ← HA.out]
    exact le_int1 _ _ _ h6)
  have HH : Hid (∀ b, hiP t s r b = true ↔ 2000 * (waysN s t b : Nat) ≤ (r : Int) * A) := hid (fun b => by
    simp only [hiP, decide_eq_true_eq, ← HA.out]
    exact le_int2 _ _ _)
  have HBH : Hid (∀ x : Nat, waysN s t x ≤ A) := hid (fun x => by
    have h6 := waysN_le (s := s) (t := t) (h := x) (by omega)
    rw [← HA.out] at h6; exact h6)
  have HE1 : Hid (loP t s r t = false) := hid (loP_end (by omega))
  have HE2 : Hid (hiP t s r 0 = false) := hid (hiP_end (by omega) (by omega))
  go_enter Try.func52, Try.ntmps52
  go_wp2_with fail
  obtain ⟨W0, hW0⟩ : ∃ W0, W0 = w.alloc (.cells #[.int .i64 0, .int .i64 0] 74) := ⟨_, rfl⟩
  have r0 : W0.cell? ⟨w.heap.size, 0, none⟩ = some (.int .i64 0) := by rw [hW0]; simp
  have r1 : W0.cell? ⟨w.heap.size, 1, none⟩ = some (.int .i64 0) := by rw [hW0]; simp
  have f0 : W0.frozen? ⟨w.heap.size, 0, none⟩ = false := by rw [hW0]; simp
  have f1 : W0.frozen? ⟨w.heap.size, 1, none⟩ = false := by rw [hW0]; simp
  have hz0 : w.heap.size + 1 ≤ W0.heap.size := by rw [hW0]; simp
  have hBW : Below w.heap.size w W0 := by rw [hW0]; (repeat (with_reducible first | exact Below.refl _ _ | assumption | refine Below.drewN _ ?_ | refine Below.drew ?_ | refine Below_alloc ?_ _ | refine Below.alloc ?_ (by first | (simp; done) | (simp; omega) | omega) _ | refine Below.setCell ?_ (by first | (simp; done) | (simp; omega) | omega) _ | refine Below_call ?_ (by assumption) | refine Below.trans ?_ (by assumption)))
  rw [← hW0]
  clear hW0
  go_loopw [7] (fun x wr => ∃ a : Nat, a ≤ t ∧ x = .int .i64 a ∧ Hid (∀ j, j < a → loP t s r j = true) ∧ Below W0.heap.size W0 wr) (fun x _ => t - (intOf x).toNat)
  case atStart => exact ⟨0, by omega, rfl, hid (fun j hj => by omega), Below.refl _ _⟩
  case round =>
    obtain ⟨a, ha, rfl, hall, hbel⟩ := hrel
    have hway := HBH.out (a + 1)
    have hzz := hbel.size
    cases hp : loP t s r a
    · have hno : ¬ 2000 * ((A : Int) - (waysN s t (a + 1) : Nat)) ≤ (r : Int) * A := fun h => by rw [(HL.out a).2 h] at hp; cases hp
      have HPa := hid hp
      clear hp
      go_wp2_with (first | (go_at_call 45; refine (HAL.out _).mono ?_; rintro _ _ ⟨rfl, rfl⟩) | (go_at_call 51; refine (ref_Ways t s (a + 1) _ (by omega) (by omega) (by omega)).mono ?_; rintro _ w1 ⟨rfl, hb1⟩; obtain ⟨hc1, hf1⟩ := bcell hb1; have hz1 := hb1.size; (try simp only [World.size_alloc, World.heap_drewN] at hz1)))
      have HLO : Hid (bandLo t s r = a) := hid (upTo_eq _ _ _ (Nat.zero_le _) (by omega) (fun j _ hj => hall.out j hj) HPa.out)
      have hbel1 : Below W0.heap.size W0 w1 := hbel.trans (hb1.mono hzz)
      clear hno hway hall hbel hb1 hc1 hf1
      go_loopw [8] (fun x wr2 => ∃ b : Nat, b ≤ t ∧ x = .int .i64 b ∧ Hid (∀ j, b < j → j ≤ t → hiP t s r j = true) ∧ Below W0.heap.size W0 wr2) (fun x _ => (intOf x).toNat)
      case atStart => exact ⟨t, by omega, rfl, hid (fun j hj hj2 => by omega), hbel1⟩
      case round =>
        obtain ⟨b, hb, rfl, hall2, hbel⟩ := hrel
        have hway := HBH.out b
        obtain ⟨hc, hf⟩ := bcell hbel
        have hz := hbel.size
        have e0 := (hc w.heap.size 0 (by omega)).trans r0
        have e1 := (hc w.heap.size 1 (by omega)).trans r1
        have g0 := (hf w.heap.size 0 (by omega)).trans f0
        have g1 := (hf w.heap.size 1 (by omega)).trans f1
        have hs0 : w.heap.size < wr.heap.size := by omega
        clear hc hf
        cases hp : hiP t s r b
        · have hno : ¬ 2000 * (waysN s t b : Nat) ≤ (r : Int) * A := fun h => by rw [(HH.out b).2 h] at hp; cases hp
          have HPb := hid hp
          clear hp
          go_wp2_with (first | (go_at_call 45; refine (HAL.out _).mono ?_; rintro _ _ ⟨rfl, rfl⟩) | (go_at_call 51; refine (ref_Ways t s b _ (by omega) (by omega) (by omega)).mono ?_; rintro _ w2 ⟨rfl, hb2⟩; obtain ⟨hc2, hf2⟩ := bcell hb2; have hz2 := hb2.size; (try simp only [World.size_alloc, World.heap_drewN] at hz2); have hk2_0 : w.heap.size < w2.heap.size := (by omega)))
          have HHI : Hid (bandHi t s r = b) := hid (downTo_eq _ _ hb (fun j h1 h2 => hall2.out j h1 h2) (Or.inr HPb.out))
          ((try simp only [Exit.inBlock, Exit.then]); refine bodyPost_ret (v := .agg #[.int .i64 a, .int .i64 b]) ?_ rfl ?_; (next => simp [results, Try.results52, go_sem, hc2, hk2_0, hs0, e0, e1]); refine ⟨?_, ?_⟩; (next => simp only [bandLoI, bandHiI, Int.toNat_natCast]; rw [HLO.out, HHI.out]); (next => (repeat (with_reducible first | exact Below.refl _ _ | assumption | refine Below.drewN _ ?_ | refine Below.drew ?_ | refine Below_alloc ?_ _ | refine Below.alloc ?_ (by first | (simp; done) | (simp; omega) | omega) _ | refine Below.setCell ?_ (by first | (simp; done) | (simp; omega) | omega) _ | refine Below_call ?_ (by assumption) | refine Below.trans ?_ (by assumption)))))
        · have hyes := (HH.out b).1 hp
          have hb0 : 0 < b := Nat.pos_of_ne_zero (fun h => by rw [h, HE2.out] at hp; cases hp)
          have HPb := hid hp
          clear hp
          go_wp2_with (first | (go_at_call 45; refine (HAL.out _).mono ?_; rintro _ _ ⟨rfl, rfl⟩) | (go_at_call 51; refine (ref_Ways t s b _ (by omega) (by omega) (by omega)).mono ?_; rintro _ w2 ⟨rfl, hb2⟩; obtain ⟨hc2, hf2⟩ := bcell hb2; have hz2 := hb2.size; (try simp only [World.size_alloc, World.heap_drewN] at hz2); have hk2_0 : w.heap.size < w2.heap.size := (by omega)))
          go_roundw
          case rel =>
            refine ⟨b - 1, by omega, by rw [show ((b : Int) - 1) = ((b - 1 : Nat) : Int) from by omega], hid (fun j h1 h2 => ?_), by (repeat (with_reducible first | exact Below.refl _ _ | assumption | refine Below.drewN _ ?_ | refine Below.drew ?_ | refine Below_alloc ?_ _ | refine Below.alloc ?_ (by first | (simp; done) | (simp; omega) | omega) _ | refine Below.setCell ?_ (by first | (simp; done) | (simp; omega) | omega) _ | refine Below_call ?_ (by assumption) | refine Below.trans ?_ (by assumption)))⟩
            by_cases e : j = b
            · rw [e]; exact HPb.out
            · exact hall2.out j (by omega) h2
          case measure => simp [intOf]; omega
    · have hyes := (HL.out a).1 hp
      have hat : a < t := Nat.lt_of_le_of_ne ha (fun h => by rw [h, HE1.out] at hp; cases hp)
      have HPa := hid hp
      clear hp
      go_wp2_with (first | (go_at_call 45; refine (HAL.out _).mono ?_; rintro _ _ ⟨rfl, rfl⟩) | (go_at_call 51; refine (ref_Ways t s (a + 1) _ (by omega) (by omega) (by omega)).mono ?_; rintro _ w1 ⟨rfl, hb1⟩; obtain ⟨hc1, hf1⟩ := bcell hb1; have hz1 := hb1.size; (try simp only [World.size_alloc, World.heap_drewN] at hz1)))
      go_roundw
      case rel =>
        refine ⟨a + 1, by omega, by go_num, hid (fun j h1 => ?_), by (repeat (with_reducible first | exact Below.refl _ _ | assumption | refine Below.drewN _ ?_ | refine Below.drew ?_ | refine Below_alloc ?_ _ | refine Below.alloc ?_ (by first | (simp; done) | (simp; omega) | omega) _ | refine Below.setCell ?_ (by first | (simp; done) | (simp; omega) | omega) _ | refine Below_call ?_ (by assumption) | refine Below.trans ?_ (by assumption)))⟩
        by_cases e : j = a
        · rw [e]; exact HPa.out
        · exact hall.out j (by omega)
      case measure => simp [intOf]; omega

end Go.Proofs.Ytllddidjiabegaa

/- Contracts of the reference's limits and coverages. -/
set_option linter.unusedVariables false
set_option linter.unusedSimpArgs false
namespace Go.Proofs.Ytllddidjiabegaa
open Go.RowKit

def limRefV (T h r : Int) : Value := .tuple #[.agg #[.int .i64 (limLo T h r 11), .int .i64 (limHi T h r 11)], .bool (decide (0 ≤ limHi T h r 11))]

/-- a block of two cells. -/
theorem two_cells {w : World} {g : Nat} {x y : Value} {t : TypeId} (h : w.heap[g]? = some (.cells #[x, y] t (0, 0))) :
    w.cell? ⟨g, 0, none⟩ = some x ∧ w.cell? ⟨g, 1, none⟩ = some y ∧ w.frozen? ⟨g, 0, none⟩ = false ∧ w.frozen? ⟨g, 1, none⟩ = false ∧ g < w.heap.size := by
  refine ⟨?_, ?_, frozen_of_row w g 0 _ t h, frozen_of_row w g 1 _ t h, (Array.getElem?_eq_some_iff.1 h).1⟩
  · rw [cell_of_row w g 0 _ t (0, 0) h]; rfl
  · rw [cell_of_row w g 1 _ t (0, 0) h]; rfl
theorem two_set {w : World} {g : Nat} {x y x' y' : Value} {t : TypeId} (h : w.heap[g]? = some (.cells #[x, y] t (0, 0))) :
    ((w.setCell ⟨g, 0, none⟩ x').setCell ⟨g, 1, none⟩ y').heap[g]? = some (.cells #[x', y'] t (0, 0)) := by
  have h1 := heap_setCell_same w g 0 _ t x' h
  exact heap_setCell_same _ g 1 _ t y' h1

set_option maxRecDepth 100000 in
set_option maxHeartbeats 1000000 in
theorem ref_Limits (t r : Nat) (h : Int) (w : World) (h1 : t ≤ 12) (h5 : r ≤ 999) :
    Calls Try.prog 54 #[.int .i64 t, .int .i64 h, .int .i64 r] w fun e w' => e = .returned (limRefV t h r) ∧ Below w.heap.size w w' := by
  go_enter Try.func54, Try.ntmps54
  go_wp2_with fail
  obtain ⟨W0, hW0⟩ : ∃ W0, W0 = (w.alloc (.cells #[.int .i64 0, .int .i64 0] 74)).alloc (.cells #[.int .i64 11, .int .i64 (-1)] 74) := ⟨_, rfl⟩
  have r0 : W0.cell? ⟨w.heap.size, 0, none⟩ = some (.int .i64 0) := by rw [hW0]; simp
  have r1 : W0.cell? ⟨w.heap.size, 1, none⟩ = some (.int .i64 0) := by rw [hW0]; simp
  have f0 : W0.frozen? ⟨w.heap.size, 0, none⟩ = false := by rw [hW0]; simp
  have f1 : W0.frozen? ⟨w.heap.size, 1, none⟩ = false := by rw [hW0]; simp
  have hz0 : w.heap.size + 2 ≤ W0.heap.size := by rw [hW0]; simp
  have hBW : Below w.heap.size w W0 := by rw [hW0]; (repeat (with_reducible first | exact Below.refl _ _ | assumption | refine Below.drewN _ ?_ | refine Below.drew ?_ | refine Below_alloc ?_ _ | refine Below.alloc ?_ (by first | (simp; done) | (simp; omega) | omega) _ | refine Below.setCell ?_ (by first | (simp; done) | (simp; omega) | omega) _ | refine Below_call ?_ (by assumption) | refine Below.trans ?_ (by assumption)))
  have ho0 : W0.heap[w.heap.size + 1]? = some (.cells #[.int .i64 11, .int .i64 (-1)] 74 (0, 0)) := by rw [hW0]; exact heap_alloc2_new _ _ _
  rw [← hW0]
  clear hW0
  go_loopw [9] (fun i wr => ∃ n : Nat, n ≤ 11 ∧ i = .int .i64 n ∧ wr.heap[w.heap.size + 1]? = some (.cells #[.int .i64 (limLo t h r n), .int .i64 (limHi t h r n)] 74 (0, 0)) ∧ Below (w.heap.size + 1) W0 wr) (fun i _ => 11 - (intOf i).toNat)
  case atStart => exact ⟨0, by omega, rfl, ho0, Below.refl _ _⟩
  case round =>
    obtain ⟨n, hn, rfl, hout, hbel⟩ := hrel
    obtain ⟨o0, o1, x0, x1, hoz⟩ := two_cells hout
    have hc := fun o => hbel.cell (p := ⟨w.heap.size, o, none⟩) (show w.heap.size < w.heap.size + 1 by omega)
    have hf := fun o => hbel.frozen (p := ⟨w.heap.size, o, none⟩) (show w.heap.size < w.heap.size + 1 by omega)
    have e0 := (hc 0).trans r0
    have e1 := (hc 1).trans r1
    have g0 := (hf 0).trans f0
    have g1 := (hf 1).trans f1
    have hs0 : w.heap.size < wr.heap.size := by omega
    have hbB : Below w.heap.size w wr := hBW.trans (hbel.mono (by omega))
    clear hc hf r0 r1 f0 f1 ho0
    by_cases hlt : n < 11
    · have HOUT := hid hout
      have HBEL := hid hbel
      clear hout hbel
      cases hp : inBandB t h r n
      · have HPn := hid hp
        have hp' : inB h (bandLoI t n r) (bandHiI t n r) = false := hp
        clear hp
        go_wp2_with (first | (go_at_call 52; refine (ref_Band t n r _ (by omega) (by omega) (by omega)).mono ?_; rintro _ w1 ⟨rfl, hb1⟩; obtain ⟨hc1, hf1⟩ := bcell hb1; have hz1 := hb1.size; (try simp only [World.size_alloc, World.heap_drewN] at hz1); have hk1_0 : w.heap.size < w1.heap.size := (by omega); have hk1_1 : w.heap.size + 1 < w1.heap.size := (by omega)) | (go_at_call 44; refine (base_Within _ _ _ _).mono ?_; rintro _ _ ⟨rfl, rfl⟩))
        go_roundw
        case rel =>
          refine ⟨n + 1, by omega, by go_num, ?_, ?_⟩
          · rw [limLo, limHi, if_neg (by rw [HPn.out]; simp), if_neg (by rw [HPn.out]; simp)]
            rw [Below.heap_alloc _ _ _ (by omega), hb1.block _ (by omega)]
            exact HOUT.out
          · exact (HBEL.out.trans (hb1.mono (by omega))).alloc (by omega) _
        case measure => simp [intOf]; omega
      · have HPn := hid hp
        have hp' : inB h (bandLoI t n r) (bandHiI t n r) = true := hp
        clear hp
        have HMIN := hid (show limLo t h r (n + 1) = min (limLo t h r n) n by rw [limLo, if_pos HPn.out])
        go_wp2_with (first | (go_at_call 52; refine (ref_Band t n r _ (by omega) (by omega) (by omega)).mono ?_; rintro _ w1 ⟨rfl, hb1⟩; obtain ⟨hc1, hf1⟩ := bcell hb1; have hz1 := hb1.size; (try simp only [World.size_alloc, World.heap_drewN] at hz1); have hk1_0 : w.heap.size < w1.heap.size := (by omega); have hk1_1 : w.heap.size + 1 < w1.heap.size := (by omega); have q1_1_0 := hc1 (w.heap.size + 1) 0 (by first | assumption | (simp; done) | (simp; omega)); (try simp at q1_1_0); have p1_1_0 := hf1 (w.heap.size + 1) 0 (by first | assumption | (simp; done) | (simp; omega)); (try simp at p1_1_0); have q1_1_1 := hc1 (w.heap.size + 1) 1 (by first | assumption | (simp; done) | (simp; omega)); (try simp at q1_1_1); have p1_1_1 := hf1 (w.heap.size + 1) 1 (by first | assumption | (simp; done) | (simp; omega)); (try simp at p1_1_1)) | (go_at_call 44; refine (base_Within _ _ _ _).mono ?_; rintro _ _ ⟨rfl, rfl⟩))
        all_goals
          go_roundw
          case rel =>
            refine ⟨n + 1, by omega, by go_num, ?_, ?_⟩
            · have hq : w1.heap[w.heap.size + 1]? = some (.cells #[.int .i64 (limLo t h r n), .int .i64 (limHi t h r n)] 74 (0, 0)) := by
                rw [hb1.block _ (by omega)]; exact HOUT.out
              rw [HMIN.out, limHi, if_pos HPn.out, show min (limLo t h r n) n = (if (n : Int) < limLo t h r n then (n : Int) else limLo t h r n) from by omega]
              rw [Below.heap_alloc _ _ _ (by simp; omega)]
              exact two_set hq
            · exact ((((HBEL.out.trans (hb1.mono (by omega))).setCell (Nat.le_refl _) _).setCell (Nat.le_refl _) _).alloc (by simp; omega) _)
          case measure => simp [intOf]; omega
    · have hn11 : n = 11 := by omega
      subst hn11
      go_wp2_with fail
      go_region
      all_goals go_wp2
      all_goals ((try simp only [Exit.inBlock, Exit.then]); refine bodyPost_ret (v := .tuple #[.agg #[.int .i64 (limLo t h r 11), .int .i64 (limHi t h r 11)], .bool (decide (0 ≤ limHi t h r 11))]) ?_ rfl ?_; (next => simp [results, Try.results54, go_sem, hs0, e0, e1]); refine ⟨?_, ?_⟩; (next => rfl); (next => (repeat (with_reducible first | exact Below.refl _ _ | assumption | refine Below.drewN _ ?_ | refine Below.drew ?_ | refine Below_alloc ?_ _ | refine Below.alloc ?_ (by first | (simp; done) | (simp; omega) | omega) _ | refine Below.setCell ?_ (by first | (simp; done) | (simp; omega) | omega) _ | refine Below_call ?_ (by assumption) | refine Below.trans ?_ (by assumption)))))

set_option maxRecDepth 100000 in
set_option maxHeartbeats 1000000 in
theorem ref_Coverage (t s r : Nat) (w : World) (h1 : t ≤ 12) (h2 : s ≤ 10) (h5 : r ≤ 999) :
    Calls Try.prog 53 #[.int .i64 t, .int .i64 s, .int .i64 r] w fun e w' => e = .returned (.int .i64 (cov t s r (t + 1))) ∧ Below w.heap.size w w' := by
  go_enter Try.func53, Try.ntmps53
  go_wp2_with (go_at_call 107; refine (ref_Exactly _ _ _ h1 h2).mono ?_; rintro _ w1 ⟨v, rfl, hints, hb1⟩)
  obtain ⟨ao, cap, rfl, hh1, hh2, h3⟩ := hints.opn
  rw [exRow_len] at hh1 h3
  rw [exRow_len]
  unfold maxLen at hh2
  have HI := hid hints
  clear hints
  go_loopw [8, 9] (fun o i wr => ∃ n : Nat, n ≤ t + 1 ∧ o = .int .i64 (cov t s r n) ∧ i = .int .i64 n ∧ Below w1.heap.size w1 wr) (fun _ i _ => t + 1 - (intOf i).toNat)
  case atStart => exact ⟨0, by omega, rfl, rfl, Below.refl _ _⟩
  case round =>
    obtain ⟨n, hn, rfl, rfl, hbel⟩ := hrel
    have hz := hbel.size
    by_cases hlt : n < t + 1
    · obtain ⟨b, off, rfl, hb, hc⟩ := h3 0 (by omega)
      have c0 := hc n (by omega)
      rw [exRow_nth (by omega)] at c0
      have c1 : wr.cell? ⟨b, off + n, none⟩ = some (.int .i64 (ex s (10 - s) t n : Nat)) := (hbel.cell (p := ⟨b, off + n, none⟩) hb).trans c0
      have hbz : b < wr.heap.size := by omega
      have hcb := cov_le (T := t) (S := s) r (n := n) (by omega) (by omega) (by omega) (by simp; omega)
      have hcb1 := cov_le (T := t) (S := s) r (n := n + 1) (by omega) (by omega) (by omega) (by simp; omega)
      have HX : Hid (exI t n s = (ex s (10 - s) t n : Nat)) := hid (by simp [exI])
      clear h3 hc c0
      have hle := limHi_le t n r 11
      cases hd : decide (0 ≤ limHi t n r 11)
      · have HD := hid hd
        have HC : Hid (cov t s r (n + 1) = cov t s r n) := hid (by
          have : limHi t n r 11 = -1 := by simp at hd; omega
          simp [cov, covB, this])
        have HV : Hid (limRefV t n r = .tuple #[.agg #[.int .i64 (limLo t n r 11), .int .i64 (limHi t n r 11)], .bool false]) := hid (by simp only [limRefV, hd])
        clear hcb1 hd
        go_wp2_with (first | (go_at_call 54; refine ((by rw [← HV.out]; exact ref_Limits _ _ _ _ (by omega) (by omega) : Calls Try.prog 54 #[.int .i64 t, .int .i64 n, .int .i64 r] _ fun e w' => e = .returned (.tuple #[.agg #[.int .i64 (limLo t n r 11), .int .i64 (limHi t n r 11)], .bool false]) ∧ Below _ _ w')).mono ?_; rintro _ w2 ⟨rfl, hb2⟩; obtain ⟨hc2, hf2⟩ := bcell hb2; have hz2 := hb2.size; (try simp only [World.size_alloc, World.heap_drewN] at hz2); have hk2_0 : b < w2.heap.size := (by omega)))
        go_roundw
        case rel => exact ⟨n + 1, by omega, by rw [HC.out], by go_num, by (repeat (with_reducible first | exact Below.refl _ _ | assumption | refine Below.drewN _ ?_ | refine Below.drew ?_ | refine Below_alloc ?_ _ | refine Below.alloc ?_ (by first | (simp; done) | (simp; omega) | omega) _ | refine Below.setCell ?_ (by first | (simp; done) | (simp; omega) | omega) _ | refine Below_call ?_ (by assumption) | refine Below.trans ?_ (by assumption)))⟩
        case measure => simp [intOf]; omega
      · have HD := hid hd
        have HV : Hid (limRefV t n r = .tuple #[.agg #[.int .i64 (limLo t n r 11), .int .i64 (limHi t n r 11)], .bool true]) := hid (by simp only [limRefV, hd])
        have hd2 : limHi t n r 11 ≠ -1 := by simp at hd; omega
        cases hi : inB s (limLo t n r 11) (limHi t n r 11)
        · have HC : Hid (cov t s r (n + 1) = cov t s r n) := hid (by simp [cov, covB, hi])
          clear hcb1 hd hd2
          go_wp2_with (first | (go_at_call 54; refine ((by rw [← HV.out]; exact ref_Limits _ _ _ _ (by omega) (by omega) : Calls Try.prog 54 #[.int .i64 t, .int .i64 n, .int .i64 r] _ fun e w' => e = .returned (.tuple #[.agg #[.int .i64 (limLo t n r 11), .int .i64 (limHi t n r 11)], .bool true]) ∧ Below _ _ w')).mono ?_; rintro _ w2 ⟨rfl, hb2⟩; obtain ⟨hc2, hf2⟩ := bcell hb2; have hz2 := hb2.size; (try simp only [World.size_alloc, World.heap_drewN] at hz2); have hk2_0 : b < w2.heap.size := (by omega)) | (go_at_call 44; refine (base_Within _ _ _ _).mono ?_; rintro _ _ ⟨rfl, rfl⟩))
          go_roundw
          case rel => exact ⟨n + 1, by omega, by rw [HC.out], by go_num, by (repeat (with_reducible first | exact Below.refl _ _ | assumption | refine Below.drewN _ ?_ | refine Below.drew ?_ | refine Below_alloc ?_ _ | refine Below.alloc ?_ (by first | (simp; done) | (simp; omega) | omega) _ | refine Below.setCell ?_ (by first | (simp; done) | (simp; omega) | omega) _ | refine Below_call ?_ (by assumption) | refine Below.trans ?_ (by assumption)))⟩
          case measure => simp [intOf]; omega
        · have HC : Hid (cov t s r (n + 1) = cov t s r n + (ex s (10 - s) t n : Nat)) := hid (by rw [← HX.out]; simp [cov, covB, hi, hd2])
          have hcb2 : 0 ≤ cov t s r n + (ex s (10 - s) t n : Nat) ∧ cov t s r n + (ex s (10 - s) t n : Nat) ≤ 1000000000000 := by rw [← HC.out]; exact hcb1
          clear hcb1 hd hd2
          go_wp2_with (first | (go_at_call 54; refine ((by rw [← HV.out]; exact ref_Limits _ _ _ _ (by omega) (by omega) : Calls Try.prog 54 #[.int .i64 t, .int .i64 n, .int .i64 r] _ fun e w' => e = .returned (.tuple #[.agg #[.int .i64 (limLo t n r 11), .int .i64 (limHi t n r 11)], .bool true]) ∧ Below _ _ w')).mono ?_; rintro _ w2 ⟨rfl, hb2⟩; obtain ⟨hc2, hf2⟩ := bcell hb2; have hz2 := hb2.size; (try simp only [World.size_alloc, World.heap_drewN] at hz2); have hk2_0 : b < w2.heap.size := (by omega)) | (go_at_call 44; refine (base_Within _ _ _ _).mono ?_; rintro _ _ ⟨rfl, rfl⟩))
          go_roundw
          case rel => exact ⟨n + 1, by omega, by rw [HC.out], by go_num, by (repeat (with_reducible first | exact Below.refl _ _ | assumption | refine Below.drewN _ ?_ | refine Below.drew ?_ | refine Below_alloc ?_ _ | refine Below.alloc ?_ (by first | (simp; done) | (simp; omega) | omega) _ | refine Below.setCell ?_ (by first | (simp; done) | (simp; omega) | omega) _ | refine Below_call ?_ (by assumption) | refine Below.trans ?_ (by assumption)))⟩
          case measure => simp [intOf]; omega
    · have hnt : n = t + 1 := by omega
      subst hnt
      go_wp2_with fail
      go_ret
      exact ⟨rfl, hb1.trans (hbel.mono hb1.size)⟩

end Go.Proofs.Ytllddidjiabegaa

/- Permutations by their keys: the plain function, and the program's contract. -/
set_option linter.unusedVariables false
set_option linter.unusedSimpArgs false
namespace Go.Proofs.Ytllddidjiabegaa
open Go.RowKit

/-- 0, 1, .. -/
def upN (n : Nat) : List Int := (List.range n).map fun i : Nat => (i : Int)
theorem upN_len (n : Nat) : (upN n).length = n := by simp [upN]
theorem upN_succ (n : Nat) : upN (n + 1) = upN n ++ [(n : Int)] := by simp [upN, List.range_succ]

/-- take from a list the number at the key modulo its length, again and again (n: its length). -/
def permF : Nat → List Int → Nat → List Int
  | 0, _, _ => []
  | n + 1, l, k => nth l (k % (n + 1)) :: permF n (l.eraseIdx (k % (n + 1))) (k / (n + 1))
def perm (n k : Nat) : List Int := permF n (upN n) k
theorem permF_len : ∀ (n : Nat) (l : List Int) (k : Nat), (permF n l k).length = n := by
  intro n
  induction n with
  | zero => intro l k; rfl
  | succ n ih => intro l k; simp [permF, ih]

theorem splice_erase {xs : List Int} {cur : List Value} {n i : Nat} (hn : xs.length = n) (hi : i < n) (hc : cur.take n = xs.map (Value.int .i64)) (hcl : n ≤ cur.length) :
    (splice cur i ((xs.drop (i + 1)).map (Value.int .i64))).take (n - 1) = (xs.eraseIdx i).map (Value.int .i64) := by
  rw [List.eraseIdx_eq_take_drop_succ, List.map_append]
  have e1 : cur.take i = (xs.take i).map (Value.int .i64) := by
    have := congrArg (List.take i) hc
    rw [List.take_take, show min i n = i from by omega] at this
    rw [this, List.map_take]
  unfold splice
  rw [e1, ← List.append_assoc]
  rw [List.take_append_of_le_length (by simp; omega), List.take_of_length_le (by simp; omega)]

theorem ownsRow_keep {w w' : World} {B base : Nat} {e : TypeId} {size : Nat} {v : Value} {n : Nat} {xs : List Value} (h : w.ownsRow base e size v n xs) (hlb : ∀ g, v.ownBlock = some g → g < B) (hb : Below B w w') : w'.ownsRow base e size v n xs := by
  refine ⟨h.1, ?_⟩
  rcases h.2 with h2 | ⟨g, cap, cur, rfl, hg, hh, r⟩
  · exact Or.inl h2
  · exact Or.inr ⟨g, cap, cur, rfl, hg, by rw [hb.block g (hlb g rfl)]; exact hh, r⟩

theorem cur_len {cur : Array Value} {cap m : Nat} (hcs : cur.size = cap * 1) (hmc : m ≤ cap) : m ≤ cur.toList.length := by simp; omega
theorem cur_cell {w : World} {g i m : Nat} {cur : Array Value} {e : TypeId} {xs : List Int} (hg : w.heap[g]? = some (.cells cur e (0, 0))) (htk : cur.toList.take (m * 1) = xs.map (Value.int .i64)) (hx : xs.length = m) (hi : i < m) : w.cell? ⟨g, i, none⟩ = some (.int .i64 (nth xs i)) := by
  rw [cell_of_row w g i cur e (0, 0) hg]
  have e1 : (cur.toList.take (m * 1))[i]? = some (.int .i64 (nth xs i)) := by rw [htk]; exact map_nth (by omega)
  rw [List.getElem?_take] at e1
  split at e1
  · simpa using e1
  · cases e1
theorem add_plain' (g i j : Nat) : (⟨g, i, none⟩ : Addr).add j = ⟨g, i + j, none⟩ := by unfold Addr.add; split <;> simp_all
theorem heap_setRow_same {w : World} {g : Nat} {cur : Array Value} {e : TypeId} {fr : Nat × Nat} (h : w.heap[g]? = some (.cells cur e fr)) (cs : Array Value) : (w.setRow g cs).heap[g]? = some (.cells cs e fr) := by
  simp [World.setRow, Array.getElem?_modify, h]

theorem infoInt1 : (Try.prog.info? 3).map (·.size) = some 1 := by kernel_rfl

set_option maxRecDepth 100000 in
set_option maxHeartbeats 1000000 in
theorem blind_permutation (n k : Nat) (w : World) (hn : n ≤ 12) (hk : k ≤ 479001600) :
    Calls Try.prog 113 #[.int .i64 n, .int .i64 k] w (RetInts w (perm n k)) := by
  go_enter Try.func113, Try.ntmps113
  go_wp2_with fail
  go_loopw [5, 10] (fun v i wr => ∃ j : Nat, j ≤ n ∧ i = .int .i64 j ∧ wr.ownsRow w.heap.size 3 1 v j ((upN j).map (Value.int .i64)) ∧ Below w.heap.size w wr) (fun _ i _ => n - (intOf i).toNat)
  case atStart => exact ⟨0, by omega, rfl, by simpa [upN] using World.ownsRow_nil w w.heap.size 3 1, Below.refl _ _⟩
  case round =>
    obtain ⟨j, hj, rfl, hown, hbel⟩ := hrel
    have hz := hbel.size
    by_cases hlt : j < n
    · go_wp2_with (at_builtin; refine wpList_push rfl _ _ _ rfl elemInt w.heap.size _ j _ rfl wr hown [.int .i64 j] rfl (by simp [Value.oneCell']) rfl _ rfl rfl (by omega) (by unfold maxLen; omega) hz ?_; intro v1 w2 hown3 hb3 _ _)
      go_roundw
      case rel => exact ⟨j + 1, by omega, by go_num, by rw [upN_succ, List.map_append]; exact hown3, by (repeat (with_reducible first | exact Below.refl _ _ | assumption | refine Below.drewN _ ?_ | refine Below.drew ?_ | refine Below_alloc ?_ _ | refine Below.alloc ?_ (by first | (simp; done) | (simp; omega) | omega) _ | refine Below.setCell ?_ (by first | (simp; done) | (simp; omega) | omega) _ | refine Below_call ?_ (by assumption) | refine Below.trans ?_ (by assumption)))⟩
      case measure => simp [intOf]; omega
    · have hjn : j = n := by omega
      subst hjn
      have HBW := hid hbel
      clear hbel
      go_wp2_with fail
      obtain ⟨wo, rfl⟩ : ∃ wo : World, wo = wr := ⟨_, rfl⟩
      go_loopg [1, 5, 6] (j) (fun m key lv ov wr => ∃ (q : Nat) (xs ys : List Int) (go : Nat), q ≤ 479001600 ∧ key = .int .i64 q ∧ xs.length = m ∧ m ≤ j ∧ Hid (perm j k = ys ++ permF m xs q) ∧
        wr.ownsRow w.heap.size 3 1 lv m (xs.map (Value.int .i64)) ∧ ys.length + m = j ∧ wr.ownsRow wo.heap.size 3 1 ov ys.length (ys.map (Value.int .i64)) ∧ (∀ g, lv.ownBlock = some g → g < wo.heap.size) ∧ Below w.heap.size w wr ∧ wo.heap.size ≤ wr.heap.size)
      case atStart => exact ⟨k, upN j, [], 0, hk, rfl, upN_len j, Nat.le_refl _, hid rfl, hown, by simp, World.ownsRow_nil _ _ _ _, fun g hg => (hown.lt g hg).2, HBW.out, Nat.le_refl _⟩
      case round =>
        obtain ⟨m, rfl⟩ : ∃ m, m = gk := ⟨_, rfl⟩
        obtain ⟨q, xs, ys, go, hq, rfl, hxs, hm, HP, hl, hym, ho, hlb, hbel, hwo⟩ := hrel
        by_cases hm0 : 0 < m
        · rcases hl.2 with ⟨_, h0⟩ | ⟨g, cap, cur, rfl, hbg, hgc, hmc, hcm, hcs, htk⟩
          · omega
          have hgw : g < wo.heap.size := hlb g rfl
          obtain ⟨i, hi⟩ : ∃ i, i = q % m := ⟨_, rfl⟩
          obtain ⟨d, hd⟩ : ∃ d, d = q / m := ⟨_, rfl⟩
          have hil : i < m := by rw [hi]; exact Nat.mod_lt _ hm0
          have hdq : d ≤ 479001600 := by rw [hd]; exact Nat.le_trans (Nat.div_le_self _ _) hq
          have hmod : (q : Int) % (m : Int) = (i : Int) := by rw [hi]; exact (Int.natCast_emod q m).symm
          have hdiv : (q : Int) / (m : Int) = (d : Int) := by rw [hd]; exact (Int.natCast_ediv q m).symm
          have HI := hid hi
          have HD := hid hd
          have c0 : wr.cell? ⟨g, i, none⟩ = some (.int .i64 (nth xs i)) := by
            rw [cell_of_row wr g i cur _ (0, 0) hgc]
            have e1 : (cur.toList.take (m * 1))[i]? = some (.int .i64 (nth xs i)) := by rw [htk]; exact map_nth (by omega)
            rw [List.getElem?_take] at e1
            split at e1
            · simpa using e1
            · cases e1
          have hi0 : (0 : Int) ≤ (i : Int) := Int.natCast_nonneg _
          have hi1 : (i : Int) < (m : Int) := by omega
          have hmpos : (0 : Int) < (m : Int) := by omega
          have hic : (i : Int) ≤ (cap : Int) := by omega
          unfold maxLen at hcm
          have hyl : ys.length ≤ 12 := by omega
          have HGC := hid hgc
          have HTK := hid htk
          have HCS := hid hcs
          have HL := hid hl
          have HXS := hid hxs
          have HYM := hid hym
          have HBEL := hid hbel
          clear hi hd hgc htk hcs hl hxs hym hbel hlb
          go_wp2_with (at_builtin; refine wpList_push rfl _ _ _ rfl elemInt wo.heap.size _ ys.length _ rfl wr ho [.int .i64 (nth xs i)] rfl (by simp [Value.oneCell']) rfl _ rfl rfl (by omega) (by unfold maxLen; omega) hwo ?_; intro v1 w2 hown3 hb3 _ _)
          have hi2 : (i : Int) + 1 ≤ (m : Int) := by omega
          have hi3 : (m : Int) ≤ (cap : Int) := by omega
          have hni : ¬ cap = i := by omega
          have hni' : ¬ (cap : Int) = (i : Int) := by omega
          rcases Nat.lt_or_ge (i + 1) cap with hcase | hcase
          all_goals
            ((refine wp_three [] [0, 1, 2, 3, 4, 5, 6] 7 (by kernel_rfl) (by kernel_rfl) ?_); (intro _ _); (simp only [pick, List.drop_succ_cons, List.drop_zero, List.head?_cons, Option.toList_some, List.cons_append, List.nil_append]); (repeat (first | (go_big_quiet_step (fail)) | (quiet_step (fail)))); (try refine wpQuiet_nil ?_); (repeat (first | (go_big_quiet_step (fail)) | (quiet_step (fail)))); (try refine wpQuiet_nil ?_); (intro nq))
            try (have hce : cap = i + 1 := by omega
                 rw [if_pos hce]
                 clear hce)
            have hgc2 : (w2.drewN nq).heap[g]? = some (.cells cur 3 (0, 0)) := (hb3.block g hgw).trans HGC.out
            refine wpList_copy_own rfl _ _ _ _ rfl 3 Try.underlying33 infoInt1 g i (m - i) (cap - i) _ (m - (i + 1)) _ rfl rfl cur _ hgc2 ((xs.drop (i + 1)).map (Value.int .i64)) ?_ ?_ ?_ ?_ ?_
            · have := HXS.out; rw [show Nat.min (m - (i + 1)) (m - i) = m - (i + 1) from Nat.min_eq_left (by omega)]; simp; omega
            · intro jj u hu
              have hjl : jj < (xs.drop (i + 1)).length := by
                have := (List.getElem?_eq_some_iff.1 hu).1; simpa using this
              have hjl2 : i + 1 + jj < m := by have := HXS.out; simp at hjl; omega
              rw [map_nth hjl] at hu
              rw [← Option.some.inj hu]
              first
                | (rw [add_plain', cur_cell hgc2 HTK.out HXS.out hjl2]; simp [nth, List.getD])
                | omega
            · have := HXS.out; have := HCS.out; simp; omega
            · intro u hu
              obtain ⟨z, _, rfl⟩ := List.mem_map.1 hu
              rfl
            · go_wp2
              go_roundg (m - 1)
              case rel =>
                have hlen : (xs.eraseIdx i).length = m - 1 := by rw [List.length_eraseIdx, if_pos (by have := HXS.out; omega), HXS.out]
                have hpf : permF m xs q = nth xs i :: permF (m - 1) (xs.eraseIdx i) d := by
                  obtain ⟨m', rfl⟩ : ∃ m', m = m' + 1 := ⟨m - 1, by omega⟩
                  rw [HI.out, HD.out]; rfl
                refine ⟨d, xs.eraseIdx i, ys ++ [nth xs i], 0, hdq, rfl, hlen, by omega, hid ?_, ?_, by have := HYM.out; simp; omega, ?_, fun g' hg' => by simp [Value.ownBlock] at hg'; omega, ?_, ?_⟩
                · rw [HP.out, hpf]; simp
                · refine ⟨by simp [hlen], Or.inr ⟨g, cap, _, rfl, hbg, heap_setRow_same hgc2 _, by omega, by unfold maxLen; omega, ?_, ?_⟩⟩
                  · have := HXS.out; have := HCS.out; simp; omega
                  · rw [Nat.mul_one]
                    have h7 := splice_erase HXS.out hil (by have := HTK.out; rwa [Nat.mul_one] at this) (cur_len HCS.out hmc)
                    unfold splice at h7
                    simpa [List.map_drop] using h7
                · have h4 := ownsRow_drewN nq hown3
                  rw [List.map_append]
                  rw [show (ys ++ [nth xs i]).length = ys.length + 1 from by simp]
                  refine ⟨h4.1, ?_⟩
                  rcases h4.2 with h5 | ⟨g2, cap2, cur2, e2, hb2, hh2, r2⟩
                  · exact Or.inl h5
                  · exact Or.inr ⟨g2, cap2, cur2, e2, hb2, by rw [setRow_other _ _ _ _ (by omega)]; exact hh2, r2⟩
                · exact below_setRow (Below.drewN nq (HBEL.out.trans (hb3.mono (by omega)))) hbg _
                · have := hb3.size; simp; omega
              case measure => omega
        · have hm00 : m = 0 := by omega
          subst hm00
          have hsh : ∃ ao cp, u5 = .slice ao 0 cp := by
            rcases hl.2 with ⟨e, _⟩ | ⟨g, cap, cur, e, _⟩
            · exact ⟨none, 0, e⟩
            · exact ⟨_, cap, e⟩
          obtain ⟨ao, cp, rfl⟩ := hsh
          go_wp2_with fail
          go_ret
          refine ⟨u6, rfl, ?_, hbel⟩
          have := HP.out
          rw [permF, List.append_nil] at this
          rw [this]
          exact ownsRow_ints ho

end Go.Proofs.Ytllddidjiabegaa

