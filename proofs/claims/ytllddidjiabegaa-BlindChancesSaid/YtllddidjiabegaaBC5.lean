/- The law of chances. -/
import Derived.Test.YtllddidjiabegaaBC4
set_option linter.unusedVariables false
set_option linter.unusedSimpArgs false
namespace Go.Proofs.Ytllddidjiabegaa
open Go.RowKit

theorem law_Chances (xa xs xi xc n d t : Int) (w : World) (h1 : -9223372036854775808 ≤ n) (h2 : n ≤ 9223372036854775807) (h3 : d ≤ 9223372036854775807) :
    Calls Try.prog 4 #[.agg #[.int .i64 xa, .int .i64 xs, .int .i64 xi, .int .i64 xc], .agg #[.int .i64 n, .int .i64 d], .int .i64 t] w fun e w' => e = .returned (.bool true) ∧ Below w.heap.size w w' := by
  have RE := fun W => ref_CaseErr xa xs xi xc W
  have HX := fun W => blind_ChanceOf xa xs xi xc W
  have HT := fun W => blind_TrialsOf n d t W h1 h2 h3
  have RT := fun W => ref_TrialsErr n d t W h1 h2 h3
  unfold caseV at RE HX
  unfold caseErrS at RE
  have q1 : ((1 : Int) == 0) = false := by decide
  have q2 : ((1 : Int) != 0) = true := by decide
  cases hb : caseB xa xs xi xc
  · rw [hb] at RE
    rw [chanceV_no hb] at HX
    by_cases hE : triErr n d t = 0
    · rw [hE] at RT
      have RR := fun W => ref_Trials n d t W hE
      unfold triV at HT
      unfold triRefV at RR
      cases hg : triBig d t
      · rw [if_pos hE, hg, if_neg (by decide)] at HT
        rw [hg, if_neg (by decide)] at RR
        exact law_Chances_eo xa xs xi xc n d t 0 0 _ _ 1 w q1 q2 (hid HX) (hid HT) (hid RE) (hid RT) (hid RR)
      · rw [if_pos hE, hg, if_pos rfl] at HT
        rw [hg, if_pos rfl] at RR
        exact law_Chances_el xa xs xi xc n d t 0 0 0 0 1 w q1 q2 (hid HX) (hid HT) (hid RE) (hid RT) (hid RR)
    · unfold triV at HT
      rw [if_neg hE] at HT
      exact law_Chances_ed xa xs xi xc n d t 0 0 0 0 (triErr n d t) w (by simpa using hE) (by simpa using hE) (hid HX) (hid HT) (hid RE) (hid RT)
  · rw [hb] at RE
    rw [chanceV_yes hb] at HX
    have hs := caseB_spec hb
    have RC := fun W => ref_Chance xa xs xi xc W hs.1.1 hs.1.2 hs.2.1.1 hs.2.1.2 hs.2.2.1.1 hs.2.2.1.2 hs.2.2.2.1 hs.2.2.2.2
    unfold caseV at RC
    by_cases hE : triErr n d t = 0
    · rw [hE] at RT
      have RR := fun W => ref_Trials n d t W hE
      unfold triV at HT
      unfold triRefV at RR
      cases hg : triBig d t
      · rw [if_pos hE, hg, if_neg (by decide)] at HT
        rw [hg, if_neg (by decide)] at RR
        exact law_Chances_oo xa xs xi xc n d t _ _ _ _ 1 w q1 q2 (hid HX) (hid HT) (hid RE) (hid RT) (hid RC) (hid RR)
      · rw [if_pos hE, hg, if_pos rfl] at HT
        rw [hg, if_pos rfl] at RR
        exact law_Chances_ol xa xs xi xc n d t _ _ 0 0 1 w q1 q2 (hid HX) (hid HT) (hid RE) (hid RT) (hid RC) (hid RR)
    · unfold triV at HT
      rw [if_neg hE] at HT
      exact law_Chances_od xa xs xi xc n d t _ _ 0 0 (triErr n d t) w (by simpa using hE) (by simpa using hE) (hid HX) (hid HT) (hid RE) (hid RT) (hid RC)

end Go.Proofs.Ytllddidjiabegaa
