/- The law of limits. -/
import Derived.Test.YtllddidjiabegaaZ3a
import Derived.Test.YtllddidjiabegaaZ3b
import Derived.Test.YtllddidjiabegaaZ3c
import Derived.Test.YtllddidjiabegaaZ3d
set_option linter.unusedVariables false
set_option linter.unusedSimpArgs false
namespace Go.Proofs.Ytllddidjiabegaa
open Go.RowKit

theorem firstNZ_two : ∀ {l : List Int}, (∀ x ∈ l, x = 0 ∨ x = 2) → firstNZ l = 0 ∨ firstNZ l = 2 := by
  intro l
  induction l with
  | nil => intro _; exact Or.inl rfl
  | cons a l ih =>
    intro h
    simp only [firstNZ]
    split
    · exact ih fun x hx => h x (by simp [hx])
    · rename_i e; exact Or.inr ((h a (by simp)).resolve_left e)
theorem unl_two (b : Bool) : unl b 2 = 0 ∨ unl b 2 = 2 := by cases b <;> simp [unl]
theorem studyErr_two (t h : Int) : studyErr t h = 0 ∨ studyErr t h = 2 := by unfold studyErr; exact unl_two _
theorem studyErr_ok {t h : Int} (e : studyErr t h = 0) : (1 ≤ t ∧ t ≤ 12) ∧ 0 ≤ h ∧ h ≤ t := by
  unfold studyErr unl at e
  split at e
  · rename_i hb
    simp only [Bool.and_eq_true, inB_true] at hb
    exact hb
  · cases e

theorem law_Limits (T H S r : Int) (w : World) :
    Calls Try.prog 7 #[.int .i64 T, .int .i64 H, .agg #[.int .i64 S, .int .i64 r]] w fun e w' => e = .returned (.bool true) ∧ Below w.heap.size w w' := by
  have h1 := studyErr_two T H
  have h2 : tenErr S = 0 ∨ tenErr S = 2 := unl_two _
  have h3 : trErr T = 0 ∨ trErr T = 2 := unl_two _
  have h4 : rskErr r = 0 ∨ rskErr r = 2 := unl_two _
  have eA := firstNZ_two (l := [studyErr T H, tenErr S]) (by intro x hx; simp at hx; rcases hx with rfl | rfl <;> assumption)
  have eB := firstNZ_two (l := [trErr T, tenErr S, rskErr r]) (by intro x hx; simp at hx; rcases hx with rfl | rfl | rfl <;> assumption)
  have eC := firstNZ_two (l := [studyErr T H, rskErr r]) (by intro x hx; simp at hx; rcases hx with rfl | rfl <;> assumption)
  have HA : (firstNZ [studyErr T H, tenErr S] = 0 ∧ Hid (∀ W, Calls Try.prog 46 #[.int .i64 T, .int .i64 H, .int .i64 S] W fun e w' => e = .returned (.tuple #[.int .i64 (waysI T H S), .int .i64 0]) ∧ Below W.heap.size W w') ∧ Hid (∀ W, Calls Try.prog 51 #[.int .i64 T, .int .i64 H, .int .i64 S] W fun e w' => e = .returned (.int .i64 (waysI T H S)) ∧ Below W.heap.size W w')) ∨
      (firstNZ [studyErr T H, tenErr S] = 2 ∧ Hid (∀ W, Calls Try.prog 46 #[.int .i64 T, .int .i64 H, .int .i64 S] W fun e w' => e = .returned (.tuple #[.int .i64 0, .int .i64 2]) ∧ Below W.heap.size W w')) := by
    have HW := fun W => blind_WaysOf T H S W
    unfold waysV at HW
    rw [studyErr_eq] at HW
    rcases eA with e | e
    · left
      have k := firstNZ_zero.1 e
      have k1 := studyErr_ok (k (studyErr T H) (by simp))
      have k2 := tenErr_ok (k (tenErr S) (by simp))
      refine ⟨e, hid fun W => ?_, hid fun W => ?_⟩
      · have := HW W; rwa [e, if_pos rfl] at this
      · have := ref_Ways T.toNat S.toNat H.toNat W (by omega) (by omega) (by omega)
        rwa [Int.toNat_of_nonneg (by omega), Int.toNat_of_nonneg (by omega), Int.toNat_of_nonneg (by omega)] at this
    · right
      refine ⟨e, hid fun W => ?_⟩
      have := HW W; rwa [e, if_neg (by decide)] at this
  have HB : (firstNZ [trErr T, tenErr S, rskErr r] = 0 ∧ Hid (∀ W, Calls Try.prog 48 #[.int .i64 T, .int .i64 S, .int .i64 r] W fun e w' => e = .returned (.tuple #[.agg #[.int .i64 (bandLoI T S r), .int .i64 (bandHiI T S r)], .int .i64 0]) ∧ Below W.heap.size W w') ∧ Hid (∀ W, Calls Try.prog 43 #[.int .i64 T, .int .i64 S, .int .i64 r] W fun e w' => e = .returned (.tuple #[.int .i64 (cov T S r (T.toNat + 1)), .int .i64 0]) ∧ Below W.heap.size W w') ∧
        Hid (∀ W, Calls Try.prog 52 #[.int .i64 T, .int .i64 S, .int .i64 r] W fun e w' => e = .returned (.agg #[.int .i64 (bandLoI T S r), .int .i64 (bandHiI T S r)]) ∧ Below W.heap.size W w') ∧ Hid (∀ W, Calls Try.prog 53 #[.int .i64 T, .int .i64 S, .int .i64 r] W fun e w' => e = .returned (.int .i64 (cov T S r (T.toNat + 1))) ∧ Below W.heap.size W w')) ∨
      (firstNZ [trErr T, tenErr S, rskErr r] = 2 ∧ Hid (∀ W, Calls Try.prog 48 #[.int .i64 T, .int .i64 S, .int .i64 r] W fun e w' => e = .returned (.tuple #[.agg #[.int .i64 0, .int .i64 0], .int .i64 2]) ∧ Below W.heap.size W w') ∧ Hid (∀ W, Calls Try.prog 43 #[.int .i64 T, .int .i64 S, .int .i64 r] W fun e w' => e = .returned (.tuple #[.int .i64 0, .int .i64 2]) ∧ Below W.heap.size W w')) := by
    have HW := fun W => blind_BandOf T S r W
    have HC := fun W => blind_CoverageOf T S r W
    unfold bandV at HW
    unfold covV covE at HC
    rcases eB with e | e
    · left
      have k := firstNZ_zero.1 e
      have k1 := trErr_ok (k (trErr T) (by simp))
      have k2 := tenErr_ok (k (tenErr S) (by simp))
      have k3 := rskErr_ok (k (rskErr r) (by simp))
      refine ⟨e, hid fun W => ?_, hid fun W => ?_, hid fun W => ?_, hid fun W => ?_⟩
      · have := HW W; rwa [e, if_pos rfl] at this
      · have := HC W; rwa [e, if_pos rfl] at this
      · have := ref_Band T.toNat S.toNat r.toNat W (by omega) (by omega) (by omega)
        rwa [Int.toNat_of_nonneg (by omega), Int.toNat_of_nonneg (by omega), Int.toNat_of_nonneg (by omega)] at this
      · have := ref_Coverage T.toNat S.toNat r.toNat W (by omega) (by omega) (by omega)
        rwa [Int.toNat_of_nonneg (by omega), Int.toNat_of_nonneg (by omega), Int.toNat_of_nonneg (by omega)] at this
    · right
      refine ⟨e, hid fun W => ?_, hid fun W => ?_⟩
      · have := HW W; rwa [e, if_neg (by decide)] at this
      · have := HC W; rwa [e, if_neg (by decide)] at this
  have HC : (firstNZ [studyErr T H, rskErr r] = 0 ∧ ((Hid (∀ W, Calls Try.prog 47 #[.int .i64 T, .int .i64 H, .int .i64 r] W fun e w' => e = .returned (.tuple #[.agg #[.int .i64 (limLo T H r 11), .int .i64 (limHi T H r 11)], .int .i64 0]) ∧ Below W.heap.size W w') ∧ Hid (∀ W, Calls Try.prog 54 #[.int .i64 T, .int .i64 H, .int .i64 r] W fun e w' => e = .returned (.tuple #[.agg #[.int .i64 (limLo T H r 11), .int .i64 (limHi T H r 11)], .bool true]) ∧ Below W.heap.size W w')) ∨
        (Hid (∀ W, Calls Try.prog 47 #[.int .i64 T, .int .i64 H, .int .i64 r] W fun e w' => e = .returned (.tuple #[.agg #[.int .i64 0, .int .i64 0], .int .i64 12]) ∧ Below W.heap.size W w') ∧ Hid (∀ W, Calls Try.prog 54 #[.int .i64 T, .int .i64 H, .int .i64 r] W fun e w' => e = .returned (.tuple #[.agg #[.int .i64 (limLo T H r 11), .int .i64 (limHi T H r 11)], .bool false]) ∧ Below W.heap.size W w')))) ∨
      (firstNZ [studyErr T H, rskErr r] = 2 ∧ Hid (∀ W, Calls Try.prog 47 #[.int .i64 T, .int .i64 H, .int .i64 r] W fun e w' => e = .returned (.tuple #[.agg #[.int .i64 0, .int .i64 0], .int .i64 2]) ∧ Below W.heap.size W w')) := by
    have HW := fun W => blind_LimitsFor T H r W
    unfold limForV limErr limE at HW
    rw [studyErr_eq] at HW
    rcases eC with e | e
    · left
      have k := firstNZ_zero.1 e
      have k1 := studyErr_ok (k (studyErr T H) (by simp))
      have k3 := rskErr_ok (k (rskErr r) (by simp))
      have k4 := limHi_le T H r 11
      have HR := fun W => ref_Limits T.toNat r.toNat H W (by omega) (by omega)
      rw [Int.toNat_of_nonneg (by omega), Int.toNat_of_nonneg (by omega)] at HR
      unfold limRefV at HR
      refine ⟨e, ?_⟩
      rw [e] at HW
      simp only [if_true] at HW
      by_cases hh : limHi T H r 11 = -1
      · right
        have hd : decide (0 ≤ limHi T H r 11) = false := by rw [decide_eq_false_iff_not]; omega
        rw [hd] at HR
        refine ⟨hid fun W => ?_, hid fun W => HR W⟩
        have := HW W
        rwa [if_pos hh, if_neg (by decide)] at this
      · left
        have hd : decide (0 ≤ limHi T H r 11) = true := by rw [decide_eq_true_iff]; omega
        rw [hd] at HR
        refine ⟨hid fun W => ?_, hid fun W => HR W⟩
        have := HW W
        rwa [if_neg hh, if_pos rfl] at this
    · right
      refine ⟨e, hid fun W => ?_⟩
      have := HW W
      simpa [e] using this
  rcases HA with ⟨a, HW, RW⟩ | ⟨a, HW⟩
  · rcases HB with ⟨b, HB, HV, RB, RC⟩ | ⟨b, HB, HV⟩
    · rcases HC with ⟨c, ⟨HL, RL⟩ | ⟨HL, RL⟩⟩ | ⟨c, HL⟩
      · exact law_Limits_ooo T H S r _ _ _ _ _ _ w HW HB HL HV a b c RW RB RC RL
      · exact law_Limits_oon T H S r _ _ _ _ _ _ w HW HB HL HV a b c RW RB RC RL
      · exact law_Limits_ooe T H S r _ _ _ _ 0 0 w HW HB HL HV a b c RW RB RC
    · rcases HC with ⟨c, ⟨HL, RL⟩ | ⟨HL, RL⟩⟩ | ⟨c, HL⟩
      · exact law_Limits_oeo T H S r _ 0 0 0 _ _ w HW HB HL HV a b c RW RL
      · exact law_Limits_oen T H S r _ 0 0 0 _ _ w HW HB HL HV a b c RW RL
      · exact law_Limits_oee T H S r _ 0 0 0 0 0 w HW HB HL HV a b c RW
  · rcases HB with ⟨b, HB, HV, RB, RC⟩ | ⟨b, HB, HV⟩
    · rcases HC with ⟨c, ⟨HL, RL⟩ | ⟨HL, RL⟩⟩ | ⟨c, HL⟩
      · exact law_Limits_eoo T H S r 0 _ _ _ _ _ w HW HB HL HV a b c RB RC RL
      · exact law_Limits_eon T H S r 0 _ _ _ _ _ w HW HB HL HV a b c RB RC RL
      · exact law_Limits_eoe T H S r 0 _ _ _ 0 0 w HW HB HL HV a b c RB RC
    · rcases HC with ⟨c, ⟨HL, RL⟩ | ⟨HL, RL⟩⟩ | ⟨c, HL⟩
      · exact law_Limits_eeo T H S r 0 0 0 0 _ _ w HW HB HL HV a b c RL
      · exact law_Limits_een T H S r 0 0 0 0 _ _ w HW HB HL HV a b c RL
      · exact law_Limits_eee T H S r 0 0 0 0 0 0 w HW HB HL HV a b c

end Go.Proofs.Ytllddidjiabegaa
