/- Contracts of the small functions on numbers. -/
import Derived.Test.YtllddidjiabegaaBase
set_option linter.unusedVariables false
set_option linter.unusedSimpArgs false
namespace Go.Proofs.Ytllddidjiabegaa
open Go.RowKit

theorem blind_within (n lo hi : Int) (w : World) :
    Calls Try.prog 77 #[.int .i64 n, .int .i64 lo, .int .i64 hi] w fun e w' => e = .returned (.bool (inB n lo hi)) ∧ w = w' := by
  go_enter Try.func77, Try.ntmps77
  go_wp2
  all_goals (go_ret; exact ⟨by simp [inB]; omega, rfl⟩)

theorem base_Within (n lo hi : Int) (w : World) :
    Calls Try.prog 44 #[.int .i64 n, .int .i64 lo, .int .i64 hi] w fun e w' => e = .returned (.bool (inB n lo hi)) ∧ w = w' := by
  go_enter Try.func44, Try.ntmps44
  go_wp2
  all_goals (go_ret; exact ⟨by simp [inB]; omega, rfl⟩)

theorem blind_unless (b : Bool) (n : Int) (w : World) :
    Calls Try.prog 78 #[.bool b, .int .i64 n] w fun e w' => e = .returned (.int .i64 (unl b n)) ∧ w = w' := by
  cases b
  all_goals
    go_enter Try.func78, Try.ntmps78
    go_wp2
    go_ret
    exact ⟨rfl, rfl⟩

theorem blind_first (l : List Int) (v : Value) (w : World) (h : IntsAt w v l) :
    Calls Try.prog 75 #[v] w fun e w' => e = .returned (.int .i64 (firstNZ l)) ∧ w = w' := by
  obtain ⟨ao, cap, rfl, h1, h2, h3⟩ := h.open
  unfold maxLen at h2
  go_enter Try.func75, Try.ntmps75
  go_wp2_with fail
  go_loop [7] (fun i => ∃ k : Nat, k ≤ l.length ∧ i = .int .i64 k ∧ ∀ x ∈ l.take k, x = 0) (fun i => l.length - (intOf i).toNat)
  case atStart => exact ⟨0, Nat.zero_le _, rfl, by simp⟩
  case round =>
    obtain ⟨k, hk, rfl, hz⟩ := hrel
    have HZ := hid hz
    clear hz
    by_cases hlt : k < l.length
    · obtain ⟨b, off, rfl, hb, hc⟩ := h3 k hlt
      have hck := hc k hlt
      clear hc h3
      by_cases h0 : l.getD k 0 = 0
      · have H0 := hid h0
        have h0' : (l.getD k 0 != 0) = false := by simpa using h0
        clear h0
        obtain ⟨x, hx⟩ : ∃ x, x = l.getD k 0 := ⟨_, rfl⟩
        rw [← hx] at hck h0'
        have HX := hid hx
        clear hx
        go_wp2_with fail
        go_round
        case rel =>
          refine ⟨k + 1, by omega, by go_num, ?_⟩
          intro y hy
          rw [take_getD 0 hlt] at hy
          rcases List.mem_append.1 hy with hy | hy
          · exact HZ.out y hy
          · rw [List.mem_singleton.1 hy]; exact H0.out
        case measure => simp [intOf]; omega
      · have h0' : (l.getD k 0 != 0) = true := by simpa using h0
        obtain ⟨x, hx⟩ : ∃ x, x = l.getD k 0 := ⟨_, rfl⟩
        rw [← hx] at hck h0' h0
        have HX := hid hx
        have H0 := hid h0
        clear hx h0
        go_wp2_with fail
        go_ret
        refine ⟨ret_int ?_, rfl⟩
        have e1 : l = l.take k ++ (x :: l.drop (k + 1)) := by
          rw [HX.out]; exact cut_getD 0 hlt
        rw [e1, firstNZ_append_zero HZ.out]
        simp [firstNZ, H0.out]
    · go_wp2_with fail
      go_ret
      refine ⟨ret_int ?_, rfl⟩
      rw [firstNZ_zero.2]
      have := HZ.out
      rwa [List.take_of_length_le (by omega)] at this

theorem blind_isField (n : Int) (w : World) :
    Calls Try.prog 117 #[.int .i64 n] w fun e w' => e = .returned (.bool (inB n 0 100000)) ∧ w = w' := by
  go_enter Try.func117, Try.ntmps117
  go_wp2_with (go_at_call 77; refine (blind_within _ _ _ _).mono ?_; rintro _ _ ⟨rfl, rfl⟩)
  go_ret; exact ⟨rfl, rfl⟩

theorem ref_isField (n : Int) (w : World) :
    Calls Try.prog 83 #[.int .i64 n] w fun e w' => e = .returned (.bool (inB n 0 100000)) ∧ w = w' := by
  go_enter Try.func83, Try.ntmps83
  go_wp2_with (go_at_call 44; refine (base_Within _ _ _ _).mono ?_; rintro _ _ ⟨rfl, rfl⟩)
  go_ret; exact ⟨rfl, rfl⟩

theorem base_IsTick (n : Int) (w : World) :
    Calls Try.prog 128 #[.int .i64 n] w fun e w' => e = .returned (.bool (inB n 0 1000000000000)) ∧ w = w' := by
  go_enter Try.func128, Try.ntmps128
  go_wp2_with (go_at_call 44; refine (base_Within _ _ _ _).mono ?_; rintro _ _ ⟨rfl, rfl⟩)
  go_ret; exact ⟨rfl, rfl⟩

theorem blind_factorial (k : Nat) : ∀ (n : Int) (w : World), n ≤ k → n ≤ 12 →
    Calls Try.prog 145 #[.int .i64 n] w fun e w' => e = .returned (.int .i64 (facI n)) ∧ w = w' := by
  induction k with
  | zero =>
    intro n w hk h12
    have hn : n < 2 := by omega
    go_enter Try.func145, Try.ntmps145
    go_wp2_with fail
    go_ret
    exact ⟨ret_int (facI_small hn).symm, rfl⟩
  | succ k ih =>
    intro n w hk h12
    by_cases hn : n < 2
    · go_enter Try.func145, Try.ntmps145
      go_wp2_with fail
      go_ret
      exact ⟨ret_int (facI_small hn).symm, rfl⟩
    · have HS := hid (facI_step (n := n) (by omega))
      have hl := facI_le h12
      have hp := facI_pos n
      have h1 : 0 ≤ n * facI (n - 1) := by rw [HS.out]; omega
      have h2 : n * facI (n - 1) ≤ 479001600 := by rw [HS.out]; omega
      go_enter Try.func145, Try.ntmps145
      go_wp2_with (go_at_call 145; refine (ih (n - 1) _ (by omega) (by omega)).mono ?_; rintro _ _ ⟨rfl, rfl⟩)
      go_ret
      exact ⟨ret_int HS.out, rfl⟩

theorem ref_Factorial (n : Int) (w : World) (h12 : n ≤ 12) :
    Calls Try.prog 108 #[.int .i64 n] w fun e w' => e = .returned (.int .i64 (facI n)) ∧ w = w' := by
  go_enter Try.func108, Try.ntmps108
  go_wp2_with fail
  go_loop [3, 4] (fun o i => ∃ k : Nat, 1 ≤ k ∧ ((k : Int) ≤ n ∨ k = 1) ∧ o = .int .i64 (facI k) ∧ i = .int .i64 ((k : Int) + 1)) (fun _ i => (n - intOf i + 1).toNat)
  case atStart => exact ⟨1, by omega, Or.inr rfl, rfl, rfl⟩
  case round =>
    obtain ⟨k, hk1, hk2, rfl, rfl⟩ := hrel
    by_cases hlt : (k : Int) + 1 ≤ n
    · have HS := hid (facI_step (n := (k : Int) + 1) (by omega))
      have hl := facI_le (n := (k : Int) + 1) (by omega)
      have hp := facI_pos ((k : Int) + 1)
      have HE : Hid (facI (k : Int) * ((k : Int) + 1) = facI ((k : Int) + 1)) := hid (by
        have := HS.out; rw [show (k : Int) + 1 - 1 = k from by omega] at this; rw [← this, Int.mul_comm])
      have h1 : 0 ≤ facI (k : Int) * ((k : Int) + 1) := by rw [HE.out]; omega
      have h2 : facI (k : Int) * ((k : Int) + 1) ≤ 479001600 := by rw [HE.out]; omega
      go_wp2_with fail
      go_round
      case rel => exact ⟨k + 1, by omega, by omega, by rw [HE.out]; go_num, by go_num⟩
      case measure => simp [intOf]; omega
    · go_wp2_with fail
      go_ret
      refine ⟨ret_int ?_, rfl⟩
      rcases hk2 with hk2 | rfl
      · rw [show (k : Int) = n from by omega]
      · rw [facI_small (n := n) (by simp at hlt; omega)]; rfl

/-- the error of a key for so many events. -/
def keyErrS (count key : Int) : Int := unl (inB key 0 (facI count - 1)) 2

theorem blind_keyErr (c k : Int) (w : World) (h12 : c ≤ 12) :
    Calls Try.prog 112 #[.int .i64 c, .int .i64 k] w fun e w' => e = .returned (.int .i64 (keyErrS c k)) ∧ w = w' := by
  have hl := facI_le h12
  have hp := facI_pos c
  go_enter Try.func112, Try.ntmps112
  go_wp2_with (first | (go_at_call 145; refine (blind_factorial c.toNat _ _ (by omega) h12).mono ?_; rintro _ _ ⟨rfl, rfl⟩) | (go_at_call 77; refine (blind_within _ _ _ _).mono ?_; rintro _ _ ⟨rfl, rfl⟩) | (go_at_call 78; refine (blind_unless _ _ _).mono ?_; rintro _ _ ⟨rfl, rfl⟩))
  go_ret
  exact ⟨rfl, rfl⟩

theorem ref_KeyErr (c k : Int) (w : World) (h12 : c ≤ 12) :
    Calls Try.prog 55 #[.int .i64 c, .int .i64 k] w fun e w' => e = .returned (.int .i64 (keyErrS c k)) ∧ w = w' := by
  have hl := facI_le h12
  have hp := facI_pos c
  cases hb : inB k 0 (facI c - 1) <;> have HB := hid hb <;>
  · go_enter Try.func55, Try.ntmps55
    go_wp2_with (first | (go_at_call 108; refine (ref_Factorial _ _ h12).mono ?_; rintro _ _ ⟨rfl, rfl⟩) | (go_at_call 44; refine (base_Within _ _ _ _).mono ?_; rintro _ _ ⟨rfl, rfl⟩))
    go_ret
    exact ⟨ret_int (by simp [keyErrS, unl, HB.out]), rfl⟩

end Go.Proofs.Ytllddidjiabegaa
