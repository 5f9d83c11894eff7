/- The law of limits: the first error of a list. -/
import Derived.Test.YtllddidjiabegaaX6
set_option linter.unusedVariables false
set_option linter.unusedSimpArgs false
namespace Go.Proofs.Ytllddidjiabegaa
open Go.RowKit

theorem law_first (l : List Int) (v : Value) (w : World) (h : IntsAt w v l) :
    Calls Try.prog 49 #[v] w fun e w' => e = .returned (.int .i64 (firstNZ l)) ∧ w = w' := by
  obtain ⟨ao, cap, rfl, h1, h2, h3⟩ := h.opn
  unfold maxLen at h2
  go_enter Try.func49, Try.ntmps49
  go_wp2_with fail
  go_loop [3] (fun i => ∃ k : Nat, k ≤ l.length ∧ i = .int .i64 k ∧ Hid (∀ x ∈ l.take k, x = 0)) (fun i => l.length - (intOf i).toNat)
  case atStart => exact ⟨0, Nat.zero_le _, rfl, hid (by simp)⟩
  case round =>
    obtain ⟨k, hk, rfl, HZ⟩ := hrel
    by_cases hlt : k < l.length
    · obtain ⟨b, off, rfl, hb, hc⟩ := h3 k hlt
      have hck := hc k hlt
      obtain ⟨y, hy⟩ : ∃ y, y = nth l k := ⟨_, rfl⟩
      rw [← hy] at hck
      have HY := hid hy
      clear hc h3 hy
      cases ht : (y != 0)
      · have HT := hid ht
        go_wp2_with fail
        go_round
        case rel =>
          refine ⟨k + 1, by omega, by go_num, hid (fun x hx => ?_)⟩
          rw [take_nth hlt, List.mem_append, List.mem_singleton] at hx
          rcases hx with hx | rfl
          · exact HZ.out x hx
          · rw [← HY.out]; simpa using HT.out
        case measure => simp [intOf]; omega
      · have HT := hid ht
        go_wp2_with fail
        go_ret
        refine ⟨ret_int ?_, rfl⟩
        have hne : y ≠ 0 := by simpa using HT.out
        rw [cut_nth hlt, firstNZ_append_zero HZ.out]
        simp only [firstNZ]
        rw [← HY.out, if_neg hne]
    · have hkl : k = l.length := by omega
      subst hkl
      go_wp2_with fail
      go_ret
      refine ⟨ret_int ?_, rfl⟩
      have := HZ.out
      rw [List.take_length] at this
      exact (firstNZ_zero.2 this).symm

end Go.Proofs.Ytllddidjiabegaa
