/- The sum of the example. -/
import Derived.Test.YtllddidjiabegaaX4
import Derived.Laws.IdiomStrings
set_option linter.unusedVariables false
set_option linter.unusedSimpArgs false
namespace Go.Proofs.Ytllddidjiabegaa
open Go.RowKit

theorem conv_ab (w : World) : ∃ cap W, (convert 9 128 (.string ⟨#[97, 98]⟩)).run Try.prog w = .ok (.slice (some ⟨w.heap.size, 0, none⟩) 2 cap) W ∧ W.cell? ⟨w.heap.size, 0, none⟩ = some (.int .u8 97) ∧ W.cell? ⟨w.heap.size, 1, none⟩ = some (.int .u8 98) ∧ Below w.heap.size w W := by
  have h := run_bytes_of_string (P := Try.prog) w 9 128 5 ⟨#[97, 98]⟩ Try.underlying9 Try.underlying128 Try.underlying5
  refine ⟨_, _, h, ?_, ?_, ?_⟩
  · rw [show w.heap.size = w.drew.heap.size from rfl, World.cell?_alloc_mark]; simp [bytesRow, Array.getElem?_append]
  · rw [show w.heap.size = w.drew.heap.size from rfl, World.cell?_alloc_mark]; simp [bytesRow, Array.getElem?_append]
  · exact (Below.drewN 1 (Below.refl _ _)).alloc (Nat.le_refl _) _

theorem blind_SumOf_ab (w : World) : Calls Try.prog 73 #[.string ⟨#[97, 98]⟩] w fun e w' => e = .returned (.int .i64 22933) ∧ Below w.heap.size w w' := by
  obtain ⟨cap, W, hrun, c0, c1, hb⟩ := conv_ab w
  go_enter Try.func73, Try.ntmps73
  go_wp2_with fail
  go_loop [3, 9] (fun s i => (s = .int .i64 0 ∧ i = .int .i64 0) ∨ (s = .int .i64 98 ∧ i = .int .i64 1) ∨ (s = .int .i64 22933 ∧ i = .int .i64 2)) (fun _ i => 2 - (intOf i).toNat)
  case atStart => exact Or.inl ⟨rfl, rfl⟩
  case round =>
    rcases hrel with ⟨rfl, rfl⟩ | ⟨rfl, rfl⟩ | ⟨rfl, rfl⟩
    · go_wp2_with fail
      go_round
      case rel => exact Or.inr (Or.inl ⟨rfl, rfl⟩)
      case measure => simp [intOf]
    · go_wp2_with fail
      go_round
      case rel => exact Or.inr (Or.inr ⟨rfl, rfl⟩)
      case measure => simp [intOf]
    · go_wp2_with fail
      go_ret
      exact ⟨rfl, hb⟩

end Go.Proofs.Ytllddidjiabegaa
