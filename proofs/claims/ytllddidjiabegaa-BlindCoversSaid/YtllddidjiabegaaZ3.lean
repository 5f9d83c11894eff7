/- The law of limits, walked: small notions. -/
import Derived.Test.YtllddidjiabegaaZ2
import Derived.Test.YtllddidjiabegaaReg4
set_option linter.unusedVariables false
set_option linter.unusedSimpArgs false
namespace Go.Proofs.Ytllddidjiabegaa
open Go.RowKit

theorem first_list (l : List Int) (n N : Nat) (W : World) (e : TypeId) (hn : n = l.length) (hm : n ≤ 1000) (hN : W.heap.size = N) :
    Calls Try.prog 49 #[.slice (some ⟨N, 0, none⟩) n n] (W.alloc (.cells (l.map (Value.int .i64)).toArray e)) fun e' w' => e' = .returned (.int .i64 (firstNZ l)) ∧ W.alloc (.cells (l.map (Value.int .i64)).toArray e) = w' :=
  law_first l _ _ (intsAt_new W e l n N hn hm hN)
/-- a block of two cells. -/
def Pair2 (w : World) (b : Nat) (x y : Value) : Prop := b < w.heap.size ∧ w.cell? ⟨b, 0, none⟩ = some x ∧ w.cell? ⟨b, 1, none⟩ = some y
theorem Pair2.below {w w' : World} {b : Nat} {x y : Value} (h : Pair2 w b x y) (hb : Below w.heap.size w w') : Pair2 w' b x y :=
  ⟨Nat.lt_of_lt_of_le h.1 hb.size, (hb.cell (p := ⟨b, 0, none⟩) h.1).trans h.2.1, (hb.cell (p := ⟨b, 1, none⟩) h.1).trans h.2.2⟩

end Go.Proofs.Ytllddidjiabegaa
