/- A statement whose order is open: operations that yield the same in every world first, then the others in the one order that is left. -/
import Derived.Test.YtllddidjiabegaaReg
set_option linter.unusedVariables false
set_option linter.unusedSimpArgs false
namespace Go.Proofs.Ytllddidjiabegaa
open Go.RowKit
section
variable {P : Program} {md : Region.Mode}

/-- these numbers can only come in this order. -/
def seqL (md : Region.Mode) (ops : Array Oper) : List Nat → Array Bool → Bool
  | [], listed => (Region.ready md ops listed).isEmpty
  | k :: p, listed => decide (Region.ready md ops listed = [k]) && (ops[k]?).isSome && seqL md ops p (listed.setIfInBounds k true)

theorem wpAny_of_seqL {l : List Oper} {Q : Exit → Act → World → Prop} : ∀ (p : List Nat) (listed : Array Bool) (a : Act) (w : World), seqL md l.toArray p listed = true → wpList P l.toArray Q (pick l p) a w → wpAny P md l.toArray Q p.length listed a w := by
  intro p
  induction p with
  | nil => intro listed a w hB h; exact ⟨by simpa [seqL] using hB, h⟩
  | cons k p ih =>
    intro listed a w hB h
    simp only [seqL, Bool.and_eq_true, decide_eq_true_eq] at hB
    obtain ⟨⟨hr, ho⟩, hB'⟩ := hB
    obtain ⟨o, ho⟩ := Option.isSome_iff_exists.1 ho
    have ho' : l[k]? = some o := by simpa using ho
    rw [pick_cons ho'] at h
    refine ⟨fun h1 => (by rw [hr] at h1; cases h1), fun i hi => ?_⟩
    rw [hr] at hi
    have hik : i = k := by simpa using hi
    subst hik
    have hw : wpOp P l.toArray Q i (wpList P l.toArray Q (pick l p)) a w := by unfold wpOp; simp only [ho]; exact h
    exact wpOp_mono (fun a' w' h' => ih _ _ _ hB' h') hw

def twoB (md : Region.Mode) (ops : Array Oper) (tail : List Nat) : List Nat → Array Bool → Bool
  | [], listed => seqL md ops tail listed
  | i :: p, listed => ((ops[i]?).map simpleOp).getD false && (Region.ready md ops listed).contains i && Region.free md ops listed i && twoB md ops tail p (listed.setIfInBounds i true)

theorem wpAny_two {l : List Oper} {tail : List Nat} {Q : Exit → Act → World → Prop} (hQ : ∀ c a a' w, Q (.panic c) a w → Q (.panic c) a' w) (hsel : Region.noSelect l.toArray = true) :
    ∀ (p : List Nat) (listed : Array Bool) (a : Act) (w : World), twoB md l.toArray tail p listed = true → wpQuiet P l.toArray (fun _ => True) (fun a' => wpList P l.toArray Q (pick l tail) a' w) (pick l p) a →
      wpAny P md l.toArray Q (p.length + tail.length) listed a w := by
  intro p
  induction p with
  | nil => intro listed a w hB h; rw [List.length_nil, Nat.zero_add]; exact wpAny_of_seqL tail listed a w hB h
  | cons i p ih =>
    intro listed a w hB h
    simp only [twoB, Bool.and_eq_true] at hB
    obtain ⟨⟨⟨ho, hr⟩, hf⟩, hB'⟩ := hB
    cases ho2 : l.toArray[i]? with
    | none => rw [ho2] at ho; cases ho
    | some o =>
      rw [ho2] at ho
      have hs1 : simpleOp o = true := by simpa using ho
      have ho' : l[i]? = some o := by simpa using ho2
      rw [pick_cons ho'] at h
      have hr' : i ∈ Region.ready md l.toArray listed := by simpa using hr
      have hq : qOp P l.toArray (fun _ => True) i (wpQuiet P l.toArray (fun _ => True) (fun a' => wpList P l.toArray Q (pick l tail) a' w) (pick l p)) a := by unfold qOp; simp only [ho2]; exact h
      obtain ⟨v, hy, hK⟩ := yields_of_quiet ho2 hs1 hq
      rw [List.length_cons, show p.length + 1 + tail.length = (p.length + tail.length) + 1 from by omega]
      exact wpAny_first ho2 (Region.noSelect_spec hsel) (fun c a w h => hQ c _ _ w h) _ listed a w (Region.free_spec ho2 hf) hr' hy (ih _ _ _ hB' hK)

def twoAllB (l : List Oper) (first tail : List Nat) : Bool :=
  Region.noSelect l.toArray && decide (first.length + tail.length = l.length) && twoB .any l.toArray tail first (Array.replicate l.length false)

theorem wp_two {id : Nat} {Q : Exit → Act → World → Prop} {a : Act} {w : World} {l : List Oper} (first tail : List Nat) (hm : P.follows .mixedOrders = true) (hB : twoAllB l first tail = true)
    (h : ∀ Q' : Exit → Act → World → Prop, (∀ a w, Q .normal a w → Q' .normal a w) → wpQuiet P l.toArray (fun _ => True) (fun a1 => wpList P l.toArray Q' (pick l tail) a1 w.drew) (pick l first) a) :
    (Code.region id l.toArray true).wp P Q a w := by
  simp only [twoAllB, Bool.and_eq_true, decide_eq_true_eq] at hB
  obtain ⟨⟨hsel, hlen⟩, hB⟩ := hB
  refine Code.wp_mono (Q := noPan Q) (fun e a w hq => by cases e <;> first | exact hq | exact (hq : False).elim) ?_
  refine wp_region_any hm ?_
  have := wpAny_two (md := .any) (Q := noPan Q) (fun c a a' w hq => hq) hsel first (Array.replicate l.length false) a w.drew hB (h (noPan Q) fun _ _ h => h)
  rw [show first.length + tail.length = l.toArray.size from by simp; omega] at this
  simpa using this
end

/-- an empty slice literal. -/
theorem ownsRow_empty {P : Program} (w : World) {t e : TypeId} {sz bytes : Nat} (E : Elem P t e sz bytes) : (w.alloc (.cells #[] e)).ownsRow w.heap.size e sz (.slice (some ⟨w.heap.size, 0, none⟩) 0 0) 0 [] :=
  World.ownsRow_made w #[] 0 (Nat.le_refl _) (by simp [maxLen]) (by simp)

end Go.Proofs.Ytllddidjiabegaa
