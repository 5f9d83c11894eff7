/- A statement whose order is open, in steps: what yields the same in every world comes first; what has to come next; two that come in either order. -/
import Derived.Test.YtllddidjiabegaaReg2
set_option linter.unusedVariables false
set_option linter.unusedSimpArgs false
namespace Go.Proofs.Ytllddidjiabegaa
open Go.RowKit
section
variable {P : Program} {md : Region.Mode}

inductive Stp where
  | q (ks : List Nat)
  | f (ks : List Nat)
  | p (i j : Nat)

def contF (K : Act → World → Prop) : Exit → Act → World → Prop
  | .normal, a, w => K a w
  | _, _, _ => False

theorem wp_F {ops : Array Oper} {Q : Exit → Act → World → Prop} {X K : Act → World → Prop} {o : Oper} {a : Act} {w : World} (hh : o.wp P a w K (contF X)) : o.wp P a w K Q := by
  unfold Oper.wp at *
  generalize (execOp a.eval o).run P w = r at *
  cases r with
  | ok n w' =>
    cases n <;> simp only [Oper.upon] at hh ⊢ <;>
      first
        | exact hh
        | exact Calls.mono hh (fun e w'' he => by
            cases e with
            | returned v => exact he
            | panicked c => exact (he : False).elim
            | outgrown => obtain ⟨a, w, h⟩ := he; exact (h : False).elim)
  | halt x w' => cases x <;> simp only [Oper.upon] at hh ⊢ <;> first | exact hh | exact (hh : False).elim

theorem wpOp_F {ops : Array Oper} {Q : Exit → Act → World → Prop} {X K : Act → World → Prop} {i : Nat} {a : Act} {w : World} (hh : wpOp P ops (contF X) i K a w) : wpOp P ops Q i K a w := by
  unfold wpOp at *
  split
  · simpa [*] using hh
  · rename_i o ho
    simp only [ho] at hh
    split
    · rename_i hw
      simp only [hw, if_true] at hh
      rcases hh with h | ⟨_, a, w, h⟩
      · exact Or.inl (wp_F (ops := ops) h)
      · exact (h : False).elim
    · rename_i hw; simp only [hw] at hh; exact hh

def runSet (L : Array Bool) (ks : List Nat) : Array Bool := ks.foldl (fun L k => L.setIfInBounds k true) L

def qB (md : Region.Mode) (ops : Array Oper) : List Nat → Array Bool → Bool
  | [], _ => true
  | k :: p, L => ((ops[k]?).map simpleOp).getD false && (Region.ready md ops L).contains k && Region.free md ops L k && qB md ops p (L.setIfInBounds k true)
def fB (md : Region.Mode) (ops : Array Oper) : List Nat → Array Bool → Bool
  | [], _ => true
  | k :: p, L => decide (Region.ready md ops L = [k]) && (ops[k]?).isSome && fB md ops p (L.setIfInBounds k true)
def mixB (md : Region.Mode) (ops : Array Oper) : List Stp → Array Bool → Bool
  | [], L => (Region.ready md ops L).isEmpty
  | .q ks :: s, L => qB md ops ks L && mixB md ops s (runSet L ks)
  | .f ks :: s, L => fB md ops ks L && mixB md ops s (runSet L ks)
  | .p i j :: s, L => decide (Region.ready md ops L = [i, j]) && fB md ops [j] (runSet L [i]) && fB md ops [i] (runSet L [j]) && (ops[i]?).isSome && (ops[j]?).isSome && (runSet L [j, i] == runSet L [i, j]) && mixB md ops s (runSet L [i, j])

def lenS : List Stp → Nat
  | [] => 0
  | .q ks :: s => ks.length + lenS s
  | .f ks :: s => ks.length + lenS s
  | .p _ _ :: s => 2 + lenS s

def wpMix (P : Program) (l : List Oper) (Q : Exit → Act → World → Prop) : List Stp → Act → World → Prop
  | [], a, w => Q .normal a w
  | .q ks :: s, a, w => wpQuiet P l.toArray (fun _ => True) (fun a' => wpMix P l Q s a' w) (pick l ks) a
  | .f ks :: s, a, w => wpList P l.toArray (contF (wpMix P l Q s)) (pick l ks) a w
  | .p i j :: s, a, w => wpList P l.toArray (contF (wpMix P l Q s)) (pick l [i, j]) a w ∧ wpList P l.toArray (contF (wpMix P l Q s)) (pick l [j, i]) a w

theorem wpAny_q {l : List Oper} {Q : Exit → Act → World → Prop} (hQ : ∀ c a a' w, Q (.panic c) a w → Q (.panic c) a' w) (hsel : Region.noSelect l.toArray = true) {X : Act → World → Prop} {n : Nat} :
    ∀ (p : List Nat) (L : Array Bool) (a : Act) (w : World), qB md l.toArray p L = true → (∀ a', X a' w → wpAny P md l.toArray Q n (runSet L p) a' w) → wpQuiet P l.toArray (fun _ => True) (fun a' => X a' w) (pick l p) a →
      wpAny P md l.toArray Q (p.length + n) L a w := by
  intro p
  induction p with
  | nil => intro L a w hB h hx; rw [List.length_nil, Nat.zero_add]; exact h a hx
  | cons i p ih =>
    intro L a w hB h hx
    simp only [qB, Bool.and_eq_true] at hB
    obtain ⟨⟨⟨ho, hr⟩, hf⟩, hB'⟩ := hB
    cases ho2 : l.toArray[i]? with
    | none => rw [ho2] at ho; cases ho
    | some o =>
      rw [ho2] at ho
      have hs1 : simpleOp o = true := by simpa using ho
      have ho' : l[i]? = some o := by simpa using ho2
      rw [pick_cons ho'] at hx
      have hr' : i ∈ Region.ready md l.toArray L := by simpa using hr
      have hq : qOp P l.toArray (fun _ => True) i (wpQuiet P l.toArray (fun _ => True) (fun a' => X a' w) (pick l p)) a := by unfold qOp; simp only [ho2]; exact hx
      obtain ⟨v, hy, hK⟩ := yields_of_quiet ho2 hs1 hq
      rw [List.length_cons, show p.length + 1 + n = (p.length + n) + 1 from by omega]
      exact wpAny_first ho2 (Region.noSelect_spec hsel) (fun c a w h => hQ c _ _ w h) _ L a w (Region.free_spec ho2 hf) hr' hy (ih _ _ _ hB' h hK)

theorem wpAny_f {l : List Oper} {Q : Exit → Act → World → Prop} {X : Act → World → Prop} {n : Nat} :
    ∀ (p : List Nat) (L : Array Bool) (a : Act) (w : World), fB md l.toArray p L = true → (∀ a' w', X a' w' → wpAny P md l.toArray Q n (runSet L p) a' w') → wpList P l.toArray (contF X) (pick l p) a w →
      wpAny P md l.toArray Q (p.length + n) L a w := by
  intro p
  induction p with
  | nil => intro L a w hB h hx; rw [List.length_nil, Nat.zero_add]; exact h a w hx
  | cons k p ih =>
    intro L a w hB h hx
    simp only [fB, Bool.and_eq_true, decide_eq_true_eq] at hB
    obtain ⟨⟨hr, ho⟩, hB'⟩ := hB
    obtain ⟨o, ho⟩ := Option.isSome_iff_exists.1 ho
    have ho' : l[k]? = some o := by simpa using ho
    rw [pick_cons ho'] at hx
    rw [List.length_cons, show p.length + 1 + n = (p.length + n) + 1 from by omega]
    refine ⟨fun h1 => (by rw [hr] at h1; cases h1), fun i hi => ?_⟩
    rw [hr] at hi
    have hik : i = k := by simpa using hi
    subst hik
    have hw : wpOp P l.toArray (contF X) i (wpList P l.toArray (contF X) (pick l p)) a w := by unfold wpOp; simp only [ho]; exact hx
    exact wpOp_mono (fun a' w' h' => ih _ _ _ hB' h h') (wpOp_F hw)

theorem wpAny_mix {l : List Oper} {Q : Exit → Act → World → Prop} (hQ : ∀ c a a' w, Q (.panic c) a w → Q (.panic c) a' w) (hsel : Region.noSelect l.toArray = true) :
    ∀ (s : List Stp) (L : Array Bool) (a : Act) (w : World), mixB md l.toArray s L = true → wpMix P l Q s a w → wpAny P md l.toArray Q (lenS s) L a w := by
  intro s
  induction s with
  | nil => intro L a w hB h; exact ⟨by simpa [mixB] using hB, h⟩
  | cons st s ih =>
    intro L a w hB h
    cases st with
    | q ks =>
      simp only [mixB, Bool.and_eq_true] at hB
      exact wpAny_q hQ hsel (X := wpMix P l Q s) ks L a w hB.1 (fun a' h' => ih _ _ _ hB.2 h') h
    | f ks =>
      simp only [mixB, Bool.and_eq_true] at hB
      exact wpAny_f ks L a w hB.1 (fun a' w' h' => ih _ _ _ hB.2 h') h
    | p i j =>
      simp only [mixB, Bool.and_eq_true, decide_eq_true_eq, beq_iff_eq] at hB
      obtain ⟨⟨⟨⟨⟨⟨hr, h1⟩, h2⟩, hi⟩, hj⟩, he⟩, hB'⟩ := hB
      obtain ⟨ha, hb⟩ := h
      show wpAny P md l.toArray Q (2 + lenS s) L a w
      rw [show 2 + lenS s = (1 + lenS s) + 1 from by omega]
      refine ⟨fun h1 => (by rw [hr] at h1; cases h1), fun k hk => ?_⟩
      rw [hr] at hk
      rcases (by simpa using hk : k = i ∨ k = j) with rfl | rfl
      · obtain ⟨o, ho⟩ := Option.isSome_iff_exists.1 hi
        have ho' : l[k]? = some o := by simpa using ho
        rw [pick_cons ho'] at ha
        have hw : wpOp P l.toArray (contF (wpMix P l Q s)) k (wpList P l.toArray (contF (wpMix P l Q s)) (pick l [j])) a w := by unfold wpOp; simp only [ho]; exact ha
        exact wpOp_mono (fun a' w' h' => wpAny_f [j] _ a' w' h1 (fun a'' w'' h'' => ih _ _ _ hB' h'') h') (wpOp_F hw)
      · obtain ⟨o, ho⟩ := Option.isSome_iff_exists.1 hj
        have ho' : l[k]? = some o := by simpa using ho
        rw [pick_cons ho'] at hb
        have hw : wpOp P l.toArray (contF (wpMix P l Q s)) k (wpList P l.toArray (contF (wpMix P l Q s)) (pick l [i])) a w := by unfold wpOp; simp only [ho]; exact hb
        refine wpOp_mono (fun a' w' h' => wpAny_f [i] _ a' w' h2 (fun a'' w'' h'' => ?_) h') (wpOp_F hw)
        have := ih _ _ _ hB' h''
        rw [← he] at this
        exact this

def mixAllB (l : List Oper) (s : List Stp) : Bool :=
  Region.noSelect l.toArray && decide (lenS s = l.length) && mixB .any l.toArray s (Array.replicate l.length false)

theorem wp_mix {id : Nat} {Q : Exit → Act → World → Prop} {a : Act} {w : World} {l : List Oper} (s : List Stp) (hm : P.follows .mixedOrders = true) (hB : mixAllB l s = true)
    (h : ∀ Q' : Exit → Act → World → Prop, (∀ a w, Q .normal a w → Q' .normal a w) → wpMix P l Q' s a w.drew) :
    (Code.region id l.toArray true).wp P Q a w := by
  simp only [mixAllB, Bool.and_eq_true, decide_eq_true_eq] at hB
  obtain ⟨⟨hsel, hlen⟩, hB⟩ := hB
  refine Code.wp_mono (Q := noPan Q) (fun e a w hq => by cases e <;> first | exact hq | exact (hq : False).elim) ?_
  refine wp_region_any hm ?_
  have := wpAny_mix (md := .any) (Q := noPan Q) (fun c a a' w hq => hq) hsel s (Array.replicate l.length false) a w.drew hB (h (noPan Q) fun _ _ h => h)
  rw [show lenS s = l.toArray.size from by simp; omega] at this
  simpa using this
end
end Go.Proofs.Ytllddidjiabegaa
