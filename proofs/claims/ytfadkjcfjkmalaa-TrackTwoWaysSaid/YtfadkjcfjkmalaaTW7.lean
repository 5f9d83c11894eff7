/- Texts of this claim, together. -/
import Derived.Test.YtfadkjcfjkmalaaTW6
import Derived.LoopN
import Derived.Laws.CopyOwn
import Derived.Laws.NewBlocks
import Derived.ProofKit
import Derived.OpenShut
import Derived.ShutString
import Derived.ChangeOld
import Derived.Below
import Derived.Lib.SmallJoins

set_option linter.unusedVariables false
set_option linter.unusedSimpArgs false
namespace Go.Proofs.Ytfadkjcfjkmalaa
open Go.RowKit
section
variable {P : Program} {md : Region.Mode}
end
end Go.Proofs.Ytfadkjcfjkmalaa
set_option linter.unusedVariables false
set_option linter.unusedSimpArgs false
namespace Go.Proofs.Ytfadkjcfjkmalaa
open Go.RowKit
section
variable {P : Program} {md : Region.Mode}
inductive Stp where
 | q (ks : List Nat)
 | f (ks : List Nat)
 | p (i j : Nat)
def contF (K : Act → World → Prop) : Exit → Act → World → Prop
 | .normal, a, w => K a w
 | _, _, _ => False
theorem wp_F {ops : Array Oper} {Q : Exit → Act → World → Prop} {X K : Act → World → Prop} {o : Oper} {a : Act} {w : World} (hh : o.wp P a w K (contF X)) : o.wp P a w K Q := by
 unfold Oper.wp at *
 generalize (execOp a.eval o).run P w = r at *
 cases r with
 | ok n w' =>
  cases n <;> simp only [Oper.upon] at hh ⊢ <;>
   first
    | exact hh
    | exact Calls.mono hh (fun e w'' he => by
      cases e with
      | returned v => exact he
      | panicked c => exact (he : False).elim
      | outgrown => obtain ⟨a, w, h⟩ := he; exact (h : False).elim)
 | halt x w' => cases x <;> simp only [Oper.upon] at hh ⊢ <;> first | exact hh | exact (hh : False).elim
theorem wpOp_F {ops : Array Oper} {Q : Exit → Act → World → Prop} {X K : Act → World → Prop} {i : Nat} {a : Act} {w : World} (hh : wpOp P ops (contF X) i K a w) : wpOp P ops Q i K a w := by
 unfold wpOp at *
 split
 ·simpa [*] using hh
 ·rename_i o ho
  simp only [ho] at hh
  split
  ·rename_i hw
   simp only [hw, if_true] at hh
   rcases hh with h | ⟨_, a, w, h⟩
   ·exact Or.inl (wp_F (ops := ops) h)
   ·exact (h : False).elim
  ·rename_i hw; simp only [hw] at hh; exact hh
def runSet (L : Array Bool) (ks : List Nat) : Array Bool := ks.foldl (fun L k => L.setIfInBounds k true) L
def qB (md : Region.Mode) (ops : Array Oper) : List Nat → Array Bool → Bool
 | [], _ => true
 | k :: p, L => ((ops[k]?).map simpleOp).getD false && (Region.ready md ops L).contains k && Region.free md ops L k && qB md ops p (L.setIfInBounds k true)
def fB (md : Region.Mode) (ops : Array Oper) : List Nat → Array Bool → Bool
 | [], _ => true
 | k :: p, L => decide (Region.ready md ops L = [k]) && (ops[k]?).isSome && fB md ops p (L.setIfInBounds k true)
def mixB (md : Region.Mode) (ops : Array Oper) : List Stp → Array Bool → Bool
 | [], L => (Region.ready md ops L).isEmpty
 | .q ks :: s, L => qB md ops ks L && mixB md ops s (runSet L ks)
 | .f ks :: s, L => fB md ops ks L && mixB md ops s (runSet L ks)
 | .p i j :: s, L => decide (Region.ready md ops L = [i, j]) && fB md ops [j] (runSet L [i]) && fB md ops [i] (runSet L [j]) && (ops[i]?).isSome && (ops[j]?).isSome && (runSet L [j, i] == runSet L [i, j]) && mixB md ops s (runSet L [i, j])
def lenS : List Stp → Nat
 | [] => 0
 | .q ks :: s => ks.length + lenS s
 | .f ks :: s => ks.length + lenS s
 | .p _ _ :: s => 2 + lenS s
def wpMix (P : Program) (l : List Oper) (Q : Exit → Act → World → Prop) : List Stp → Act → World → Prop
 | [], a, w => Q .normal a w
 | .q ks :: s, a, w => wpQuiet P l.toArray (fun _ => True) (fun a' => wpMix P l Q s a' w) (pick l ks) a
 | .f ks :: s, a, w => wpList P l.toArray (contF (wpMix P l Q s)) (pick l ks) a w
 | .p i j :: s, a, w => wpList P l.toArray (contF (wpMix P l Q s)) (pick l [i, j]) a w ∧ wpList P l.toArray (contF (wpMix P l Q s)) (pick l [j, i]) a w
theorem wpAny_q {l : List Oper} {Q : Exit → Act → World → Prop} (hQ : ∀ c a a' w, Q (.panic c) a w → Q (.panic c) a' w) (hsel : Region.noSelect l.toArray = true) {X : Act → World → Prop} {n : Nat} :
  ∀ (p : List Nat) (L : Array Bool) (a : Act) (w : World), qB md l.toArray p L = true → (∀ a', X a' w → wpAny P md l.toArray Q n (runSet L p) a' w) → wpQuiet P l.toArray (fun _ => True) (fun a' => X a' w) (pick l p) a →
   wpAny P md l.toArray Q (p.length + n) L a w := by
 intro p
 induction p with
 | nil => intro L a w hB h hx; rw [List.length_nil, Nat.zero_add]; exact h a hx
 | cons i p ih =>
  intro L a w hB h hx
  simp only [qB, Bool.and_eq_true] at hB
  obtain ⟨⟨⟨ho, hr⟩, hf⟩, hB'⟩ := hB
  cases ho2 : l.toArray[i]? with
  | none => rw [ho2] at ho; cases ho
  | some o =>
   rw [ho2] at ho
   have hs1 : simpleOp o = true := by simpa using ho
   have ho' : l[i]? = some o := by simpa using ho2
   rw [pick_cons ho'] at hx
   have hr' : i ∈ Region.ready md l.toArray L := by simpa using hr
   have hq : qOp P l.toArray (fun _ => True) i (wpQuiet P l.toArray (fun _ => True) (fun a' => X a' w) (pick l p)) a := by unfold qOp; simp only [ho2]; exact hx
   obtain ⟨v, hy, hK⟩ := yields_of_quiet ho2 hs1 hq
   rw [List.length_cons, show p.length + 1 + n = (p.length + n) + 1 from by omega]
   exact wpAny_first ho2 (Region.noSelect_spec hsel) (fun c a w h => hQ c _ _ w h) _ L a w (Region.free_spec ho2 hf) hr' hy (ih _ _ _ hB' h hK)
theorem wpAny_f {l : List Oper} {Q : Exit → Act → World → Prop} {X : Act → World → Prop} {n : Nat} :
  ∀ (p : List Nat) (L : Array Bool) (a : Act) (w : World), fB md l.toArray p L = true → (∀ a' w', X a' w' → wpAny P md l.toArray Q n (runSet L p) a' w') → wpList P l.toArray (contF X) (pick l p) a w →
   wpAny P md l.toArray Q (p.length + n) L a w := by
 intro p
 induction p with
 | nil => intro L a w hB h hx; rw [List.length_nil, Nat.zero_add]; exact h a w hx
 | cons k p ih =>
  intro L a w hB h hx
  simp only [fB, Bool.and_eq_true, decide_eq_true_eq] at hB
  obtain ⟨⟨hr, ho⟩, hB'⟩ := hB
  obtain ⟨o, ho⟩ := Option.isSome_iff_exists.1 ho
  have ho' : l[k]? = some o := by simpa using ho
  rw [pick_cons ho'] at hx
  rw [List.length_cons, show p.length + 1 + n = (p.length + n) + 1 from by omega]
  refine ⟨fun h1 => (by rw [hr] at h1; cases h1), fun i hi => ?_⟩
  rw [hr] at hi
  have hik : i = k := by simpa using hi
  subst hik
  have hw : wpOp P l.toArray (contF X) i (wpList P l.toArray (contF X) (pick l p)) a w := by unfold wpOp; simp only [ho]; exact hx
  exact wpOp_mono (fun a' w' h' => ih _ _ _ hB' h h') (wpOp_F hw)
theorem wpAny_mix {l : List Oper} {Q : Exit → Act → World → Prop} (hQ : ∀ c a a' w, Q (.panic c) a w → Q (.panic c) a' w) (hsel : Region.noSelect l.toArray = true) :
  ∀ (s : List Stp) (L : Array Bool) (a : Act) (w : World), mixB md l.toArray s L = true → wpMix P l Q s a w → wpAny P md l.toArray Q (lenS s) L a w := by
 intro s
 induction s with
 | nil => intro L a w hB h; exact ⟨by simpa [mixB] using hB, h⟩
 | cons st s ih =>
  intro L a w hB h
  cases st with
  | q ks =>
   simp only [mixB, Bool.and_eq_true] at hB
   exact wpAny_q hQ hsel (X := wpMix P l Q s) ks L a w hB.1 (fun a' h' => ih _ _ _ hB.2 h') h
  | f ks =>
   simp only [mixB, Bool.and_eq_true] at hB
   exact wpAny_f ks L a w hB.1 (fun a' w' h' => ih _ _ _ hB.2 h') h
  | p i j =>
   simp only [mixB, Bool.and_eq_true, decide_eq_true_eq, beq_iff_eq] at hB
   obtain ⟨⟨⟨⟨⟨⟨hr, h1⟩, h2⟩, hi⟩, hj⟩, he⟩, hB'⟩ := hB
   obtain ⟨ha, hb⟩ := h
   show wpAny P md l.toArray Q (2 + lenS s) L a w
   rw [show 2 + lenS s = (1 + lenS s) + 1 from by omega]
   refine ⟨fun h1 => (by rw [hr] at h1; cases h1), fun k hk => ?_⟩
   rw [hr] at hk
   rcases (by simpa using hk : k = i ∨ k = j) with rfl | rfl
   ·obtain ⟨o, ho⟩ := Option.isSome_iff_exists.1 hi
    have ho' : l[k]? = some o := by simpa using ho
    rw [pick_cons ho'] at ha
    have hw : wpOp P l.toArray (contF (wpMix P l Q s)) k (wpList P l.toArray (contF (wpMix P l Q s)) (pick l [j])) a w := by unfold wpOp; simp only [ho]; exact ha
    exact wpOp_mono (fun a' w' h' => wpAny_f [j] _ a' w' h1 (fun a'' w'' h'' => ih _ _ _ hB' h'') h') (wpOp_F hw)
   ·obtain ⟨o, ho⟩ := Option.isSome_iff_exists.1 hj
    have ho' : l[k]? = some o := by simpa using ho
    rw [pick_cons ho'] at hb
    have hw : wpOp P l.toArray (contF (wpMix P l Q s)) k (wpList P l.toArray (contF (wpMix P l Q s)) (pick l [i])) a w := by unfold wpOp; simp only [ho]; exact hb
    refine wpOp_mono (fun a' w' h' => wpAny_f [i] _ a' w' h2 (fun a'' w'' h'' => ?_) h') (wpOp_F hw)
    have := ih _ _ _ hB' h''
    rw [← he] at this
    exact this
end
end Go.Proofs.Ytfadkjcfjkmalaa
set_option linter.unusedVariables false
set_option linter.unusedSimpArgs false
namespace Go.Proofs.Ytfadkjcfjkmalaa
open Go.RowKit
section
variable {P : Program} {md : Region.Mode} {ops : Array Oper} {Q : Exit → Act → World → Prop} {C : World → Prop}
def stillB : Callee → Bool
 | .builtin .len | .builtin .max | .builtin .min | .builtin .cap => true
 | _ => false
def stillOp (o : Oper) : Bool := simpleOp o || (match o.op with | .load .. => true | .call c => stillB c.callee | _ => false)
theorem stillOp_value {o : Oper} (h : stillOp o = true) {ρ : Operand → Value} {w w1 : World} {n : Next} (hr : (execOp ρ o).run P w = .ok n w1) : ∃ v, n = .value v := by
 unfold stillOp at h
 rw [Bool.or_eq_true] at h
 rcases h with h | h
 ·exact simpleOp_value h hr
 ·split at h
  ·rename_i e
   unfold execOp at hr
   rw [e] at hr
   exact value_of_bind _ hr
  ·rename_i c e
   unfold execOp at hr
   rw [e] at hr
   unfold stillB at h
   split at h
   all_goals first
    | (rename_i e2; simp only [resolve, e2, Sem.run_bind, Sem.run_pure, Result.andThen_ok, invoke, builtin] at hr; exact value_of_bind _ (by simpa only [Sem.run_bind, Sem.run_pure] using hr))
    | cases h
  ·cases h
def YieldsX (P : Program) (ops : Array Oper) (C : World → Prop) (o : Oper) (v : Value) (a : Act) : Prop :=
 (Region.wanted o (yielded ops a.tmps) = true ∧ ∀ w, C w → (execOp a.eval o).run P w = .ok (.value v) w) ∨ (Region.wanted o (yielded ops a.tmps) = false ∧ v = undef)
theorem yieldsX_of_quiet {i : Nat} {o : Oper} {a : Act} {K : Act → Prop} (hi : ops[i]? = some o) (hs : stillOp o = true) (h : qOp P ops C i K a) : ∃ v, YieldsX P ops C o v a ∧ K (a.put o.dst v) := by
 obtain ⟨v, hy, hK⟩ := yieldsIn_of_qOp hi h
 refine ⟨v, ?_, hK⟩
 rcases hy with ⟨hw, hy⟩ | ⟨hw, rfl⟩
 ·refine Or.inl ⟨hw, fun w hC => ?_⟩
  have h1 := hy w hC
  unfold Oper.quietAt at h1
  generalize hr : (execOp a.eval o).run P w = r at h1
  cases r with
  | ok n w' =>
   obtain ⟨u, rfl⟩ := stillOp_value hs hr
   simp only [Oper.quietUpon] at h1
   rw [h1.1, h1.2]
  | halt x w' => simp only [Oper.quietUpon] at h1
 ·exact Or.inr ⟨hw, rfl⟩
theorem YieldsX.wpOp {i : Nat} {o : Oper} {v : Value} {a : Act} (hi : ops[i]? = some o) (hy : YieldsX P ops C o v a) {K : Act → World → Prop} {w : World} (hC : C w) (h : K (a.put o.dst v) w) : wpOp P ops Q i K a w := by
 unfold Go.wpOp
 simp only [hi]
 rcases hy with ⟨hw, hv⟩ | ⟨hw, rfl⟩
 ·simp only [hw, if_true, Oper.wp, hv w hC, Oper.upon]; exact .inl h
 ·simp only [hw, Bool.false_eq_true, if_false]; exact h
theorem YieldsX.of_same {o : Oper} {v : Value} {a a' : Act} (hy : YieldsX P ops C o v a) (he : execOp a'.eval o = execOp a.eval o)
  (hw : Region.wanted o (yielded ops a'.tmps) = Region.wanted o (yielded ops a.tmps)) : YieldsX P ops C o v a' := by
 unfold YieldsX at *
 rw [he, hw]
 exact hy
theorem wpOp_putX {j : Nat} {oi oj : Oper} {v : Value} (hj : ops[j]? = some oj) (hap : oi.apart ops oj = true)
  (hsi : ∀ cs b, oi.op ≠ .select cs b) (hsj : ∀ cs b, oj.op ≠ .select cs b)
  (hQ : ∀ c a w, Q (.panic c) (a.put oi.dst v) w → Q (.panic c) a w) {K : Act → World → Prop} {a : Act} {w : World}
  (hy : YieldsX P ops C oi v a) (h : wpOp P ops Q j K (a.put oi.dst v) w) :
  wpOp P ops Q j (fun a' w' => YieldsX P ops C oi v a' ∧ K (a'.put oi.dst v) w') a w := by
 obtain ⟨h1, h2, h3⟩ := Oper.apart_spec hap
 have keep : ∀ (a : Act), YieldsX P ops C oi v a → ∀ u, YieldsX P ops C oi v (a.put oj.dst u) := fun a hy u =>
  hy.of_same (execOp_put oi hsi a oj.dst u h3) (wanted_put oi a oj.dst u h3)
 have keepD : ∀ d, YieldsX P ops C oi v { a with defers := d :: a.defers } := fun d => hy.of_same rfl rfl
 unfold wpOp at *
 simp only [hj] at *
 rw [wanted_put oj a oi.dst v h1] at h
 split
 ·rename_i hw
  simp only [hw, if_true] at h
  rcases h with h | ⟨hasks, hlets⟩
  case inr => exact .inr ⟨by unfold Oper.asks at *; rw [execOp_put oj hsj a oi.dst v h1] at hasks; exact hasks, hlets⟩
  refine .inl ?_
  unfold Oper.wp at *
  rw [execOp_put oj hsj a oi.dst v h1] at h
  generalize (execOp a.eval oj).run P w = r at *
  cases r with
  | ok n w' =>
   cases n <;> simp only [Oper.upon] at h ⊢
   case value u => exact ⟨keep a hy u, by rw [← Act.put_comm a v u h2]; exact h⟩
   case skip => exact ⟨keep a hy _, by rw [← Act.put_comm a v undef h2]; exact h⟩
   case defer d =>
    refine ⟨keep _ (keepD d) _, ?_⟩
    rw [← Act.put_comm _ v undef h2, ← Act.put_defers]
    exact h
   case enter f args =>
    refine Calls.mono h fun e w'' he => ?_
    cases e with
    | returned u => exact ⟨keep a hy u, by rw [← Act.put_comm a v u h2]; exact he⟩
    | panicked c => exact hQ _ _ _ he
    | outgrown => exact he
   case row row args => exact Rows.mono h fun u w'' he => ⟨keep a hy u, by rw [← Act.put_comm a v u h2]; exact he⟩
  | halt x w' =>
   cases x <;> simp only [Oper.upon] at h ⊢
   case panic u => exact hQ _ _ _ h
 ·rename_i hw
  simp only [hw] at h
  exact ⟨keep a hy _, by rw [← Act.put_comm a v undef h2]; exact h⟩
def wpAnyC (P : Program) (md : Region.Mode) (ops : Array Oper) (C : World → Prop) (Q : Exit → Act → World → Prop) (n1 m : Nat) : Nat → Array Bool → Act → World → Prop
 | 0, listed, a, w => (∀ j, j < n1 → listed.getD j true = true) ∧ wpAny P md ops Q m listed a w
 | fuel + 1, listed, a, w => Region.ready md ops listed ≠ [] ∧ ∀ i ∈ Region.ready md ops listed, wpOp P ops Q i (fun a' w' => C w' ∧ wpAnyC P md ops C Q n1 m fuel (listed.setIfInBounds i true) a' w') a w
theorem wpAny_of_C {n1 m : Nat} : ∀ (f : Nat) (listed : Array Bool) (a : Act) (w : World), wpAnyC P md ops C Q n1 m f listed a w → wpAny P md ops Q (f + m) listed a w := by
 intro f
 induction f with
 | zero => intro listed a w h; rw [Nat.zero_add]; exact h.2
 | succ f ih =>
  intro listed a w h
  rw [show f + 1 + m = (f + m) + 1 by omega]
  exact ⟨fun h0 => absurd h0 h.1, fun i hi => wpOp_mono (fun _ _ h' => ih _ _ _ h'.2) (h.2 i hi)⟩
def phaseB (md : Region.Mode) (ops : Array Oper) (n1 : Nat) : Bool :=
 (List.range ops.size).all fun j => decide (j < n1) || (List.range n1).all fun i => Region.waitsFor md ops j i
theorem phase_ready {n1 i j : Nat} {listed : Array Bool} (hp : phaseB md ops n1 = true) (hi : i < n1) (hun : listed.getD i true = false) (hj : j ∈ Region.ready md ops listed) : j < n1 := by
 obtain ⟨_, oj, hoj, hall⟩ := mem_ready.1 hj
 have hlt : j < ops.size := (Array.getElem?_eq_some_iff.1 hoj).1
 have h1 := List.all_eq_true.1 hp j (List.mem_range.2 hlt)
 simp only [Bool.or_eq_true, decide_eq_true_eq] at h1
 rcases h1 with h1 | h1
 ·exact h1
 ·obtain ⟨o', ho', e, he, hb, hon⟩ := Region.waitsFor_spec (List.all_eq_true.1 h1 i (List.mem_range.2 hi))
  have : o' = oj := Option.some.inj (ho'.symm.trans hoj)
  subst this
  have h2 := hall e he hb
  rw [hon, getD_both hun] at h2
  cases h2
theorem wpAnyC_first {n1 m i : Nat} {oi : Oper} {v : Value} (hp : phaseB md ops n1 = true) (hin : i < n1) (hi : ops[i]? = some oi) (hsel : ∀ (j : Nat) (o : Oper) cs b, ops[j]? = some o → o.op ≠ .select cs b)
  (hQ : ∀ c a w, Q (.panic c) (a.put oi.dst v) w → Q (.panic c) a w) :
  ∀ (fuel : Nat) (listed : Array Bool) (a : Act) (w : World), C w →
   (∀ j oj, ops[j]? = some oj → j ≠ i → listed.getD j true = false → (∀ e ∈ oj.after, Region.binds md e = true → e.on ≠ i) → oi.apart ops oj = true) →
   i ∈ Region.ready md ops listed → YieldsX P ops C oi v a →
   wpAnyC P md ops C Q n1 m fuel (listed.setIfInBounds i true) (a.put oi.dst v) w → wpAnyC P md ops C Q n1 m (fuel + 1) listed a w := by
 intro fuel
 induction fuel with
 | zero =>
  intro listed a w hC _ hr hy H
  refine ⟨fun h => (by rw [h] at hr; cases hr), fun j hj => ?_⟩
  by_cases hji : j = i
  ·subst hji; exact hy.wpOp hi hC ⟨hC, H⟩
  ·have hjn := phase_ready hp hin (mem_ready.1 hr).1 hj
   have h1 := H.1 j hjn
   rw [getD_set_ne true (Ne.symm hji), (mem_ready.1 hj).1] at h1
   cases h1
 | succ fuel ih =>
  intro listed a w hC hfree hr hy H
  refine ⟨fun h => (by rw [h] at hr; cases hr), fun j hj => ?_⟩
  by_cases hji : j = i
  ·subst hji; exact hy.wpOp hi hC ⟨hC, H⟩
  ·have h1 := H.2 j (ready_mono hj hji)
   obtain ⟨hjun, oj, hoj, hall⟩ := mem_ready.1 hj
   have hnot : ∀ e ∈ oj.after, Region.binds md e = true → e.on ≠ i := fun e he hb heq => by
    have h1 := hall e he hb
    have h0 := (mem_ready.1 hr).1
    rw [heq] at h1
    rcases Nat.lt_or_ge i listed.size with h' | h'
    ·simp [h'] at h0 h1; rw [h0] at h1; cases h1
    ·simp [Array.getElem?_eq_none h'] at h1
   have h2 := wpOp_putX hoj (hfree j oj hoj hji hjun hnot) (fun cs b => hsel i oi cs b hi) (fun cs b => hsel j oj cs b hoj) hQ hy h1
   have hfree' : ∀ k ok, ops[k]? = some ok → k ≠ i → (listed.setIfInBounds j true).getD k true = false →
     (∀ e ∈ ok.after, Region.binds md e = true → e.on ≠ i) → oi.apart ops ok = true := fun k ok hk hki hun hno => by
    refine hfree k ok hk hki ?_ hno
    by_cases hjk : j = k
    ·subst hjk; exact hjun
    ·rw [getD_set_ne true hjk] at hun; exact hun
   refine wpOp_mono (fun a' w' h3 => ⟨h3.2.1, ih (listed.setIfInBounds j true) a' w' h3.2.1 hfree' (ready_mono hr (Ne.symm hji)) h3.1 ?_⟩) h2
   rw [Array.setIfInBounds_comm _ _ hji]
   exact h3.2.2
def qcB (md : Region.Mode) (ops : Array Oper) (n1 : Nat) : List Nat → Array Bool → Bool
 | [], _ => true
 | k :: p, L => decide (k < n1) && ((ops[k]?).map stillOp).getD false && (Region.ready md ops L).contains k && Region.free md ops L k && qcB md ops n1 p (L.setIfInBounds k true)
def mixcB (md : Region.Mode) (ops : Array Oper) (n1 : Nat) (s2 : List Stp) : List Stp → Array Bool → Bool
 | [], L => (List.range n1).all (fun j => L.getD j true) && mixB md ops s2 L
 | .q ks :: s, L => qcB md ops n1 ks L && mixcB md ops n1 s2 s (runSet L ks)
 | .f ks :: s, L => fB md ops ks L && mixcB md ops n1 s2 s (runSet L ks)
 | .p i j :: s, L => decide (Region.ready md ops L = [i, j]) && fB md ops [j] (runSet L [i]) && fB md ops [i] (runSet L [j]) && (ops[i]?).isSome && (ops[j]?).isSome && (runSet L [j, i] == runSet L [i, j]) && mixcB md ops n1 s2 s (runSet L [i, j])
def wpSteps (P : Program) (ops : Array Oper) (C : World → Prop) (X : Act → World → Prop) : List Oper → Act → World → Prop
 | [], a, w => X a w
 | o :: rest, a, w => wpList P ops (contF fun a' w' => C w' ∧ wpSteps P ops C X rest a' w') [o] a w
def wpMixC (P : Program) (l : List Oper) (C : World → Prop) (Q : Exit → Act → World → Prop) (s2 : List Stp) : List Stp → Act → World → Prop
 | [], a, w => wpMix P l Q s2 a w
 | .q ks :: s, a, w => wpQuiet P l.toArray C (fun a' => wpMixC P l C Q s2 s a' w) (pick l ks) a
 | .f ks :: s, a, w => wpSteps P l.toArray C (wpMixC P l C Q s2 s) (pick l ks) a w
 | .p i j :: s, a, w => wpSteps P l.toArray C (wpMixC P l C Q s2 s) (pick l [i, j]) a w ∧ wpSteps P l.toArray C (wpMixC P l C Q s2 s) (pick l [j, i]) a w
theorem wpAnyC_q {l : List Oper} {Q : Exit → Act → World → Prop} {n1 m : Nat} (hp : phaseB md l.toArray n1 = true) (hQ : ∀ c a a' w, Q (.panic c) a w → Q (.panic c) a' w) (hsel : Region.noSelect l.toArray = true) {X : Act → World → Prop} {n : Nat} :
  ∀ (p : List Nat) (L : Array Bool) (a : Act) (w : World), C w → qcB md l.toArray n1 p L = true → (∀ a', X a' w → wpAnyC P md l.toArray C Q n1 m n (runSet L p) a' w) → wpQuiet P l.toArray C (fun a' => X a' w) (pick l p) a →
   wpAnyC P md l.toArray C Q n1 m (p.length + n) L a w := by
 intro p
 induction p with
 | nil => intro L a w hC hB h hx; rw [List.length_nil, Nat.zero_add]; exact h a hx
 | cons i p ih =>
  intro L a w hC hB h hx
  simp only [qcB, Bool.and_eq_true, decide_eq_true_eq] at hB
  obtain ⟨⟨⟨⟨hin, ho⟩, hr⟩, hf⟩, hB'⟩ := hB
  cases ho2 : l.toArray[i]? with
  | none => rw [ho2] at ho; cases ho
  | some o =>
   rw [ho2] at ho
   have hs1 : stillOp o = true := by simpa using ho
   have ho' : l[i]? = some o := by simpa using ho2
   rw [pick_cons ho'] at hx
   have hr' : i ∈ Region.ready md l.toArray L := by simpa using hr
   have hq : qOp P l.toArray C i (wpQuiet P l.toArray C (fun a' => X a' w) (pick l p)) a := by unfold qOp; simp only [ho2]; exact hx
   obtain ⟨v, hy, hK⟩ := yieldsX_of_quiet ho2 hs1 hq
   rw [List.length_cons, show p.length + 1 + n = (p.length + n) + 1 from by omega]
   exact wpAnyC_first hp hin ho2 (Region.noSelect_spec hsel) (fun c a w h => hQ c _ _ w h) _ L a w hC (Region.free_spec ho2 hf) hr' hy (ih _ _ _ hC hB' h hK)
theorem wpAnyC_f {l : List Oper} {Q : Exit → Act → World → Prop} {X : Act → World → Prop} {n n1 m : Nat} :
  ∀ (p : List Nat) (L : Array Bool) (a : Act) (w : World), C w → fB md l.toArray p L = true → (∀ a' w', C w' → X a' w' → wpAnyC P md l.toArray C Q n1 m n (runSet L p) a' w') → wpSteps P l.toArray C X (pick l p) a w →
   wpAnyC P md l.toArray C Q n1 m (p.length + n) L a w := by
 intro p
 induction p with
 | nil => intro L a w hC hB h hx; rw [List.length_nil, Nat.zero_add]; exact h a w hC hx
 | cons k p ih =>
  intro L a w hC hB h hx
  simp only [fB, Bool.and_eq_true, decide_eq_true_eq] at hB
  obtain ⟨⟨hr, ho⟩, hB'⟩ := hB
  obtain ⟨o, ho⟩ := Option.isSome_iff_exists.1 ho
  have ho' : l[k]? = some o := by simpa using ho
  rw [pick_cons ho'] at hx
  rw [List.length_cons, show p.length + 1 + n = (p.length + n) + 1 from by omega]
  refine ⟨fun h1 => (by rw [hr] at h1; cases h1), fun i hi => ?_⟩
  rw [hr] at hi
  have hik : i = k := by simpa using hi
  subst hik
  rw [wpSteps] at hx
  have hw : wpOp P l.toArray (contF fun a' w' => C w' ∧ wpSteps P l.toArray C X (pick l p) a' w') i (fun a' w' => C w' ∧ wpSteps P l.toArray C X (pick l p) a' w') a w := by
   unfold wpOp; simp only [ho]; exact hx
  exact wpOp_mono (fun a' w' h' => ⟨h'.1, ih _ _ _ h'.1 hB' h h'.2⟩) (wpOp_F hw)
theorem wpAnyC_mix {l : List Oper} {Q : Exit → Act → World → Prop} {n1 : Nat} {s2 : List Stp} (hp : phaseB md l.toArray n1 = true) (hQ : ∀ c a a' w, Q (.panic c) a w → Q (.panic c) a' w) (hsel : Region.noSelect l.toArray = true) :
  ∀ (s : List Stp) (L : Array Bool) (a : Act) (w : World), C w → mixcB md l.toArray n1 s2 s L = true → wpMixC P l C Q s2 s a w → wpAnyC P md l.toArray C Q n1 (lenS s2) (lenS s) L a w := by
 intro s
 induction s with
 | nil =>
  intro L a w hC hB h
  simp only [mixcB, Bool.and_eq_true] at hB
  exact ⟨fun j hj => List.all_eq_true.1 hB.1 j (List.mem_range.2 hj), wpAny_mix hQ hsel s2 L a w hB.2 h⟩
 | cons st s ih =>
  intro L a w hC hB h
  cases st with
  | q ks =>
   simp only [mixcB, Bool.and_eq_true] at hB
   exact wpAnyC_q hp hQ hsel (X := wpMixC P l C Q s2 s) ks L a w hC hB.1 (fun a' h' => ih _ _ _ hC hB.2 h') h
  | f ks =>
   simp only [mixcB, Bool.and_eq_true] at hB
   exact wpAnyC_f ks L a w hC hB.1 (fun a' w' hC' h' => ih _ _ _ hC' hB.2 h') h
  | p i j =>
   simp only [mixcB, Bool.and_eq_true, decide_eq_true_eq, beq_iff_eq] at hB
   obtain ⟨⟨⟨⟨⟨⟨hr, h1⟩, h2⟩, hi⟩, hj⟩, he⟩, hB'⟩ := hB
   obtain ⟨ha, hb⟩ := h
   show wpAnyC P md l.toArray C Q n1 (lenS s2) (2 + lenS s) L a w
   rw [show 2 + lenS s = (1 + lenS s) + 1 from by omega]
   refine ⟨fun h1 => (by rw [hr] at h1; cases h1), fun k hk => ?_⟩
   rw [hr] at hk
   rcases (by simpa using hk : k = i ∨ k = j) with rfl | rfl
   ·obtain ⟨o, ho⟩ := Option.isSome_iff_exists.1 hi
    have ho' : l[k]? = some o := by simpa using ho
    rw [pick_cons ho', wpSteps] at ha
    have hw : wpOp P l.toArray (contF fun a' w' => C w' ∧ wpSteps P l.toArray C (wpMixC P l C Q s2 s) (pick l [j]) a' w') k (fun a' w' => C w' ∧ wpSteps P l.toArray C (wpMixC P l C Q s2 s) (pick l [j]) a' w') a w := by
     unfold wpOp; simp only [ho]; exact ha
    exact wpOp_mono (fun a' w' h' => ⟨h'.1, wpAnyC_f [j] _ a' w' h'.1 h1 (fun a'' w'' hC'' h'' => ih _ _ _ hC'' hB' h'') h'.2⟩) (wpOp_F hw)
   ·obtain ⟨o, ho⟩ := Option.isSome_iff_exists.1 hj
    have ho' : l[k]? = some o := by simpa using ho
    rw [pick_cons ho', wpSteps] at hb
    have hw : wpOp P l.toArray (contF fun a' w' => C w' ∧ wpSteps P l.toArray C (wpMixC P l C Q s2 s) (pick l [i]) a' w') k (fun a' w' => C w' ∧ wpSteps P l.toArray C (wpMixC P l C Q s2 s) (pick l [i]) a' w') a w := by
     unfold wpOp; simp only [ho]; exact hb
    refine wpOp_mono (fun a' w' h' => ⟨h'.1, wpAnyC_f [i] _ a' w' h'.1 h2 (fun a'' w'' hC'' h'' => ?_) h'.2⟩) (wpOp_F hw)
    have := ih _ _ _ hC'' hB' h''
    rw [← he] at this
    exact this
def mixcAllB (l : List Oper) (n1 : Nat) (s s2 : List Stp) : Bool :=
 Region.noSelect l.toArray && phaseB .any l.toArray n1 && decide (lenS s + lenS s2 = l.length) && mixcB .any l.toArray n1 s2 s (Array.replicate l.length false)
theorem wp_mixC (C : World → Prop) {id : Nat} {a : Act} {w : World} {l : List Oper} (n1 : Nat) (s s2 : List Stp) (hm : P.follows .mixedOrders = true) (hB : mixcAllB l n1 s s2 = true) (hC : C w.drew)
  (h : ∀ Q' : Exit → Act → World → Prop, (∀ a w, Q .normal a w → Q' .normal a w) → wpMixC P l C Q' s2 s a w.drew) :
  (Code.region id l.toArray true).wp P Q a w := by
 simp only [mixcAllB, Bool.and_eq_true, decide_eq_true_eq] at hB
 obtain ⟨⟨⟨hsel, hp⟩, hlen⟩, hB⟩ := hB
 refine Code.wp_mono (Q := noPan Q) (fun e a w hq => by cases e <;> first | exact hq | exact (hq : False).elim) ?_
 refine wp_region_any hm ?_
 have := wpAny_of_C (C := C) _ _ _ _ (wpAnyC_mix (md := .any) (Q := noPan Q) hp (fun c a a' w hq => hq) hsel s (Array.replicate l.length false) a w.drew hC hB (h (noPan Q) fun _ _ h => h))
 rw [show lenS s + lenS s2 = l.toArray.size from by simp; omega] at this
 simpa using this
end
theorem run_load_cell {P : Program} {o : Oper} {a : Act} {w : World} {ty : TypeId} {x : Operand} {p : Addr} {v : Value} (ho : o.op = .load ty x) (hx : a.eval x = .pointer (some p)) (hd : ∀ w, (isAgg ty).run P w = .ok false w) (hc : w.cell? p = some v) :
  (execOp a.eval o).run P w = .ok (.value v) w := by
 unfold execOp
 simp only [ho, hx]
 simp [go_sem, hc, hd]
def aggB (P : Program) (ty : TypeId) : Bool := match P.underlying ty with | some (.struct _) | some (.array _ _) | none => true | _ => false
theorem isAgg_no {P : Program} {ty : TypeId} (h : aggB P ty = false) (w : World) : (isAgg ty).run P w = .ok false w := by
 unfold aggB at h
 cases e : P.underlying ty with
 | none => rw [e] at h; cases h
 | some d =>
  rw [e] at h
  simp only [isAgg, Sem.run_bind, run_underlying e, Result.andThen_ok]
  split
  ·cases h
  ·cases h
  ·rfl
theorem quiet_cellB {P : Program} {o : Oper} {a : Act} {B : Nat} {w0 : World} {K : Act → Prop} {ty : TypeId} {x : Operand} {b off : Nat} {v : Value} (ho : o.op = .load ty x) (hx : a.eval x = .pointer (some ⟨b, off, none⟩)) (hd : aggB P ty = false)
  (hc : w0.cell? ⟨b, off, none⟩ = some v) (hb : b < B) (hK : K (a.put o.dst v)) : o.quiet P a (fun w' => Below B w0 w') K :=
 quiet_val v (fun w hw => run_load_cell ho hx (isAgg_no hd) ((hw.cell (p := ⟨b, off, none⟩) hb).trans hc)) hK
end Go.Proofs.Ytfadkjcfjkmalaa
set_option linter.unusedVariables false
set_option linter.unusedSimpArgs false
namespace Go.Proofs.Ytfadkjcfjkmalaa
open Go.RowKit
def KeepB (G : List Nat) (W wc : World) : Prop := ∀ g ∈ G, g < wc.heap.size ∧ wc.heap[g]? = W.heap[g]?
theorem KeepB.refl {G : List Nat} {W : World} (h : ∀ g ∈ G, g < W.heap.size) : KeepB G W W := fun g hg => ⟨h g hg, rfl⟩
theorem KeepB.drew {G : List Nat} {W w : World} (h : KeepB G W w) : KeepB G W w.drew := fun g hg => h g hg
theorem KeepB.below {G : List Nat} {W w w' : World} (h : KeepB G W w) (hb : Below w.heap.size w w') : KeepB G W w' := fun g hg => ⟨Nat.lt_of_lt_of_le (h g hg).1 hb.size, (hb.block g (h g hg).1).trans (h g hg).2⟩
theorem KeepB.alloc {G : List Nat} {W w : World} (h : KeepB G W w) (o : Obj) : KeepB G W (w.alloc o) := KeepB.below h ((Below.refl _ _).alloc (Nat.le_refl _) o)
theorem heap_setCell_ne (w : World) (g k off : Nat) (v : Value) (h : g ≠ k) : (w.setCell ⟨k, off, none⟩ v).heap[g]? = w.heap[g]? := heap_setCell_other w ⟨k, off, none⟩ g v h
theorem KeepB.setCell {G : List Nat} {W w : World} {k off : Nat} {v : Value} (h : KeepB G W w) (hk : ∀ g ∈ G, g ≠ k) : KeepB G W (w.setCell ⟨k, off, none⟩ v) := fun g hg => by
 rw [World.size_setCell, heap_setCell_ne _ _ _ _ _ (hk g hg)]; exact h g hg
theorem KeepB.cell {G : List Nat} {W w : World} (h : KeepB G W w) {g off : Nat} (hg : g ∈ G) : w.cell? ⟨g, off, none⟩ = W.cell? ⟨g, off, none⟩ := by
 simp only [World.cell?, (h g hg).2]
section
variable {P : Program} {md : Region.Mode} {ops : Array Oper} {Q : Exit → Act → World → Prop} {C : World → Prop}
end
end Go.Proofs.Ytfadkjcfjkmalaa
set_option linter.unusedVariables false
set_option linter.unusedSimpArgs false
namespace Go.Proofs.Ytfadkjcfjkmalaa
open Go.RowKit
def V3.v (p : V3) : Value := .agg #[.int .i64 p.x, .int .i64 p.y, .int .i64 p.z]
def TMod.v (m : TMod) : Value := .agg #[.int .i64 m.px, .int .i64 m.py, .int .i64 m.pz, .int .i64 m.tm, .int .i64 m.tk, .int .i64 m.lo, .int .i64 m.hi, .int .i64 m.li, .int .i64 m.ea, .int .i64 m.la, .int .i64 m.no, .int .i64 m.mi]
theorem BelowA {h : Nat} {w w' : World} (g : Below h w w' := by (repeat (with_reducible first | exact Below.refl _ _ | assumption | refine Below.drewN _ ?_ | refine Below.drew ?_ | refine Below_alloc ?_ _ | refine Below.alloc ?_ (by first | (simp; done) | (simp; omega) | omega) _ | refine Below.setCell ?_ (by first | (simp; done) | (simp; omega) | omega) _ | refine Below_call ?_ (by assumption) | refine Below.trans ?_ (by assumption)))) : Below h w w' := g
end Go.Proofs.Ytfadkjcfjkmalaa
set_option linter.unusedVariables false
set_option linter.unusedSimpArgs false
namespace Go.Proofs.Ytfadkjcfjkmalaa
open Go.RowKit
theorem add_plain' (g i j : Nat) : (⟨g, i, none⟩ : Addr).add j = ⟨g, i + j, none⟩ := by unfold Addr.add; split <;> simp_all
def flat (n sz : Nat) (c : Nat → Nat → Value) : List Value := (List.range (n * sz)).map fun q => c (q / sz) (q % sz)
theorem flat_at {n sz : Nat} {c : Nat → Nat → Value} {q : Nat} {u : Value} (h : (flat n sz c)[q]? = some u) : q < n * sz ∧ u = c (q / sz) (q % sz) := by
 have hq : q < n * sz := by have := (List.getElem?_eq_some_iff.1 h).1; simpa [flat] using this
 refine ⟨hq, ?_⟩
 simp [flat, hq] at h
 exact h.symm
theorem flat_ints (l : List Int) : flat l.length 1 (fun i _ => .int .i64 (nth l i)) = l.map (Value.int .i64) := by
 apply List.ext_getElem (by simp [flat])
 intro i h1 h2
 have h3 : i < l.length := by simpa using h2
 simp [flat, nth, List.getD, h3]
theorem SlAt.src {w : World} {v : Value} {n sz : Nat} {c : Nat → Nat → Value} (h : SlAt w v n sz c) : ∃ ao cap, v = .slice ao n cap ∧ n ≤ cap ∧ cap ≤ maxLen ∧
  ∀ W : World, Below w.heap.size w W → ((ao = none ∧ n = 0 ∧ cap = 0) ∨ ∃ ad, ao = some ad ∧ ∀ q u, (flat n sz c)[q]? = some u → W.cell? (ad.add q) = some u) := by
 obtain ⟨ao, cap, rfl, h1, h2, h3, h4⟩ := h
 refine ⟨ao, cap, rfl, h1, h2, fun W hW => ?_⟩
 by_cases hn : 0 < n
 ·obtain ⟨b, off, e, hlt, hc⟩ := h3 hn
  refine Or.inr ⟨_, e, fun q u hq => ?_⟩
  obtain ⟨hq1, rfl⟩ := flat_at hq
  have hs : 0 < sz := Nat.pos_of_ne_zero (by rintro rfl; simp at hq1)
  have hi : q / sz < n := Nat.div_lt_of_lt_mul (by rwa [Nat.mul_comm])
  rw [add_plain', ← hc (q / sz) (q % sz) hi (Nat.mod_lt _ hs), show off + q / sz * sz + q % sz = off + q from by rw [Nat.add_assoc, Nat.mul_comm, Nat.div_add_mod]]
  exact hW.cell (p := ⟨b, off + q, none⟩) hlt
 ·have hn0 : n = 0 := by omega
  subst hn0
  cases ao with
  | none => exact Or.inl ⟨rfl, rfl, h4 rfl⟩
  | some ad => exact Or.inr ⟨ad, rfl, fun q u hq => absurd (flat_at hq).1 (by omega)⟩
theorem IntsAt.src {w : World} {v : Value} {l : List Int} (h : IntsAt w v l) : ∃ ao cap, v = .slice ao l.length cap ∧ l.length ≤ cap ∧ cap ≤ maxLen ∧
  ∀ W : World, Below w.heap.size w W → ((ao = none ∧ l.length = 0 ∧ cap = 0) ∨ ∃ ad, ao = some ad ∧ ∀ q u, (l.map (Value.int .i64))[q]? = some u → W.cell? (ad.add q) = some u) := by
 have := SlAt.src h
 rwa [show flat l.length 1 (fun i _ => Value.int .i64 (l.getD i 0)) = l.map (Value.int .i64) from flat_ints l] at this
theorem two_cells {w : World} {g : Nat} {x y : Value} {t : TypeId} (h : w.heap[g]? = some (.cells #[x, y] t (0, 0))) :
  w.cell? ⟨g, 0, none⟩ = some x ∧ w.cell? ⟨g, 1, none⟩ = some y ∧ w.frozen? ⟨g, 0, none⟩ = false ∧ w.frozen? ⟨g, 1, none⟩ = false ∧ g < w.heap.size := by
 refine ⟨?_, ?_, frozen_of_row w g 0 _ t h, frozen_of_row w g 1 _ t h, (Array.getElem?_eq_some_iff.1 h).1⟩
 ·rw [cell_of_row w g 0 _ t (0, 0) h]; rfl
 ·rw [cell_of_row w g 1 _ t (0, 0) h]; rfl
def SlIn (w : World) (v : Value) (n sz : Nat) (c : Nat → Nat → Value) (N : Nat → Prop) : Prop :=
 ∃ ao cap, v = .slice ao n cap ∧ n ≤ cap ∧ cap ≤ maxLen ∧
  (0 < n → ∃ b off, ao = some ⟨b, off, none⟩ ∧ b < w.heap.size ∧ N b ∧ ∀ i j, i < n → j < sz → w.cell? ⟨b, off + i * sz + j, none⟩ = some (c i j)) ∧ (ao = none → cap = 0)
theorem SlIn.sl {w : World} {v : Value} {n sz : Nat} {c : Nat → Nat → Value} {N : Nat → Prop} (h : SlIn w v n sz c N) : SlAt w v n sz c := by
 obtain ⟨ao, cap, rfl, h1, h2, h3, h4⟩ := h
 refine ⟨ao, cap, rfl, h1, h2, fun h0 => ?_, h4⟩
 obtain ⟨b, off, e, hlt, _, hc⟩ := h3 h0
 exact ⟨b, off, e, hlt, hc⟩
theorem cell_of_heap {w w' : World} {b o : Nat} (h : w'.heap[b]? = w.heap[b]?) : w'.cell? ⟨b, o, none⟩ = w.cell? ⟨b, o, none⟩ := by
 simp only [World.cell?, h]
theorem SlIn.keep {w w' : World} {v : Value} {n sz : Nat} {c : Nat → Nat → Value} {N N' : Nat → Prop} (h : SlIn w v n sz c N) (hs : w.heap.size ≤ w'.heap.size) (hk : ∀ b, b < w.heap.size → N b → w'.heap[b]? = w.heap[b]? ∧ N' b) : SlIn w' v n sz c N' := by
 obtain ⟨ao, cap, rfl, h1, h2, h3, h4⟩ := h
 refine ⟨ao, cap, rfl, h1, h2, fun h0 => ?_, h4⟩
 obtain ⟨b, off, e, hlt, hN, hc⟩ := h3 h0
 obtain ⟨h5, h6⟩ := hk b hlt hN
 exact ⟨b, off, e, Nat.lt_of_lt_of_le hlt hs, h6, fun i j hi hj => (cell_of_heap h5).trans (hc i j hi hj)⟩
def Pair2 (w : World) (b : Nat) (x y : Value) : Prop := b < w.heap.size ∧ w.cell? ⟨b, 0, none⟩ = some x ∧ w.cell? ⟨b, 1, none⟩ = some y
theorem Pair2.below {w w' : World} {b : Nat} {x y : Value} (h : Pair2 w b x y) (hb : Below w.heap.size w w') : Pair2 w' b x y :=
 ⟨Nat.lt_of_lt_of_le h.1 hb.size, (hb.cell (p := ⟨b, 0, none⟩) h.1).trans h.2.1, (hb.cell (p := ⟨b, 1, none⟩) h.1).trans h.2.2⟩
def Quad (w : World) (b : Nat) (x y z u : Value) : Prop := b < w.heap.size ∧ w.cell? ⟨b, 0, none⟩ = some x ∧ w.cell? ⟨b, 1, none⟩ = some y ∧ w.cell? ⟨b, 2, none⟩ = some z ∧ w.cell? ⟨b, 3, none⟩ = some u
theorem Quad.below {w w' : World} {b : Nat} {x y z u : Value} (h : Quad w b x y z u) (hb : Below w.heap.size w w') : Quad w' b x y z u :=
 ⟨Nat.lt_of_lt_of_le h.1 hb.size, (hb.cell (p := ⟨b, 0, none⟩) h.1).trans h.2.1, (hb.cell (p := ⟨b, 1, none⟩) h.1).trans h.2.2.1, (hb.cell (p := ⟨b, 2, none⟩) h.1).trans h.2.2.2.1, (hb.cell (p := ⟨b, 3, none⟩) h.1).trans h.2.2.2.2⟩
def scan (f : Nat → Int) (n : Nat) : Int := firstNZ ((List.range n).map f)
theorem scan_end {f : Nat → Int} {n : Nat} (h : ∀ j, j < n → f j = 0) : scan f n = 0 := by
 unfold scan
 rw [firstNZ_zero]
 intro x hx
 obtain ⟨j, hj, rfl⟩ := List.mem_map.1 hx
 exact h j (List.mem_range.1 hj)
theorem scan_zero {f : Nat → Int} {n : Nat} (h : scan f n = 0) : ∀ j, j < n → f j = 0 := by
 unfold scan at h
 rw [firstNZ_zero] at h
 exact fun j hj => h _ (List.mem_map.2 ⟨j, List.mem_range.2 hj, rfl⟩)
theorem scan_at {f : Nat → Int} {n k : Nat} (h : ∀ j, j < k → f j = 0) (hk : k < n) (hne : f k ≠ 0) : scan f n = f k := by
 unfold scan
 obtain ⟨m, rfl⟩ : ∃ m, n = k + (m + 1) := ⟨n - k - 1, by omega⟩
 rw [List.range_add, List.map_append, firstNZ_append_zero]
 ·rw [List.range_succ_eq_map]
  simp [firstNZ, hne]
 ·intro x hx
  obtain ⟨j, hj, rfl⟩ := List.mem_map.1 hx
  exact h j (List.mem_range.1 hj)
def scanI (f : Nat → Int) (n : Nat) : Int := (((List.range n).find? (fun i => f i != 0)).getD 0 : Nat)
theorem scanI_end {f : Nat → Int} {n : Nat} (h : ∀ j, j < n → f j = 0) : scanI f n = 0 := by
 unfold scanI
 rw [List.find?_eq_none.2]
 ·rfl
 ·intro x hx; rw [h x (List.mem_range.1 hx)]; simp
theorem scanI_at {f : Nat → Int} {n k : Nat} (h : ∀ j, j < k → f j = 0) (hk : k < n) (hne : f k ≠ 0) : scanI f n = k := by
 unfold scanI
 obtain ⟨m, rfl⟩ : ∃ m, n = k + (m + 1) := ⟨n - k - 1, by omega⟩
 rw [List.range_add, List.find?_append, List.find?_eq_none.2, List.range_succ_eq_map]
 ·simp [hne]
 ·intro x hx; rw [h x (List.mem_range.1 hx)]; simp
end Go.Proofs.Ytfadkjcfjkmalaa
set_option linter.unusedVariables false
set_option linter.unusedSimpArgs false
namespace Go.Proofs.Ytfadkjcfjkmalaa
open Go.RowKit
section
variable {H : Type} {enc : TypeId × Value → H} {P : Program} {w : World} {base : Nat} {spare : Nat → Bool} {held : Bool}
theorem cell_lt {w : World} {a : Addr} {v : Value} (h : w.cell? a = some v) : a.block < w.heap.size := by
 unfold World.cell? at h
 cases e : w.heap[a.block]? with
 | none => simp [e] at h
 | some o => exact (Array.getElem?_eq_some_iff.1 e).1
theorem list_of {α : Type} (d : α) : ∀ (n : Nat) {R : Nat → α → Prop}, (∀ i, i < n → ∃ x, R i x) → ∃ l : List α, l.length = n ∧ ∀ i, i < n → R i (l.getD i d) := by
 intro n
 induction n with
 | zero => intro R _; exact ⟨[], rfl, fun i hi => absurd hi (by omega)⟩
 | succ n ih =>
  intro R h
  obtain ⟨l, hl, hr⟩ := ih (fun i hi => h i (by omega))
  obtain ⟨x, hx⟩ := h n (by omega)
  refine ⟨l ++ [x], by simp [hl], fun i hi => ?_⟩
  rcases Nat.lt_or_ge i n with h1 | h1
  ·have : (l ++ [x]).getD i d = l.getD i d := by simp [List.getD, List.getElem?_append_left (show i < l.length by omega)]
   rw [this]; exact hr i h1
  ·have e : i = n := by omega
   subst e
   have : (l ++ [x]).getD i d = x := by rw [← hl]; simp [List.getD]
   rw [this]; exact hx
theorem SlAt.congr {w : World} {v : Value} {n sz : Nat} {c d : Nat → Nat → Value} (h : SlAt w v n sz c) (e : ∀ i j, i < n → j < sz → c i j = d i j) : SlAt w v n sz d := by
 obtain ⟨ao, cap, rfl, h1, h2, h3, h4⟩ := h
 refine ⟨ao, cap, rfl, h1, h2, fun h0 => ?_, h4⟩
 obtain ⟨b, off, e1, hlt, hc⟩ := h3 h0
 exact ⟨b, off, e1, hlt, fun i j hi hj => by rw [hc i j hi hj, e i j hi hj]⟩
theorem slAt_of_trod {t e : TypeId} {sz fuel : Nat} {v : Value} {x : DataW H × List MemPlace} (ht : P.underlying t = some (.slice e)) (hc : P.cellsOf e = sz) (hsz : 0 < sz)
  (h : DataW.trod enc P w base spare held fuel t [v] = some x) :
  ∃ (n : Nat) (css : Nat → List Value), SlAt w v n sz (fun i j => (css i).getD j undef) ∧ ∀ i, i < n → (css i).length = sz ∧ ∃ m y, DataW.trod enc P w base spare held m e (css i) = some y := by
 rcases DataW.trod_slice ht h with ⟨h0, _⟩ | ⟨a, len, cap, elems, rest, m, _, h0, _, hb, hl, hm, hlen, hel, _, _⟩
 ·obtain rfl : v = .slice none 0 0 := by simpa using h0
  exact ⟨0, fun _ => [], ⟨none, 0, rfl, by simp, by simp, fun h => absurd h (by omega), fun _ => rfl⟩, fun i hi => absurd hi (by omega)⟩
 ·obtain rfl : v = .slice (some a) len cap := by simpa using h0
  have each : ∀ i, i < len → ∃ cs : List Value, w.cells? base (a.add (i * sz)) sz = some cs ∧ ∃ y, DataW.trod enc P w base spare held m e cs = some y := by
   intro i hi
   have h1 := hel i hi
   rw [hc] at h1
   have h2 : elems[i]? = some elems[i] := by simp
   rw [h2, Option.bind_eq_some_iff] at h1
   obtain ⟨cs, h3, h4⟩ := h1
   exact ⟨cs, h3, _, h4⟩
  obtain ⟨css, hcl, hcs⟩ := list_of ([] : List Value) len each
  have hcell : ∀ i j, i < len → j < sz → w.cell? ((a.add (i * sz)).add j) = some ((css.getD i []).getD j undef) := by
   intro i j hi hj
   obtain ⟨_, h2, h3⟩ := World.cells?_some (hcs i hi).1
   rw [h3 j hj]
   generalize css.getD i [] = c at h2 ⊢
   rw [List.getElem?_eq_getElem (by omega)]
   simp [List.getD, List.getElem?_eq_getElem (show j < c.length by omega)]
  refine ⟨len, fun i => css.getD i [], ⟨some a, cap, rfl, hl, hm, fun hp => ?_, fun h => by cases h⟩, fun i hi => ⟨(World.cells?_some (hcs i hi).1).2.1, m, (hcs i hi).2⟩⟩
  obtain ⟨b, off, spot⟩ := a
  have hspot : spot = none := by simpa [Addr.add] using World.cell?_spot (hcell 0 0 hp hsz)
  subst hspot
  refine ⟨b, off, rfl, by simpa [Addr.add] using cell_lt (hcell 0 0 hp hsz), fun i j hi hj => ?_⟩
  have := hcell i j hi hj
  rw [add_plain', add_plain'] at this
  exact this
end
end Go.Proofs.Ytfadkjcfjkmalaa
set_option linter.unusedVariables false
set_option linter.unusedSimpArgs false
namespace Go.Proofs.Ytfadkjcfjkmalaa
open Go.RowKit
end Go.Proofs.Ytfadkjcfjkmalaa
set_option linter.unusedVariables false
set_option linter.unusedSimpArgs false
namespace Go.Proofs.Ytfadkjcfjkmalaa
open Go.RowKit
def V3.sm (a b : V3) : Prop := (-1000000000000000000 ≤ a.x * b.x ∧ a.x * b.x ≤ 1000000000000000000) ∧ (-1000000000000000000 ≤ a.y * b.y ∧ a.y * b.y ≤ 1000000000000000000) ∧ (-1000000000000000000 ≤ a.z * b.z ∧ a.z * b.z ≤ 1000000000000000000)
end Go.Proofs.Ytfadkjcfjkmalaa
set_option linter.unusedVariables false
set_option linter.unusedSimpArgs false
namespace Go.Proofs.Ytfadkjcfjkmalaa
open Go.RowKit
end Go.Proofs.Ytfadkjcfjkmalaa
set_option linter.unusedVariables false
set_option linter.unusedSimpArgs false
namespace Go.Proofs.Ytfadkjcfjkmalaa
open Go.RowKit
theorem al2 (w : World) (a b : Array Value) (t s : TypeId) : ∀ W, W = (w.alloc (.cells a t)).alloc (.cells b s) → W.heap[w.heap.size]? = some (.cells a t (0, 0)) ∧ W.heap[w.heap.size + 1]? = some (.cells b s (0, 0)) ∧ w.heap.size < W.heap.size ∧ w.heap.size + 1 < W.heap.size := by
 rintro W rfl
 refine ⟨?_, ?_, by simp; omega, by simp⟩
 ·rw [Below.heap_alloc _ _ _ (by simp), heap_alloc_new]
 ·have := heap_alloc_new (w.alloc (.cells a t)) (.cells b s)
  simpa using this
--ENDC
end Go.Proofs.Ytfadkjcfjkmalaa
set_option linter.unusedVariables false
set_option linter.unusedSimpArgs false
namespace Go.Proofs.Ytfadkjcfjkmalaa
open Go.RowKit
end Go.Proofs.Ytfadkjcfjkmalaa
set_option linter.unusedVariables false
set_option linter.unusedSimpArgs false
namespace Go.Proofs.Ytfadkjcfjkmalaa
open Go.RowKit
--ENDC
end Go.Proofs.Ytfadkjcfjkmalaa
set_option linter.unusedVariables false
set_option linter.unusedSimpArgs false
namespace Go.Proofs.Ytfadkjcfjkmalaa
open Go.RowKit
end Go.Proofs.Ytfadkjcfjkmalaa
set_option linter.unusedVariables false
set_option linter.unusedSimpArgs false
namespace Go.Proofs.Ytfadkjcfjkmalaa
open Go.RowKit
def V3.at (a : V3) (k : Nat) : Int := if k = 0 then a.x else if k = 1 then a.y else a.z
theorem at_rg {a : V3} {A : Int} (h : a.inS A = true) (k : Nat) : -A ≤ a.at k ∧ a.at k ≤ A := by
 obtain ⟨h1, h2, h3⟩ := inS_iff.1 h
 unfold V3.at
 split
 ·exact h1
 ·split
  ·exact h2
  ·exact h3
theorem way_nums {m : TMod} {s p : V3} {t : Int} (ho : m.Ok) (hs : s.inS 20 = true) (hp : p.inS 1000 = true) (ht : -1000101 ≤ t ∧ t ≤ 1000100) (k : Nat) :
  (-2000 ≤ p.at k - m.pl.at k ∧ p.at k - m.pl.at k ≤ 2000) ∧ (-40000 ≤ m.tk * (p.at k - m.pl.at k) ∧ m.tk * (p.at k - m.pl.at k) ≤ 40000) ∧ (-1010101 ≤ t - m.tm ∧ t - m.tm ≤ 1010101) ∧ (-20202020 ≤ (t - m.tm) * s.at k ∧ (t - m.tm) * s.at k ≤ 20202020) := by
 have hpl : m.pl.inS 1000 = true := inS_iff.2 ⟨ho.px, ho.py, ho.pz⟩
 have h1 := at_rg hpl k
 have h2 := at_rg hp k
 have h3 := at_rg hs k
 have h4 := ho.tm
 have h5 := ho.tk
 exact ⟨by omega, mul_rg (A := 20) (B := 2000) (by omega) (by omega) (by decide), by omega, mul_rg (A := 1010101) (B := 20) (by omega) h3 (by decide)⟩
theorem reach_nums {m : TMod} {s p : V3} {t : Int} (ho : m.Ok) (hs : s.inS 20 = true) (hpm : m.permit s) (hp : p.inS 1000 = true) (ht : -1000101 ≤ t ∧ t ≤ 1000100) :
  s.sm s ∧ (m.way s p t).sm s ∧ (m.way s p t).sm (m.way s p t) ∧ (1 ≤ s.dot s ∧ s.dot s ≤ 1200) ∧ (1 ≤ s.dot s - m.slow ∧ s.dot s - m.slow ≤ 1200) ∧
  (-1214521200 ≤ (m.way s p t).dot s ∧ (m.way s p t).dot s ≤ 1214521200) ∧ (0 ≤ (m.way s p t).dot (m.way s p t) ∧ (m.way s p t).dot (m.way s p t) ≤ 1229218121041200) ∧
  (0 ≤ (m.way s p t).dot s * (m.way s p t).dot s ∧ (m.way s p t).dot s * (m.way s p t).dot s ≤ 2000000000000000000) ∧
  (0 ≤ (s.dot s - m.slow) * (m.way s p t).dot (m.way s p t) ∧ (s.dot s - m.slow) * (m.way s p t).dot (m.way s p t) ≤ 2000000000000000000) := by
 have hw := way_sz ho hs hp ht
 have h1 := dot_sz hs hs (by omega) (by omega)
 have h2 := dot_sz hw hs (by omega) (by omega)
 have h3 := dot_sz hw hw (by omega) (by omega)
 have hS := hpm.1
 have hS2 := hpm.2
 have hl := ho.lo
 have hh := ho.hi
 have hsl := ho.slo
 have hsp := ho.slp
 have hn := V3.dot_self (m.way s p t)
 have hb : -1214521200 ≤ (m.way s p t).dot s ∧ (m.way s p t).dot s ≤ 1214521200 := by unfold V3.dot; omega
 have hc : (m.way s p t).dot (m.way s p t) ≤ 1229218121041200 := by unfold V3.dot; omega
 have hbb := mul_rg hb hb (C := 1475061745249440000) (by decide)
 have hac := mul_rg (x := s.dot s - m.slow) (y := (m.way s p t).dot (m.way s p t)) (A := 1200) (B := 1229218121041200) (C := 1475061745249440000) (by omega) (by omega) (by decide)
 have hbn := sq_nn ((m.way s p t).dot s)
 have han := Int.mul_nonneg (show 0 ≤ s.dot s - m.slow by omega) hn
 refine ⟨?_, ?_, ?_, by omega, by omega, hb, ⟨hn, hc⟩, ⟨hbn, by omega⟩, ⟨han, by omega⟩⟩
 all_goals (unfold V3.sm; omega)
def At3 (w : World) (b : Nat) (a : V3) : Prop := ∀ k, k < 3 → w.cell? ⟨b, k, none⟩ = some (.int .i64 (a.at k))
theorem At3.below {w w' : World} {B b : Nat} {a : V3} (h : At3 w b a) (hb : Below B w w') (hlt : b < B) : At3 w' b a := fun k hk => (hb.cell (p := ⟨b, k, none⟩) hlt).trans (h k hk)
end Go.Proofs.Ytfadkjcfjkmalaa
set_option linter.unusedVariables false
set_option linter.unusedSimpArgs false
namespace Go.Proofs.Ytfadkjcfjkmalaa
open Go.RowKit
end Go.Proofs.Ytfadkjcfjkmalaa
set_option linter.unusedVariables false
set_option linter.unusedSimpArgs false
namespace Go.Proofs.Ytfadkjcfjkmalaa
open Go.RowKit
theorem al3 (w : World) (a b c : Array Value) (t s r : TypeId) : ∀ W, W = ((w.alloc (.cells a t)).alloc (.cells b s)).alloc (.cells c r) →
  W.heap[w.heap.size]? = some (.cells a t (0, 0)) ∧ W.heap[w.heap.size + 1]? = some (.cells b s (0, 0)) ∧ W.heap[w.heap.size + 1 + 1]? = some (.cells c r (0, 0)) := by
 rintro W rfl
 refine ⟨?_, ?_, ?_⟩
 ·rw [Below.heap_alloc _ _ _ (by simp <;> omega), Below.heap_alloc _ _ _ (by simp), heap_alloc_new]
 ·rw [Below.heap_alloc _ _ _ (by simp)]
  have := heap_alloc_new (w.alloc (.cells a t)) (.cells b s)
  simpa using this
 ·have := heap_alloc_new ((w.alloc (.cells a t)).alloc (.cells b s)) (.cells c r)
  simpa using this
end Go.Proofs.Ytfadkjcfjkmalaa
set_option linter.unusedVariables false
set_option linter.unusedSimpArgs false
namespace Go.Proofs.Ytfadkjcfjkmalaa
open Go.RowKit
end Go.Proofs.Ytfadkjcfjkmalaa
set_option linter.unusedVariables false
set_option linter.unusedSimpArgs false
namespace Go.Proofs.Ytfadkjcfjkmalaa
open Go.RowKit
--ENDC
end Go.Proofs.Ytfadkjcfjkmalaa
set_option linter.unusedVariables false
set_option linter.unusedSimpArgs false
namespace Go.Proofs.Ytfadkjcfjkmalaa
open Go.RowKit
end Go.Proofs.Ytfadkjcfjkmalaa
set_option linter.unusedVariables false
set_option linter.unusedSimpArgs false
namespace Go.Proofs.Ytfadkjcfjkmalaa
open Go.RowKit
end Go.Proofs.Ytfadkjcfjkmalaa
set_option linter.unusedVariables false
set_option linter.unusedSimpArgs false
namespace Go.Proofs.Ytfadkjcfjkmalaa
open Go.RowKit
end Go.Proofs.Ytfadkjcfjkmalaa
set_option linter.unusedVariables false
set_option linter.unusedSimpArgs false
namespace Go.Proofs.Ytfadkjcfjkmalaa
open Go.RowKit
--ENDC
theorem first_rg (m : TMod) (s p : V3) : -1000001 ≤ m.first s p ∧ m.first s p ≤ 1000001 := by
 obtain ⟨a1, a2, _, _⟩ := fstN_spec (m.reached s p) 2000002 (-1000001)
 unfold TMod.first; omega
--ENDC
end Go.Proofs.Ytfadkjcfjkmalaa
set_option linter.unusedVariables false
set_option linter.unusedSimpArgs false
namespace Go.Proofs.Ytfadkjcfjkmalaa
open Go.RowKit
structure Three (m : TMod) (s p : V3) (b0 b1 b2 : Nat) (W : World) : Prop where
 r0 : W.heap[b0]? = some (.cells #[.int .i64 m.px, .int .i64 m.py, .int .i64 m.pz, .int .i64 m.tm, .int .i64 m.tk, .int .i64 m.lo, .int .i64 m.hi, .int .i64 m.li, .int .i64 m.ea, .int .i64 m.la, .int .i64 m.no, .int .i64 m.mi] 72 (0, 0))
 r1 : W.heap[b1]? = some (.cells #[.int .i64 s.x, .int .i64 s.y, .int .i64 s.z] 75 (0, 0))
 r2 : W.heap[b2]? = some (.cells #[.int .i64 p.x, .int .i64 p.y, .int .i64 p.z] 22 (0, 0))
theorem Three.below {m : TMod} {s p : V3} {b0 b1 b2 : Nat} {W W' : World} (h : Three m s p b0 b1 b2 W) (hb : Below W.heap.size W W') : Three m s p b0 b1 b2 W' :=
 ⟨(hb.block _ (Array.getElem?_eq_some_iff.1 h.r0).1).trans h.r0, (hb.block _ (Array.getElem?_eq_some_iff.1 h.r1).1).trans h.r1, (hb.block _ (Array.getElem?_eq_some_iff.1 h.r2).1).trans h.r2⟩
end Go.Proofs.Ytfadkjcfjkmalaa
set_option linter.unusedVariables false
set_option linter.unusedSimpArgs false
namespace Go.Proofs.Ytfadkjcfjkmalaa
open Go.RowKit
theorem plE_ok {p : V3} (h : plE p = 0) : p.inS 1000 = true := by
 unfold plE at h; rwa [unl_zero (by decide)] at h
--ENDC
end Go.Proofs.Ytfadkjcfjkmalaa
set_option linter.unusedVariables false
set_option linter.unusedSimpArgs false
namespace Go.Proofs.Ytfadkjcfjkmalaa
def dig (n : Nat) : List Int := if h : n = 0 then [] else ((n % 1000000000 : Nat) : Int) :: dig (n / 1000000000)
termination_by n
decreasing_by omega
def sg (z : Int) : Int := if z < 0 then -1 else if z = 0 then 0 else 1
end Go.Proofs.Ytfadkjcfjkmalaa
set_option linter.unusedVariables false
set_option linter.unusedSimpArgs false
namespace Go.Proofs.Ytfadkjcfjkmalaa
open Go.RowKit
def DigIn (w : World) (v : Value) (l : List Int) (N : Nat → Prop) : Prop := SlIn w v l.length 1 (fun i _ => .int .i64 (nth l i)) N
theorem DigIn.ints {w : World} {v : Value} {l : List Int} {N : Nat → Prop} (h : DigIn w v l N) : IntsAt w v l := SlIn.sl h
theorem DigIn.keep {w w' : World} {v : Value} {l : List Int} {N N' : Nat → Prop} (h : DigIn w v l N) (hs : w.heap.size ≤ w'.heap.size) (hk : ∀ b, b < w.heap.size → N b → w'.heap[b]? = w.heap[b]? ∧ N' b) : DigIn w' v l N' := SlIn.keep h hs hk
theorem DigIn.mono {w w' : World} {v : Value} {l : List Int} {N N' : Nat → Prop} (h : DigIn w v l N) (hb : Below w.heap.size w w') (hk : ∀ b, b < w.heap.size → N b → N' b) : DigIn w' v l N' :=
 DigIn.keep h hb.size fun b hlt hN => ⟨hb.block b hlt, hk b hlt hN⟩
theorem IntsAt.dig {w : World} {v : Value} {l : List Int} (h : IntsAt w v l) : DigIn w v l (fun b => b < w.heap.size) := by
 obtain ⟨ao, cap, rfl, h1, h2, h3, h4⟩ := h
 exact ⟨ao, cap, rfl, h1, h2, fun h0 => by obtain ⟨b, off, e, hlt, hc⟩ := h3 h0; exact ⟨b, off, e, hlt, hlt, hc⟩, h4⟩
def WideAt (w : World) (v : Value) (z : Int) (N : Nat → Prop) : Prop := ∃ ao cap, v = .agg #[.int .i64 (sg z), .slice ao (dig z.natAbs).length cap] ∧ DigIn w (.slice ao (dig z.natAbs).length cap) (dig z.natAbs) N
theorem WideAt.keep {w w' : World} {v : Value} {z : Int} {N N' : Nat → Prop} (h : WideAt w v z N) (hs : w.heap.size ≤ w'.heap.size) (hk : ∀ b, b < w.heap.size → N b → w'.heap[b]? = w.heap[b]? ∧ N' b) : WideAt w' v z N' := by
 obtain ⟨ao, cap, rfl, h1⟩ := h
 exact ⟨ao, cap, rfl, h1.keep hs hk⟩
theorem WideAt.mono {w w' : World} {v : Value} {z : Int} {N N' : Nat → Prop} (h : WideAt w v z N) (hb : Below w.heap.size w w') (hk : ∀ b, b < w.heap.size → N b → N' b) : WideAt w' v z N' :=
 WideAt.keep h hb.size fun b hlt hN => ⟨hb.block b hlt, hk b hlt hN⟩
--ENDC
--ENDC
--ENDC
end Go.Proofs.Ytfadkjcfjkmalaa
set_option linter.unusedVariables false
set_option linter.unusedSimpArgs false
namespace Go.Proofs.Ytfadkjcfjkmalaa
open Go.RowKit
--ENDC
--ENDC
--ENDC
end Go.Proofs.Ytfadkjcfjkmalaa
set_option linter.unusedVariables false
set_option linter.unusedSimpArgs false
namespace Go.Proofs.Ytfadkjcfjkmalaa
open Go.RowKit
--ENDC
--ENDC
--ENDC
end Go.Proofs.Ytfadkjcfjkmalaa
set_option linter.unusedVariables false
set_option linter.unusedSimpArgs false
namespace Go.Proofs.Ytfadkjcfjkmalaa
open Go.RowKit
theorem DigIn.shape {w : World} {v : Value} {l : List Int} {N : Nat → Prop} (h : DigIn w v l N) : ∃ ao cap, v = .slice ao l.length cap := by
 obtain ⟨ao, cap, rfl, _⟩ := h
 exact ⟨ao, cap, rfl⟩
--ENDC
end Go.Proofs.Ytfadkjcfjkmalaa
set_option linter.unusedVariables false
set_option linter.unusedSimpArgs false
namespace Go.Proofs.Ytfadkjcfjkmalaa
open Go.RowKit
--ENDC
end Go.Proofs.Ytfadkjcfjkmalaa
set_option linter.unusedVariables false
set_option linter.unusedSimpArgs false
namespace Go.Proofs.Ytfadkjcfjkmalaa
open Go.RowKit
theorem WideAt.shape {w : World} {v : Value} {z : Int} {N : Nat → Prop} (h : WideAt w v z N) : ∃ ao n cap, v = .agg #[.int .i64 (sg z), .slice ao n cap] := by
 obtain ⟨ao, cap, rfl, _⟩ := h
 exact ⟨ao, _, cap, rfl⟩
--ENDC
--ENDC
end Go.Proofs.Ytfadkjcfjkmalaa
set_option linter.unusedVariables false
set_option linter.unusedSimpArgs false
namespace Go.Proofs.Ytfadkjcfjkmalaa
open Go.RowKit
--ENDC
end Go.Proofs.Ytfadkjcfjkmalaa
set_option linter.unusedVariables false
set_option linter.unusedSimpArgs false
namespace Go.Proofs.Ytfadkjcfjkmalaa
end Go.Proofs.Ytfadkjcfjkmalaa
set_option linter.unusedVariables false
set_option linter.unusedSimpArgs false
namespace Go.Proofs.Ytfadkjcfjkmalaa
open Go.RowKit
end Go.Proofs.Ytfadkjcfjkmalaa
set_option linter.unusedVariables false
set_option linter.unusedSimpArgs false
namespace Go.Proofs.Ytfadkjcfjkmalaa
open Go.RowKit
def RatAt (w : World) (v : Value) (n d : Int) (N : Nat → Prop) : Prop := ∃ a b c e, v = .agg #[a, b, c, e] ∧ WideAt w (.agg #[a, b]) n N ∧ WideAt w (.agg #[c, e]) d N
theorem RatAt.mono {w w' : World} {v : Value} {n d : Int} {N N' : Nat → Prop} (h : RatAt w v n d N) (hb : Below w.heap.size w w') (hk : ∀ b, b < w.heap.size → N b → N' b) : RatAt w' v n d N' := by
 obtain ⟨a, b, c, e, rfl, h1, h2⟩ := h
 exact ⟨a, b, c, e, rfl, h1.mono hb hk, h2.mono hb hk⟩
theorem RatAt.shape {w : World} {v : Value} {n d : Int} {N : Nat → Prop} (h : RatAt w v n d N) : ∃ ao k cap bo m cap2, v = .agg #[.int .i64 (sg n), .slice ao k cap, .int .i64 (sg d), .slice bo m cap2] ∧ WideAt w (.agg #[.int .i64 (sg n), .slice ao k cap]) n N ∧ WideAt w (.agg #[.int .i64 (sg d), .slice bo m cap2]) d N := by
 obtain ⟨a, b, c, e, rfl, ⟨ao, cap, h1, h2⟩, ⟨bo, cap2, h3, h4⟩⟩ := h
 cases h1; cases h3
 exact ⟨ao, _, cap, bo, _, cap2, rfl, ⟨ao, cap, rfl, h2⟩, ⟨bo, cap2, rfl, h4⟩⟩
def rN (n d : Int) : Int := n / (Int.gcd n d : Int)
def rD (n d : Int) : Int := d / (Int.gcd n d : Int)
theorem r_spec {n d : Int} (hd : 0 < d) : 0 < (Int.gcd n d : Int) ∧ (Int.gcd n d : Int) * rN n d = n ∧ (Int.gcd n d : Int) * rD n d = d ∧ 0 < rD n d ∧ (rN n d).natAbs ≤ n.natAbs ∧ (rD n d).natAbs ≤ d.natAbs := by
 have hg : 0 < Int.gcd n d := Nat.pos_of_ne_zero (fun h => by rw [Int.gcd_eq_zero_iff] at h; omega)
 have h1 : (Int.gcd n d : Int) * rN n d = n := Int.mul_ediv_cancel' (Int.gcd_dvd_left ..)
 have h2 : (Int.gcd n d : Int) * rD n d = d := Int.mul_ediv_cancel' (Int.gcd_dvd_right ..)
 have h3 : ∀ x y : Int, (Int.gcd n d : Int) * x = y → x.natAbs ≤ y.natAbs := by
  intro x y e
  rw [← e, Int.natAbs_mul]
  exact Nat.le_mul_of_pos_left _ (by omega)
 refine ⟨by omega, h1, h2, ?_, h3 _ _ h1, h3 _ _ h2⟩
 rcases Int.lt_trichotomy 0 (rD n d) with h | h | h
 ·exact h
 ·rw [← h] at h2; omega
 ·have := Int.mul_neg_of_pos_of_neg (show 0 < (Int.gcd n d : Int) by omega) h; omega
end Go.Proofs.Ytfadkjcfjkmalaa
set_option linter.unusedVariables false
set_option linter.unusedSimpArgs false
namespace Go.Proofs.Ytfadkjcfjkmalaa
end Go.Proofs.Ytfadkjcfjkmalaa
set_option linter.unusedVariables false
set_option linter.unusedSimpArgs false
namespace Go.Proofs.Ytfadkjcfjkmalaa
theorem nodup_len {α : Type} [DecidableEq α] : ∀ (l m : List α), l.Nodup → (∀ x ∈ l, x ∈ m) → l.length ≤ m.length := by
 intro l
 induction l with
 | nil => intro m _ _; exact Nat.zero_le _
 | cons x l ih =>
  intro m hn hs
  obtain ⟨h1, h2⟩ := List.nodup_cons.1 hn
  have hx : x ∈ m := hs x (by simp)
  have h3 := ih (m.erase x) h2 (fun y hy => by
   have hy2 := hs y (by simp [hy])
   have hne : y ≠ x := fun e => h1 (e ▸ hy)
   exact (List.mem_erase_of_ne hne).2 hy2)
  rw [List.length_erase_of_mem hx] at h3
  have : 0 < m.length := List.length_pos_of_mem hx
  rw [List.length_cons]; omega
instance : DecidableEq V3 := fun a b => decidable_of_iff (a.x = b.x ∧ a.y = b.y ∧ a.z = b.z) (by
 obtain ⟨a1, a2, a3⟩ := a; obtain ⟨b1, b2, b3⟩ := b; simp [V3.mk.injEq])
theorem all_nodup (b : TBox) : b.all.Nodup := (all_sorted b).imp (fun h e => by subst e; exact lexB_irr _ h)
theorem apart_has {a b : TBox} (h : a.apart b) (s : V3) : ¬ (a.has s ∧ b.has s) := by
 unfold TBox.apart TBox.has TBox.rx TBox.ry TBox.rz Rg.has at *; simp only at *; omega
theorem sum_le {b : TBox} (L : List TBox) (o : b.ok) (h : ∀ c ∈ L, c.ok ∧ c.sub b) (hp : L.Pairwise TBox.apart) : sumC L ≤ b.count := by
 have hlen : ∀ M : List TBox, (∀ c ∈ M, c.ok) → ((M.flatMap TBox.all).length : Int) = sumC M := by
  intro M
  induction M with
  | nil => intro _; simp [sumC]
  | cons c M ih => intro hM; rw [List.flatMap_cons, List.length_append, sumC_cons, ← len_all (hM c (by simp)), ← ih (fun d hd => hM d (by simp [hd]))]; push_cast; rfl
 have hnd : ∀ M : List TBox, M.Pairwise TBox.apart → (M.flatMap TBox.all).Nodup := by
  intro M
  induction M with
  | nil => intro _; simp
  | cons c M ih =>
   intro hM
   obtain ⟨h1, h2⟩ := List.pairwise_cons.1 hM
   rw [List.flatMap_cons]
   refine List.nodup_append.2 ⟨all_nodup c, ih h2, fun x hx y hy e => ?_⟩
   subst e
   obtain ⟨d, hd, hxd⟩ := List.mem_flatMap.1 hy
   exact apart_has (h1 d hd) x ⟨mem_all.1 hx, mem_all.1 hxd⟩
 rw [← hlen L (fun c hc => (h c hc).1), ← len_all o]
 have := nodup_len (L.flatMap TBox.all) b.all (hnd L hp) (fun x hx => by
  obtain ⟨c, hc, hxc⟩ := List.mem_flatMap.1 hx
  exact mem_all.2 (sub_has (h c hc).2 (mem_all.1 hxc)))
 omega
theorem sum_full {b : TBox} (L : List TBox) (o : b.ok) (h : ∀ c ∈ L, c.ok ∧ c.sub b) (hp : L.Pairwise TBox.apart) (hc : sumC L = b.count) (s : V3) (hs : b.has s) : ∃ c ∈ L, c.has s := by
 refine Classical.byContradiction fun hn => ?_
 have hb : ∀ c ∈ L, c.apart ⟨s, s⟩ := fun c hcL => by
  have h1 : ¬ c.has s := fun hh => hn ⟨c, hcL, hh⟩
  unfold TBox.apart; simp only
  unfold TBox.has TBox.rx TBox.ry TBox.rz Rg.has at h1; simp only at h1; omega
 have ho : (⟨s, s⟩ : TBox).ok := ⟨Int.le_refl _, Int.le_refl _, Int.le_refl _⟩
 have := sum_le (b := b) (⟨s, s⟩ :: L) o (fun c hcL => by
  rcases List.mem_cons.1 hcL with rfl | hcL
  ·exact ⟨ho, ⟨⟨hs.1.1, hs.1.2⟩, ⟨hs.2.1.1, hs.2.1.2⟩, ⟨hs.2.2.1, hs.2.2.2⟩⟩⟩
  ·exact h c hcL) (List.pairwise_cons.2 ⟨fun c hcL => apart_symm (hb c hcL), hp⟩)
 rw [sumC_cons, hc] at this
 have := count_pos ho
 omega
theorem covers_ge {m : TMod} {l : List THit} {K : Int} {b : TBox} {L : List TBox} (h : m.covers l K b L) (o : b.ok) {s : V3} (hb : b.has s) (hp : m.permit s) (hs : 0 ≤ m.slow) (hsl : m.slow < m.lo) (he : 0 ≤ m.ea ∧ 0 ≤ m.la) (hw : 0 ≤ m.mi ∧ 0 ≤ m.no) (hl : ∀ h ∈ l, 0 ≤ h.w) : K ≤ m.score s l := by
 obtain ⟨c, hc, hcs⟩ := sum_full L o (fun c hc => ⟨(h.each c hc).1, (h.each c hc).2.1⟩) h.apart h.count s hb
 exact proved_ge (h.each c hc).2.2 hcs hp hs hsl he hw hl
theorem lagrange (a b : V3) : 0 ≤ a.dot a * b.dot b - a.dot b * a.dot b := by
 have e : a.dot a * b.dot b - a.dot b * a.dot b = (a.x * b.y - a.y * b.x) * (a.x * b.y - a.y * b.x) + (a.x * b.z - a.z * b.x) * (a.x * b.z - a.z * b.x) + (a.y * b.z - a.z * b.y) * (a.y * b.z - a.z * b.y) := by
  unfold V3.dot; grind
 have h1 := sq_nn (a.x * b.y - a.y * b.x)
 have h2 := sq_nn (a.x * b.z - a.z * b.x)
 have h3 := sq_nn (a.y * b.z - a.z * b.y)
 omega
end Go.Proofs.Ytfadkjcfjkmalaa
set_option linter.unusedVariables false
set_option linter.unusedSimpArgs false
namespace Go.Proofs.Ytfadkjcfjkmalaa
open Go.RowKit
section
variable {P : Program} {md : Region.Mode} {ops : Array Oper} {Q : Exit → Act → World → Prop} {C : World → Prop}
end
end Go.Proofs.Ytfadkjcfjkmalaa
set_option linter.unusedVariables false
set_option linter.unusedSimpArgs false
namespace Go.Proofs.Ytfadkjcfjkmalaa
open Go.RowKit
def TMod.off (m : TMod) (p : V3) : V3 := ⟨p.x - m.px, p.y - m.py, p.z - m.pz⟩
def TMod.num (m : TMod) (s p : V3) : Int := (m.off p).dot (m.off p) * s.dot s - (m.off p).dot s * (m.off p).dot s
theorem off_in {m : TMod} {p : V3} (ho : m.Ok) (hp : p.inS 1000 = true) : (m.off p).inS 2000 = true := by
 rw [inS_iff] at *
 have h1 := ho.px; have h2 := ho.py; have h3 := ho.pz
 unfold TMod.off; simp only; omega
theorem near_nums {m : TMod} {s p : V3} (ho : m.Ok) (hs : s.inS 20 = true) (hpm : m.permit s) (hp : p.inS 1000 = true) :
  s.sm s ∧ (m.off p).sm s ∧ (m.off p).sm (m.off p) ∧ (1 ≤ s.dot s ∧ s.dot s ≤ 1200) ∧ (0 ≤ (m.off p).dot (m.off p) ∧ (m.off p).dot (m.off p) ≤ 12000000) ∧ (-120000 ≤ (m.off p).dot s ∧ (m.off p).dot s ≤ 120000) ∧
  (0 ≤ (m.off p).dot (m.off p) * s.dot s ∧ (m.off p).dot (m.off p) * s.dot s ≤ 14400000000) ∧ (0 ≤ (m.off p).dot s * (m.off p).dot s ∧ (m.off p).dot s * (m.off p).dot s ≤ 14400000000) ∧ (0 ≤ m.num s p ∧ m.num s p ≤ 14400000000) := by
 have hw := off_in ho hp
 have h1 := dot_sz hs hs (by omega) (by omega)
 have h2 := dot_sz hw hs (by omega) (by omega)
 have h3 := dot_sz hw hw (by omega) (by omega)
 have hS := hpm.1
 have hS2 := hpm.2
 have hl := ho.lo
 have hh := ho.hi
 have hn := V3.dot_self (m.off p)
 have hb : -120000 ≤ (m.off p).dot s ∧ (m.off p).dot s ≤ 120000 := by unfold V3.dot; omega
 have hc : (m.off p).dot (m.off p) ≤ 12000000 := by unfold V3.dot; omega
 have hbb := mul_rg hb hb (C := 14400000000) (by decide)
 have hac := mul_rg (x := (m.off p).dot (m.off p)) (y := s.dot s) (A := 12000000) (B := 1200) (C := 14400000000) (by omega) (by omega) (by decide)
 have hbn := sq_nn ((m.off p).dot s)
 have han := Int.mul_nonneg hn (show 0 ≤ s.dot s by omega)
 have hlg := lagrange (m.off p) s
 refine ⟨?_, ?_, ?_, by omega, ⟨hn, hc⟩, hb, ⟨han, by omega⟩, ⟨hbn, by omega⟩, ⟨hlg, by unfold TMod.num; omega⟩⟩
 all_goals (unfold V3.sm; omega)
theorem r_pos {n d : Int} (hn : 0 ≤ n) (hd : 0 < d) : 0 ≤ rN n d ∧ rN n d ≤ n ∧ 1 ≤ rD n d ∧ rD n d ≤ d ∧ 1 ≤ (Int.gcd n d : Int) ∧ (Int.gcd n d : Int) ≤ d ∧ n.tdiv (Int.gcd n d) = rN n d ∧ d.tdiv (Int.gcd n d) = rD n d := by
 obtain ⟨h1, h2, h3, h4, h5, h6⟩ := r_spec (n := n) hd
 have hg : (Int.gcd n d : Int) ≤ d := Int.le_of_dvd hd (Int.gcd_dvd_right ..)
 have hN : 0 ≤ rN n d := Int.ediv_nonneg hn (by omega)
 exact ⟨hN, by omega, by omega, by omega, by omega, hg, Int.tdiv_eq_ediv_of_nonneg hn, Int.tdiv_eq_ediv_of_nonneg (by omega)⟩
end Go.Proofs.Ytfadkjcfjkmalaa
set_option linter.unusedVariables false
set_option linter.unusedSimpArgs false
namespace Go.Proofs.Ytfadkjcfjkmalaa
open Go.RowKit
def THit.zero : THit := ⟨⟨0, 0, 0⟩, 0, 0⟩
def THit.cell (x : THit) : Nat → Value
 | 0 => .int .i64 x.p.x
 | 1 => .int .i64 x.p.y
 | 2 => .int .i64 x.p.z
 | 3 => .int .i64 x.t
 | _ => .int .i64 x.w
def THit.v (x : THit) : Value := .agg #[.int .i64 x.p.x, .int .i64 x.p.y, .int .i64 x.p.z, .int .i64 x.t, .int .i64 x.w]
def hitAt (l : List THit) (i : Nat) : THit := l.getD i THit.zero
theorem hitAt_lt {l : List THit} {i : Nat} (h : i < l.length) : hitAt l i = l[i] := by simp [hitAt, List.getD, h]
theorem hitAt_take {l : List THit} {k : Nat} (h : k < l.length) : l.take (k + 1) = l.take k ++ [hitAt l k] := by
 rw [List.take_succ_eq_append_getElem h, hitAt_lt h]
def HitsAt (w : World) (v : Value) (l : List THit) : Prop := SlAt w v l.length 5 (fun i j => (hitAt l i).cell j)
theorem HitsAt.below {w w' : World} {v : Value} {l : List THit} (h : HitsAt w v l) (hb : Below w.heap.size w w') : HitsAt w' v l := SlAt.below h hb
theorem HitsAt.opn {w : World} {v : Value} {l : List THit} (h : HitsAt w v l) : ∃ ao cap, v = .slice ao l.length cap ∧ l.length ≤ cap ∧ cap ≤ maxLen ∧
  ∀ k, k < l.length → ∃ b off, ao = some ⟨b, off, none⟩ ∧ b < w.heap.size ∧ ∀ i, i < l.length →
   w.cell? ⟨b, off + i * 5, none⟩ = some (.int .i64 (hitAt l i).p.x) ∧ w.cell? ⟨b, off + i * 5 + 1, none⟩ = some (.int .i64 (hitAt l i).p.y) ∧ w.cell? ⟨b, off + i * 5 + 2, none⟩ = some (.int .i64 (hitAt l i).p.z) ∧ w.cell? ⟨b, off + i * 5 + 3, none⟩ = some (.int .i64 (hitAt l i).t) ∧ w.cell? ⟨b, off + i * 5 + 4, none⟩ = some (.int .i64 (hitAt l i).w) := by
 obtain ⟨ao, cap, rfl, h1, h2, h3, _⟩ := h
 refine ⟨ao, cap, rfl, h1, h2, fun k hk => ?_⟩
 obtain ⟨b, off, e, hlt, hc⟩ := h3 (by omega)
 exact ⟨b, off, e, hlt, fun i hi => ⟨hc i 0 hi (by omega), hc i 1 hi (by omega), hc i 2 hi (by omega), hc i 3 hi (by omega), hc i 4 hi (by omega)⟩⟩
def hitsIdx (l : List THit) : Int := if 12 < l.length then 0 else scanI (fun i => (hitAt l i).err) l.length
def hitsE (l : List THit) : Int := if 12 < l.length then 8 else scan (fun i => (hitAt l i).err) l.length
end Go.Proofs.Ytfadkjcfjkmalaa
set_option linter.unusedVariables false
set_option linter.unusedSimpArgs false
namespace Go.Proofs.Ytfadkjcfjkmalaa
open Go.RowKit
structure THit.Ok (h : THit) : Prop where
 p : h.p.inS 1000 = true
 t : -10000 ≤ h.t ∧ h.t ≤ 10000
 w : 0 ≤ h.w ∧ h.w ≤ 100
theorem hit_ok {h : THit} (e : h.err = 0) : h.Ok := by
 unfold THit.err at e
 rw [firstNZ_cons, firstNZ_cons, firstNZ_cons] at e
 obtain ⟨h1, h2, h3, _⟩ := e
 unfold tmE at h2
 rw [unl_zero (by decide)] at h2 h3
 exact ⟨plE_ok h1, inB_true.1 h2, inB_true.1 h3⟩
end Go.Proofs.Ytfadkjcfjkmalaa
set_option linter.unusedVariables false
set_option linter.unusedSimpArgs false
namespace Go.Proofs.Ytfadkjcfjkmalaa
open Go.RowKit
theorem score_take (m : TMod) (s : V3) {l : List THit} {k : Nat} (h : k < l.length) : m.score s (l.take (k + 1)) = m.score s (l.take k) + m.pen s (hitAt l k) := by
 rw [hitAt_take h]; unfold TMod.score TMod.pens; rw [List.map_append, List.foldl_append]; rfl
theorem pen_rg {m : TMod} {s : V3} {h : THit} (ho : m.Ok) (hh : h.Ok) : -10000 ≤ m.pen s h ∧ m.pen s h ≤ 10000 := by
 have h1 := mul_rg (x := h.w) (y := m.mi) (A := 100) (B := 100) (C := 10000) (by have := hh.w; omega) (by have := ho.mi; omega) (by decide)
 have h2 := mul_rg (x := h.w) (y := m.no) (A := 100) (B := 100) (C := 10000) (by have := hh.w; omega) (by have := ho.no; omega) (by decide)
 unfold TMod.pen
 split
 ·exact h1
 ·split
  ·exact h2
  ·omega
theorem hitsE_ok {l : List THit} (h : hitsE l = 0) : l.length ≤ 12 ∧ ∀ i, i < l.length → (hitAt l i).Ok := by
 unfold hitsE at h
 split at h
 ·cases h
 ·next hb => exact ⟨by omega, fun i hi => hit_ok (scan_zero h i hi)⟩
end Go.Proofs.Ytfadkjcfjkmalaa
set_option linter.unusedVariables false
set_option linter.unusedSimpArgs false
namespace Go.Proofs.Ytfadkjcfjkmalaa
open Go.RowKit
def TBox.v (b : TBox) : Value := .agg #[.int .i64 b.lo.x, .int .i64 b.lo.y, .int .i64 b.lo.z, .int .i64 b.hi.x, .int .i64 b.hi.y, .int .i64 b.hi.z]
end Go.Proofs.Ytfadkjcfjkmalaa
set_option linter.unusedVariables false
set_option linter.unusedSimpArgs false
namespace Go.Proofs.Ytfadkjcfjkmalaa
open Go.RowKit
end Go.Proofs.Ytfadkjcfjkmalaa
set_option linter.unusedVariables false
set_option linter.unusedSimpArgs false
namespace Go.Proofs.Ytfadkjcfjkmalaa
open Go.RowKit
def Rg.v (r : Rg) : Value := .agg #[.int .i64 r.lo, .int .i64 r.hi]
set_option maxRecDepth 100000 in
set_option maxHeartbeats 4000000 in
theorem track_plus (r s : Rg) (w : World) (h1 : -4000000000000000000 ≤ r.lo ∧ r.lo ≤ 4000000000000000000) (h2 : -4000000000000000000 ≤ r.hi ∧ r.hi ≤ 4000000000000000000) (h3 : -4000000000000000000 ≤ s.lo ∧ s.lo ≤ 4000000000000000000) (h4 : -4000000000000000000 ≤ s.hi ∧ s.hi ≤ 4000000000000000000) :
  Calls Try.prog 80 #[r.v, s.v] w fun e w' => e = .returned (r.plus s).v ∧ Below w.heap.size w w' := by
 obtain ⟨a, b⟩ := r
 obtain ⟨c, d⟩ := s
 unfold Rg.v Rg.plus
 simp only at *
 go_enter Try.func80, Try.ntmps80
 go_wp2_with fail
 ((try simp only [Exit.inBlock, Exit.then]); refine bodyPost_ret (v := .agg #[.int .i64 (a + c), .int .i64 (b + d)]) ?_ rfl ?_; (next => simp [results, Try.results80, go_sem]); refine ⟨?_, ?_⟩; (next => rfl); (next => exact BelowA))
set_option maxRecDepth 100000 in
set_option maxHeartbeats 4000000 in
theorem track_square (r : Rg) (w : World) (h1 : -3000000000 ≤ r.lo ∧ r.lo ≤ 3000000000) (h2 : -3000000000 ≤ r.hi ∧ r.hi ≤ 3000000000) :
  Calls Try.prog 81 #[r.v] w fun e w' => e = .returned r.square.v ∧ Below w.heap.size w w' := by
 obtain ⟨a, b⟩ := r
 simp only at *
 have g1 := mul_rg h1 h1 (C := 9000000000000000000) (by decide)
 have g2 := mul_rg h2 h2 (C := 9000000000000000000) (by decide)
 have HV : Hid ((⟨a, b⟩ : Rg).square = if a ≤ 0 ∧ 0 ≤ b then ⟨0, max (a * a) (b * b)⟩ else ⟨min (a * a) (b * b), max (a * a) (b * b)⟩) := hid rfl
 obtain ⟨A, hA⟩ : ∃ A, a * a = A := ⟨_, rfl⟩
 obtain ⟨B, hB⟩ : ∃ B, b * b = B := ⟨_, rfl⟩
 have k1 : IntKind.i64.wrap (a * a) = A := by rw [hA]; exact IntWalk.i64_in _ (by omega)
 have k2 : IntKind.i64.wrap (b * b) = B := by rw [hB]; exact IntWalk.i64_in _ (by omega)
 rw [hA] at g1 HV
 rw [hB] at g2 HV
 generalize (⟨a, b⟩ : Rg).square = Q at HV ⊢
 unfold Rg.v
 simp only
 obtain ⟨W, hW⟩ : ∃ W, W = (w.alloc (.cells #[.int .i64 a, .int .i64 b] 113)).alloc (.cells #[.int .i64 0, .int .i64 0] 113) := ⟨_, rfl⟩
 have hbW : Below w.heap.size w W := by rw [hW]; exact BelowA
 obtain ⟨q0, q1, l0, l1⟩ := al2 w _ _ _ _ W hW
 obtain ⟨c0, c1, fc0, fc1, hlc⟩ := two_cells q0
 obtain ⟨g0, g1', fg0, fg1, hlg⟩ := two_cells q1
 clear q0 q1 hA hB fc0 fc1
 by_cases p1 : a ≤ 0
 ·by_cases p2 : 0 ≤ b
  ·have HQ : Hid (Q.lo = 0 ∧ Q.hi = max A B) := hid (by rw [HV.out, if_pos ⟨p1, p2⟩]; exact ⟨rfl, rfl⟩)
   go_enter Try.func81, Try.ntmps81
   go_wp2_with fail
   rw [← hW]
   clear hW
   refine wp_mixC (fun wc => Below (W.heap.size) W wc) 11 [.q [0, 1, 2, 3, 4, 5, 6, 7, 8, 9, 10]] [.q [11]] (by kernel_rfl) (by kernel_rfl) ((Below.refl _ _).drew) ?_
   intro Q' hQ'
   (rw [wpMixC]; simp only [pick, List.drop_succ_cons, List.drop_zero, List.head?_cons, Option.toList_some, List.cons_append, List.nil_append])
   (repeat (first | go_big_quiet_skip | (go_big_quiet_want; refine quiet_simple rfl ?_; go_big_quiet_op; go_big_quiet_on) | (go_big_quiet_want; refine quiet_cellB (ty := 3) rfl rfl (by kernel_rfl) (by assumption) (by first | omega | (simp; omega)) ?_; simp only [Act.put, List.setIfInBounds_toArray, List.set_cons_succ, List.set_cons_zero]; go_big_quiet_on)))
   (try refine wpQuiet_nil ?_)
   (rw [wpMixC])
   (rw [wpMix]; simp only [pick, List.drop_succ_cons, List.drop_zero, List.head?_cons, Option.toList_some, List.cons_append, List.nil_append])
   (repeat (first | (go_big_quiet_step (fail)) | (quiet_step (fail))))
   (try refine wpQuiet_nil ?_)
   (rw [wpMix])
   (refine hQ' _ _ ?_)
   go_wp2_with fail
   all_goals
    ((try simp only [Exit.inBlock, Exit.then]); refine bodyPost_ret (v := .agg #[.int .i64 0, .int .i64 (max A B)]) ?_ rfl ?_; (next => (simp [results, Try.results81, go_sem, hlg, g0, g1'] <;> omega)))
    exact ⟨by rw [HQ.out.1, HQ.out.2], by exact BelowA⟩
  ·have HQ : Hid (Q.lo = min A B ∧ Q.hi = max A B) := hid (by rw [HV.out, if_neg (fun h => p2 h.2)]; exact ⟨rfl, rfl⟩)
   go_enter Try.func81, Try.ntmps81
   go_wp2_with fail
   rw [← hW]
   clear hW
   refine wp_mixC (fun wc => Below (W.heap.size) W wc) 11 [.q [0, 1, 2, 3, 4, 5, 6, 7, 8, 9, 10]] [.q [11]] (by kernel_rfl) (by kernel_rfl) ((Below.refl _ _).drew) ?_
   intro Q' hQ'
   (rw [wpMixC]; simp only [pick, List.drop_succ_cons, List.drop_zero, List.head?_cons, Option.toList_some, List.cons_append, List.nil_append])
   (repeat (first | go_big_quiet_skip | (go_big_quiet_want; refine quiet_simple rfl ?_; go_big_quiet_op; go_big_quiet_on) | (go_big_quiet_want; refine quiet_cellB (ty := 3) rfl rfl (by kernel_rfl) (by assumption) (by first | omega | (simp; omega)) ?_; simp only [Act.put, List.setIfInBounds_toArray, List.set_cons_succ, List.set_cons_zero]; go_big_quiet_on)))
   (try refine wpQuiet_nil ?_)
   (rw [wpMixC])
   (rw [wpMix]; simp only [pick, List.drop_succ_cons, List.drop_zero, List.head?_cons, Option.toList_some, List.cons_append, List.nil_append])
   (repeat (first | (go_big_quiet_step (fail)) | (quiet_step (fail))))
   (try refine wpQuiet_nil ?_)
   (rw [wpMix])
   (refine hQ' _ _ ?_)
   go_wp2_with fail
   all_goals
    ((try simp only [Exit.inBlock, Exit.then]); refine bodyPost_ret (v := .agg #[.int .i64 (min A B), .int .i64 (max A B)]) ?_ rfl ?_; (next => (simp [results, Try.results81, go_sem, hlg, g0, g1'] <;> omega)))
    exact ⟨by rw [HQ.out.1, HQ.out.2], by exact BelowA⟩
 ·have HQ : Hid (Q.lo = min A B ∧ Q.hi = max A B) := hid (by rw [HV.out, if_neg (fun h => p1 h.1)]; exact ⟨rfl, rfl⟩)
  go_enter Try.func81, Try.ntmps81
  go_wp2_with fail
  rw [← hW]
  clear hW
  refine wp_mixC (fun wc => Below (W.heap.size) W wc) 11 [.q [0, 1, 2, 3, 4, 5, 6, 7, 8, 9, 10]] [.q [11]] (by kernel_rfl) (by kernel_rfl) ((Below.refl _ _).drew) ?_
  intro Q' hQ'
  (rw [wpMixC]; simp only [pick, List.drop_succ_cons, List.drop_zero, List.head?_cons, Option.toList_some, List.cons_append, List.nil_append])
  (repeat (first | go_big_quiet_skip | (go_big_quiet_want; refine quiet_simple rfl ?_; go_big_quiet_op; go_big_quiet_on) | (go_big_quiet_want; refine quiet_cellB (ty := 3) rfl rfl (by kernel_rfl) (by assumption) (by first | omega | (simp; omega)) ?_; simp only [Act.put, List.setIfInBounds_toArray, List.set_cons_succ, List.set_cons_zero]; go_big_quiet_on)))
  (try refine wpQuiet_nil ?_)
  (rw [wpMixC])
  (rw [wpMix]; simp only [pick, List.drop_succ_cons, List.drop_zero, List.head?_cons, Option.toList_some, List.cons_append, List.nil_append])
  (repeat (first | (go_big_quiet_step (fail)) | (quiet_step (fail))))
  (try refine wpQuiet_nil ?_)
  (rw [wpMix])
  (refine hQ' _ _ ?_)
  go_wp2_with fail
  all_goals
   ((try simp only [Exit.inBlock, Exit.then]); refine bodyPost_ret (v := .agg #[.int .i64 (min A B), .int .i64 (max A B)]) ?_ rfl ?_; (next => (simp [results, Try.results81, go_sem, hlg, g0, g1'] <;> omega)))
   exact ⟨by rw [HQ.out.1, HQ.out.2], by exact BelowA⟩
set_option maxRecDepth 100000 in
set_option maxHeartbeats 4000000 in
theorem slices_Min (a b c d : Int) (v : Value) (w : World) (h : IntsAt w v [a, b, c, d]) :
  Calls Try.prog 95 #[v] w fun e w' => e = .returned (.int .i64 (mn4 a b c d)) ∧ Below w.heap.size w w' := by
 obtain ⟨ao, cap, rfl, h1, h2, h3⟩ := h.opn
 obtain ⟨g, off, rfl, hb, hc⟩ := h3 0 (by simp)
 have c0 := hc 0 (by simp)
 have c1 := hc 1 (by simp)
 have c2 := hc 2 (by simp)
 have c3 := hc 3 (by simp)
 rw [show nth [a, b, c, d] 0 = a from rfl, Nat.add_zero] at c0
 rw [show nth [a, b, c, d] 1 = b from rfl] at c1
 rw [show nth [a, b, c, d] 2 = c from rfl] at c2
 rw [show nth [a, b, c, d] 3 = d from rfl] at c3
 have HV : Hid (mn4 a b c d = min (min (min a b) c) d) := hid rfl
 generalize mn4 a b c d = R at HV ⊢
 simp only [List.length_cons, List.length_nil, Nat.zero_add, Nat.reduceAdd] at *
 clear hc h3 h
 unfold maxLen at h2
 go_enter Try.func95, Try.ntmps95
 go_wp2_with fail
 refine wp_loop_rounds 4 ?_
 repeat any_goals (rw [rounds_succ]; go_wp2_with fail)
 all_goals go_ret
 all_goals exact ⟨ret_int (by rw [HV.out]; omega), Below.refl _ _⟩
set_option maxRecDepth 100000 in
set_option maxHeartbeats 4000000 in
theorem slices_Max (a b c d : Int) (v : Value) (w : World) (h : IntsAt w v [a, b, c, d]) :
  Calls Try.prog 96 #[v] w fun e w' => e = .returned (.int .i64 (mx4 a b c d)) ∧ Below w.heap.size w w' := by
 obtain ⟨ao, cap, rfl, h1, h2, h3⟩ := h.opn
 obtain ⟨g, off, rfl, hb, hc⟩ := h3 0 (by simp)
 have c0 := hc 0 (by simp)
 have c1 := hc 1 (by simp)
 have c2 := hc 2 (by simp)
 have c3 := hc 3 (by simp)
 rw [show nth [a, b, c, d] 0 = a from rfl, Nat.add_zero] at c0
 rw [show nth [a, b, c, d] 1 = b from rfl] at c1
 rw [show nth [a, b, c, d] 2 = c from rfl] at c2
 rw [show nth [a, b, c, d] 3 = d from rfl] at c3
 have HV : Hid (mx4 a b c d = max (max (max a b) c) d) := hid rfl
 generalize mx4 a b c d = R at HV ⊢
 simp only [List.length_cons, List.length_nil, Nat.zero_add, Nat.reduceAdd] at *
 clear hc h3 h
 unfold maxLen at h2
 go_enter Try.func96, Try.ntmps96
 go_wp2_with fail
 refine wp_loop_rounds 4 ?_
 repeat any_goals (rw [rounds_succ]; go_wp2_with fail)
 all_goals go_ret
 all_goals exact ⟨ret_int (by rw [HV.out]; omega), Below.refl _ _⟩
end Go.Proofs.Ytfadkjcfjkmalaa
set_option linter.unusedVariables false
set_option linter.unusedSimpArgs false
namespace Go.Proofs.Ytfadkjcfjkmalaa
open Go.RowKit
theorem run_sl4 (b : Nat) (w : World) : (Instr.sliceAt 147 (.pointer (some ⟨b, 0, none⟩)) none none none).run Try.prog w = .ok (.slice (some ⟨b, 0, none⟩) 4 4) w := by kernel_rfl
theorem quiet_sl147 {o : Oper} {a : Act} {C : World → Prop} {K : Act → Prop} {x : Operand} {b : Nat} (ho : o.op = .slice 147 x none none none) (hx : a.eval x = .pointer (some ⟨b, 0, none⟩)) (hK : K (a.put o.dst (.slice (some ⟨b, 0, none⟩) 4 4))) : o.quiet Try.prog a C K :=
 quiet_val _ (fun w _ => by
  unfold execOp
  simp only [ho, hx, Option.map_none]
  simp [go_sem, run_sl4]) hK
set_option maxRecDepth 100000 in
set_option maxHeartbeats 4000000 in
theorem track_times (r s : Rg) (w : World) (h1 : -4000000000000000000 ≤ r.lo * s.lo ∧ r.lo * s.lo ≤ 4000000000000000000) (h2 : -4000000000000000000 ≤ r.lo * s.hi ∧ r.lo * s.hi ≤ 4000000000000000000) (h3 : -4000000000000000000 ≤ r.hi * s.lo ∧ r.hi * s.lo ≤ 4000000000000000000) (h4 : -4000000000000000000 ≤ r.hi * s.hi ∧ r.hi * s.hi ≤ 4000000000000000000) :
  Calls Try.prog 91 #[r.v, s.v] w fun e w' => e = .returned (r.times s).v ∧ Below w.heap.size w w' := by
 have HV : Hid ((r.times s).lo = mn4 (r.lo * s.lo) (r.lo * s.hi) (r.hi * s.lo) (r.hi * s.hi) ∧ (r.times s).hi = mx4 (r.lo * s.lo) (r.lo * s.hi) (r.hi * s.lo) (r.hi * s.hi)) := hid ⟨rfl, rfl⟩
 generalize r.times s = T at HV ⊢
 obtain ⟨a, b⟩ := r
 obtain ⟨c, d⟩ := s
 simp only at *
 obtain ⟨P1, hP1⟩ : ∃ P, a * c = P := ⟨_, rfl⟩
 obtain ⟨P2, hP2⟩ : ∃ P, a * d = P := ⟨_, rfl⟩
 obtain ⟨P3, hP3⟩ : ∃ P, b * c = P := ⟨_, rfl⟩
 obtain ⟨P4, hP4⟩ : ∃ P, b * d = P := ⟨_, rfl⟩
 rw [hP1] at h1 HV
 rw [hP2] at h2 HV
 rw [hP3] at h3 HV
 rw [hP4] at h4 HV
 have HMIN : Hid (∀ (v : Value) (w : World), IntsAt w v [P1, P2, P3, P4] → Calls Try.prog 95 #[v] w fun e w' => e = .returned (.int .i64 T.lo) ∧ Below w.heap.size w w') := hid (fun v w h => by rw [HV.out.1]; exact slices_Min _ _ _ _ v w h)
 have HMAX : Hid (∀ (v : Value) (w : World), IntsAt w v [P1, P2, P3, P4] → Calls Try.prog 96 #[v] w fun e w' => e = .returned (.int .i64 T.hi) ∧ Below w.heap.size w w') := hid (fun v w h => by rw [HV.out.2]; exact slices_Max _ _ _ _ v w h)
 clear HV
 obtain ⟨tl, th⟩ := T
 unfold Rg.v
 simp only at *
 obtain ⟨W0, hW0⟩ : ∃ W0, W0 = ((w.alloc (.cells #[.int .i64 a, .int .i64 b] 113)).alloc (.cells #[.int .i64 c, .int .i64 d] 113)).alloc (.cells #[.int .i64 0, .int .i64 0] 113) := ⟨_, rfl⟩
 have hbW0 : Below w.heap.size w W0 := by rw [hW0]; exact BelowA
 obtain ⟨q0, q1, q2⟩ := al3 w _ _ _ _ _ _ W0 hW0
 have l2 := (Array.getElem?_eq_some_iff.1 q2).1
 have Q2 := hid q2
 have hzW0 := hbW0.size
 clear q0 q1 q2
 go_enter Try.func91, Try.ntmps91
 go_wp2_with fail
 rw [← hW0]
 obtain ⟨W, hW⟩ : ∃ W, W = W0.alloc (.cells #[.int .i64 P1, .int .i64 P2, .int .i64 P3, .int .i64 P4] 147) := ⟨_, rfl⟩
 have hbW : Below W0.heap.size W0 W := by rw [hW]; exact BelowA
 have HI : Hid (∀ W', Below W.heap.size W W' → IntsAt W' (.slice (some ⟨W0.heap.size, 0, none⟩) 4 4) [P1, P2, P3, P4]) := hid (fun W' h => ((by rw [hW]; exact intsAt_new W0 147 [P1, P2, P3, P4] 4 W0.heap.size rfl (by omega) rfl) : IntsAt W _ _).below h)
 have R2 := hid ((hbW.block (w.heap.size + 1 + 1) l2).trans Q2.out)
 have hlW0 : W0.heap.size < W.heap.size := by rw [hW]; simp
 have hz0 : W0.heap.size = w.heap.size + 1 + 1 + 1 := by rw [hW0]; simp
 rw [← hW]
 rw [hz0] at HI hlW0
 clear hW hW0
 have fin : ∀ w5 : World, Below W.heap.size W w5 → Below w.heap.size w w5 := fun w5 h => (hbW0.trans (hbW.mono hzW0)).trans (h.mono (Nat.le_trans hzW0 hbW.size))
 have hlR := (Array.getElem?_eq_some_iff.1 R2.out).1
 refine wp_mixC (fun wc => Below ((w.heap.size + 1 + 1)) W wc) 5 [.q [0, 2], .f [1, 3], .q [4]] [.f [5]] (by kernel_rfl) (by kernel_rfl) ((Below.refl _ _).drew) ?_
 intro Q' hQ'
 (rw [wpMixC]; simp only [pick, List.drop_succ_cons, List.drop_zero, List.head?_cons, Option.toList_some, List.cons_append, List.nil_append])
 (repeat (first | go_big_quiet_skip | (go_big_quiet_want; refine quiet_simple rfl ?_; go_big_quiet_op; go_big_quiet_on) | (go_big_quiet_want; refine quiet_sl147 rfl rfl ?_; simp only [Act.put, List.setIfInBounds_toArray, List.set_cons_succ, List.set_cons_zero]; go_big_quiet_on)))
 (try refine wpQuiet_nil ?_)
 (rw [wpMixC]; simp only [pick, List.drop_succ_cons, List.drop_zero, List.head?_cons, Option.toList_some, List.cons_append, List.nil_append])
 (rw [wpSteps]; go_wp2_with ((go_at_call 95; have hbq : Below W.heap.size W W.drew := (by exact BelowA); ((with_reducible refine (HMIN.out _ _ (HI.out _ hbq)).mono ?_); rintro _ w3 ⟨rfl, hb3⟩); have hz3 : W.heap.size ≤ w3.heap.size := hb3.size; have hbm3 : Below (w.heap.size + 1 + 1) W w3 := ((Below.refl (w.heap.size + 1 + 1) W).drew).trans (hb3.mono (by show _ ≤ W.heap.size; omega)))); rw [contF]; refine ⟨?_, ?_⟩; (next => exact BelowA))
 (rw [wpSteps]; go_wp2_with ((go_at_call 96; have hbq3 : Below W.heap.size W w3 := (by exact BelowA); ((with_reducible refine (HMAX.out _ _ (HI.out _ hbq3)).mono ?_); rintro _ w4 ⟨rfl, hb4⟩); have hbm4 : Below (w.heap.size + 1 + 1) W w4 := hbm3.trans (hb4.mono (by omega)); obtain ⟨g0, g1, fg0, fg1, hgl⟩ := two_cells (((hbq3.trans (hb4.mono hbq3.size)).block (w.heap.size + 1 + 1) hlR).trans R2.out))); rw [contF]; refine ⟨?_, ?_⟩; (next => exact BelowA))
 (rw [wpSteps])
 (rw [wpMixC]; simp only [pick, List.drop_succ_cons, List.drop_zero, List.head?_cons, Option.toList_some, List.cons_append, List.nil_append])
 (repeat (first | go_big_quiet_skip | (go_big_quiet_want; refine quiet_simple rfl ?_; go_big_quiet_op; go_big_quiet_on) | (go_big_quiet_want; refine quiet_sl147 rfl rfl ?_; simp only [Act.put, List.setIfInBounds_toArray, List.set_cons_succ, List.set_cons_zero]; go_big_quiet_on)))
 (try refine wpQuiet_nil ?_)
 (rw [wpMixC])
 (rw [wpMix]; simp only [pick, List.drop_succ_cons, List.drop_zero, List.head?_cons, Option.toList_some, List.cons_append, List.nil_append])
 (go_wp2_with ((first | fail)); rw [contF])
 (rw [wpMix])
 (refine hQ' _ _ ?_)
 go_wp2_with fail
 have hbe := fin _ (hbq3.trans (hb4.mono hbq3.size))
 ((try simp only [Exit.inBlock, Exit.then]); refine bodyPost_ret (v := .agg #[.int .i64 tl, .int .i64 th]) ?_ rfl ?_; (next => simp [results, Try.results91, go_sem, hgl, g0, g1]); refine ⟨?_, ?_⟩; (next => rfl); (next => exact BelowA))
end Go.Proofs.Ytfadkjcfjkmalaa
set_option linter.unusedVariables false
set_option linter.unusedSimpArgs false
namespace Go.Proofs.Ytfadkjcfjkmalaa
open Go.RowKit
theorem Rg.square_sz {r : Rg} {A C : Int} (h1 : -A ≤ r.lo ∧ r.lo ≤ A) (h2 : -A ≤ r.hi ∧ r.hi ≤ A) (hC : A * A ≤ C) : (0 ≤ r.square.lo ∧ r.square.lo ≤ C) ∧ (0 ≤ r.square.hi ∧ r.square.hi ≤ C) := by
 have g1 := mul_rg h1 h1 hC
 have g2 := mul_rg h2 h2 hC
 have g3 := sq_nn r.lo
 have g4 := sq_nn r.hi
 unfold Rg.square
 split <;> simp only <;> omega
def TMod.canB (m : TMod) (b : TBox) : Bool := decide (m.lo ≤ b.squares.hi) && decide (b.squares.lo ≤ m.hi)
theorem canB_iff {m : TMod} {b : TBox} : m.canB b = true ↔ m.canBe b := by simp [TMod.canB, TMod.canBe]
end Go.Proofs.Ytfadkjcfjkmalaa
set_option linter.unusedVariables false
set_option linter.unusedSimpArgs false
namespace Go.Proofs.Ytfadkjcfjkmalaa
open Go.RowKit
section
variable {P : Program} {md : Region.Mode} {ops : Array Oper} {Q : Exit → Act → World → Prop} {C : World → Prop}
end
end Go.Proofs.Ytfadkjcfjkmalaa
set_option linter.unusedVariables false
set_option linter.unusedSimpArgs false
namespace Go.Proofs.Ytfadkjcfjkmalaa
open Go.RowKit
def Rg.bd (r : Rg) (A : Int) : Prop := (-A ≤ r.lo ∧ r.lo ≤ A) ∧ (-A ≤ r.hi ∧ r.hi ≤ A)
theorem Rg.times_bd {r s : Rg} {A B C : Int} (h : r.bd A) (g : s.bd B) (hC : A * B ≤ C) : (r.times s).bd C := by
 have h1 := mul_rg h.1 g.1 hC
 have h2 := mul_rg h.1 g.2 hC
 have h3 := mul_rg h.2 g.1 hC
 have h4 := mul_rg h.2 g.2 hC
 unfold Rg.bd Rg.times mn4 mx4; simp only; omega
theorem Rg.plus_bd {r s : Rg} {A B C : Int} (h : r.bd A) (g : s.bd B) (hC : A + B ≤ C) : (r.plus s).bd C := by
 unfold Rg.bd Rg.plus at *; simp only; omega
theorem Rg.square_bd {r : Rg} {A C : Int} (h : r.bd A) (hC : A * A ≤ C) : r.square.bd C ∧ 0 ≤ r.square.lo ∧ 0 ≤ r.square.hi := by
 have := Rg.square_sz h.1 h.2 hC
 unfold Rg.bd; omega
def CR (f : FuncId) (args : Array Value) (v : Value) : Prop := ∀ W, Calls Try.prog f args W fun e w' => e = .returned v ∧ Below W.heap.size W w'
def Stg (tk d A : Int) (r P L P' L' : Rg) : Prop :=
 ∃ (R S U V : Rg) (TD : Int), IntKind.i64.wrap (tk * d) = TD ∧ CR 91 #[r.v, .agg #[.int .i64 (-A), .int .i64 (-A)]] R.v ∧ CR 80 #[R.v, .agg #[.int .i64 TD, .int .i64 TD]] S.v ∧ CR 91 #[S.v, r.v] U.v ∧ CR 80 #[P.v, U.v] P'.v ∧ CR 81 #[S.v] V.v ∧ CR 80 #[L.v, V.v] L'.v
theorem stg {tk d A : Int} {r P L : Rg} (htk : 1 ≤ tk ∧ tk ≤ 20) (hd : -2000 ≤ d ∧ d ≤ 2000) (hA : -1010101 ≤ A ∧ A ≤ 1010101) (hr : r.bd 20) (hP : P.bd 1000000000) (hL : L.bd 1000000000000000) :
  Stg tk d A r P L (P.plus ((restR tk r d A).times r)) (L.plus (restR tk r d A).square) ∧ ((restR tk r d A).times r).bd 404840400 ∧ ((restR tk r d A).square.bd 409739373680400 ∧ 0 ≤ (restR tk r d A).square.lo ∧ 0 ≤ (restR tk r d A).square.hi) := by
 have hT := mul_rg (x := tk) (y := d) (A := 20) (B := 2000) (C := 40000) (by omega) hd (by decide)
 have hn : (⟨-A, -A⟩ : Rg).bd 1010101 := by unfold Rg.bd; simp only; omega
 have hR := Rg.times_bd hr hn (C := 20202020) (by decide)
 have hTD : (⟨tk * d, tk * d⟩ : Rg).bd 40000 := ⟨hT, hT⟩
 have hS := Rg.plus_bd hR hTD (C := 20242020) (by decide)
 have hU := Rg.times_bd hS hr (C := 404840400) (by decide)
 have hV := Rg.square_bd hS (C := 409739373680400) (by decide)
 refine ⟨⟨r.times ⟨-A, -A⟩, restR tk r d A, (restR tk r d A).times r, (restR tk r d A).square, tk * d, IntWalk.i64_in _ (by omega), ?_, ?_, ?_, ?_, ?_, ?_⟩, hU, hV⟩
 ·intro W
  have m1 := mul_rg hr.1 hn.1 (C := 20202020) (by decide)
  have m2 := mul_rg hr.2 hn.1 (C := 20202020) (by decide)
  exact track_times r ⟨-A, -A⟩ W (by simp only at *; omega) (by simp only at *; omega) (by simp only at *; omega) (by simp only at *; omega)
 ·intro W
  exact track_plus _ ⟨tk * d, tk * d⟩ W (by have := hR.1; omega) (by have := hR.2; omega) (by simp only; omega) (by simp only; omega)
 ·intro W
  have hS' : (restR tk r d A).bd 20242020 := hS
  have m1 := mul_rg hS'.1 hr.1 (C := 404840400) (by decide)
  have m2 := mul_rg hS'.1 hr.2 (C := 404840400) (by decide)
  have m3 := mul_rg hS'.2 hr.1 (C := 404840400) (by decide)
  have m4 := mul_rg hS'.2 hr.2 (C := 404840400) (by decide)
  exact track_times _ _ W (by omega) (by omega) (by omega) (by omega)
 ·intro W
  have hU' : ((restR tk r d A).times r).bd 404840400 := hU
  unfold Rg.bd at hU' hP
  exact track_plus _ _ W (by omega) (by omega) (by omega) (by omega)
 ·intro W
  have hS' : (restR tk r d A).bd 20242020 := hS
  unfold Rg.bd at hS'
  exact track_square _ W (by omega) (by omega)
 ·intro W
  have hV' : (restR tk r d A).square.bd 409739373680400 := hV.1
  unfold Rg.bd at hV' hL
  exact track_plus _ _ W (by omega) (by omega) (by omega) (by omega)
theorem stg3 {m : TMod} {b : TBox} {p : V3} {t : Int} (ho : m.Ok) (hl : b.lo.inS 20 = true) (hh : b.hi.inS 20 = true) (hp : p.inS 1000 = true) (ht : -1000101 ≤ t ∧ t ≤ 1000100) :
  ∃ P1 P2 L1 L2 : Rg, Stg m.tk (p.x - m.px) (t - m.tm) b.rx ⟨0, 0⟩ ⟨0, 0⟩ P1 L1 ∧ Stg m.tk (p.y - m.py) (t - m.tm) b.ry P1 L1 P2 L2 ∧ Stg m.tk (p.z - m.pz) (t - m.tm) b.rz P2 L2 (m.prodR b p t) (m.leftR b p t) ∧ (m.prodR b p t).bd 1214521200 ∧ (m.leftR b p t).bd 1229218121041200 ∧ 0 ≤ (m.leftR b p t).lo ∧ 0 ≤ (m.leftR b p t).hi := by
 obtain ⟨a1, a2, a3⟩ := inS_iff.1 hl
 obtain ⟨b1, b2, b3⟩ := inS_iff.1 hh
 obtain ⟨c1, c2, c3⟩ := inS_iff.1 hp
 have hA : -1010101 ≤ t - m.tm ∧ t - m.tm ≤ 1010101 := by have := ho.tm; omega
 have z : (⟨0, 0⟩ : Rg).bd 0 := by unfold Rg.bd; simp
 have zw : ∀ (C : Int), 0 ≤ C → (⟨0, 0⟩ : Rg).bd C := fun C h => by unfold Rg.bd; simp only; omega
 have s0 := stg (tk := m.tk) (d := p.x - m.px) (A := t - m.tm) (r := b.rx) (P := ⟨0, 0⟩) (L := ⟨0, 0⟩) ho.tk (by have := ho.px; omega) hA ⟨a1, b1⟩ (zw _ (by decide)) (zw _ (by decide))
 have p1 := Rg.plus_bd z s0.2.1 (C := 404840400) (by decide)
 have l1 := Rg.plus_bd z s0.2.2.1 (C := 409739373680400) (by decide)
 have w : ∀ {r : Rg} {A B : Int}, r.bd A → A ≤ B → r.bd B := fun h g => by unfold Rg.bd at *; omega
 have s1 := stg (tk := m.tk) (d := p.y - m.py) (A := t - m.tm) (r := b.ry) ho.tk (by have := ho.py; omega) hA ⟨a2, b2⟩ (w p1 (by decide)) (w l1 (by decide))
 have p2 := Rg.plus_bd p1 s1.2.1 (C := 809680800) (by decide)
 have l2 := Rg.plus_bd l1 s1.2.2.1 (C := 819478747360800) (by decide)
 have s2 := stg (tk := m.tk) (d := p.z - m.pz) (A := t - m.tm) (r := b.rz) ho.tk (by have := ho.pz; omega) hA ⟨a3, b3⟩ (w p2 (by decide)) (w l2 (by decide))
 have p3 := Rg.plus_bd p2 s2.2.1 (C := 1214521200) (by decide)
 have l3 := Rg.plus_bd l2 s2.2.2.1 (C := 1229218121041200) (by decide)
 have h0 := s0.2.2.2
 have h1 := s1.2.2.2
 have h2 := s2.2.2.2
 refine ⟨_, _, _, _, s0.1, s1.1, s2.1, p3, l3, ?_, ?_⟩
 ·unfold TMod.leftR Rg.plus; simp only; omega
 ·unfold TMod.leftR Rg.plus; simp only; omega
theorem fast_bd {m : TMod} {b : TBox} (ho : m.Ok) (hl : b.lo.inS 20 = true) (hh : b.hi.inS 20 = true) (hc : m.canBe b) :
  (1 ≤ (m.fast b).lo ∧ (m.fast b).lo ≤ 1200) ∧ (1 ≤ (m.fast b).hi ∧ (m.fast b).hi ≤ 1200) ∧ IntKind.i64.wrap (max b.squares.lo m.lo - m.slow) = (m.fast b).lo ∧ IntKind.i64.wrap (min b.squares.hi m.hi - m.slow) = (m.fast b).hi := by
 obtain ⟨a1, a2, a3⟩ := inS_iff.1 hl
 obtain ⟨b1, b2, b3⟩ := inS_iff.1 hh
 have s1 := Rg.square_sz (r := b.rx) (A := 20) (C := 400) a1 b1 (by decide)
 have s2 := Rg.square_sz (r := b.ry) (A := 20) (C := 400) a2 b2 (by decide)
 have s3 := Rg.square_sz (r := b.rz) (A := 20) (C := 400) a3 b3 (by decide)
 have hsq : (0 ≤ b.squares.lo ∧ b.squares.lo ≤ 1200) ∧ (0 ≤ b.squares.hi ∧ b.squares.hi ≤ 1200) := by unfold TBox.squares Rg.plus; simp only; omega
 have h1 := ho.slo; have h2 := ho.slp; have h3 := ho.lo; have h4 := ho.hi; have h5 := ho.ord
 unfold TMod.canBe at hc
 have e1 : (m.fast b).lo = max b.squares.lo m.lo - m.slow := rfl
 have e2 : (m.fast b).hi = min b.squares.hi m.hi - m.slow := rfl
 refine ⟨by omega, by omega, ?_, ?_⟩
 ·rw [e1]; exact IntWalk.i64_in _ (by omega)
 ·rw [e2]; exact IntWalk.i64_in _ (by omega)
end Go.Proofs.Ytfadkjcfjkmalaa
set_option linter.unusedVariables false
set_option linter.unusedSimpArgs false
namespace Go.Proofs.Ytfadkjcfjkmalaa
open Go.RowKit Ev
def idxP {α : Type} (p : α → Bool) (l : List α) : Int := if l.findIdx p < l.length then l.findIdx p else -1
theorem idxP_at {α : Type} {p : α → Bool} {l : List α} {d : α} {k : Nat} (hk : k < l.length) (hz : ∀ j, j < k → p (l.getD j d) = false) (h : p (l.getD k d) = true) : idxP p l = k := by
 have e : l.findIdx p = k := by
  rw [List.findIdx_eq hk]
  refine ⟨by simpa [List.getD, hk] using h, fun j hj => ?_⟩
  simpa [List.getD, show j < l.length by omega] using hz j hj
 unfold idxP
 rw [e, if_pos hk]
theorem idxP_none {α : Type} {p : α → Bool} {l : List α} {d : α} (hz : ∀ j, j < l.length → p (l.getD j d) = false) : idxP p l = -1 := by
 unfold idxP
 rw [if_neg]
 intro h
 have := List.findIdx_getElem (w := h)
 have h2 := hz _ h
 simp only [List.getD, List.getElem?_eq_getElem h, Option.getD_some] at h2
 rw [this] at h2
 cases h2
theorem idxP_any {α : Type} {p : α → Bool} {l : List α} : l.any p = decide (idxP p l ≥ 0) := by
 unfold idxP
 by_cases h : l.findIdx p < l.length
 ·rw [if_pos h]
  have := List.findIdx_getElem (w := h)
  rw [decide_eq_true (by omega), List.any_eq_true]
  exact ⟨_, List.getElem_mem h, this⟩
 ·rw [if_neg h, decide_eq_false (by omega), List.any_eq_false]
  intro x hx hp
  exact h (List.findIdx_lt_length_of_exists ⟨x, hx, hp⟩)
def hitsC (l : List THit) : Nat → Nat → CV := fun i j => match j with
 | 0 => .v (.int .i64 (hitAt l i).p.x)
 | 1 => .v (.int .i64 (hitAt l i).p.y)
 | 2 => .v (.int .i64 (hitAt l i).p.z)
 | 3 => .v (.int .i64 (hitAt l i).t)
 | _ => .v (.int .i64 (hitAt l i).w)
def mkHit (g : Nat → Int) : THit := ⟨⟨g 0, g 1, g 2⟩, g 3, g 4⟩
def hitCv (x : THit) : List CV := [.v (.int .i64 x.p.x), .v (.int .i64 x.p.y), .v (.int .i64 x.p.z), .v (.int .i64 x.t), .v (.int .i64 x.w)]
theorem hitAt_C {n : Nat} {c : Nat → Nat → CV} {i : Nat} (hi : i < n) : hitAt (listC n mkHit c) i = mkHit fun j => cvInt (c i j) := listC_get hi
theorem leL_THit {n : Nat} {c : Nat → Nat → CV} (hp : numsP 5 n c) : LeD (.t (.c (.sl 5 n c))) (.t (.c (.sl 5 (listC n mkHit c).length (hitsC (listC n mkHit c))))) := by
 refine leL hp fun i j hi hj => ?_
 unfold hitsC
 rw [hitAt_C hi]
 rcases (by omega : j = 0 ∨ j = 1 ∨ j = 2 ∨ j = 3 ∨ j = 4) with rfl | rfl | rfl | rfl | rfl <;> rfl
theorem numsP_hits (l : List THit) : numsP 5 l.length (hitsC l) := by
 intro i j hi hj
 rcases (by omega : j = 0 ∨ j = 1 ∨ j = 2 ∨ j = 3 ∨ j = 4) with rfl | rfl | rfl | rfl | rfl <;> rfl
theorem hits_listC (l : List THit) : listC l.length mkHit (hitsC l) = l := listC_id THit.zero fun i hi => rfl
theorem plain_THit (l : List THit) (i j : Nat) : ∃ y, hitsC l i j = .v y := by unfold hitsC; split <;> exact ⟨_, rfl⟩
theorem le_hits (l : List THit) : LeD (.t (.c (.sl 5 (l.map hitCv).length (genC (l.map hitCv))))) (.t (.c (.sl 5 l.length (hitsC l)))) := by
 rw [List.length_map]
 refine leSl fun i j hi hj => ?_
 unfold genC hitsC hitAt
 simp only [List.getD_eq_getElem?_getD, List.getElem?_map, List.getElem?_eq_getElem hi, Option.map_some, Option.getD_some]
 rcases (by omega : j = 0 ∨ j = 1 ∨ j = 2 ∨ j = 3 ∨ j = 4) with rfl | rfl | rfl | rfl | rfl <;> rfl
theorem hit_ext {a b : THit} : a = b ↔ a.p.x = b.p.x ∧ a.p.y = b.p.y ∧ a.p.z = b.p.z ∧ a.t = b.t ∧ a.w = b.w := by
 obtain ⟨⟨_, _, _⟩, _, _⟩ := a
 obtain ⟨⟨_, _, _⟩, _, _⟩ := b
 simp [and_assoc]
instance : DecidableEq THit := fun a b => decidable_of_iff _ hit_ext.symm
theorem hits_fwd (l : List THit) : ((List.range l.length).map fun i => fwd ((hitsC l) i) 0 5) = l.map hitCv := by
 apply List.ext_getElem?
 intro i
 by_cases hi : i < l.length
 ·simp only [List.getElem?_map, List.getElem?_range hi, List.getElem?_eq_getElem hi, Option.map_some]
  have e : hitAt l i = l[i] := by simp [hitAt, List.getD, hi]
  rw [← e]; rfl
 ·rw [List.getElem?_eq_none (by simpa using hi), List.getElem?_eq_none (by simpa using hi)]
theorem numsP_ints (l : List Int) : numsP 1 l.length (intsC l) := fun i j hi hj => rfl
theorem ints_listC (l : List Int) : listC l.length mkInt (intsC l) = l := listC_id 0 fun i hi => rfl
theorem leI {a b : Int} (h : a = b) : LeD (.t (.c (.v (.int .i64 a)))) (.t (.c (.v (.int .i64 b)))) := LeD.of (by rw [h])
theorem leB {a b : Bool} (h : a = b) : LeD (.t (.c (.v (.bool a)))) (.t (.c (.v (.bool b)))) := LeD.of (by rw [h])
theorem le_tu {a a' b b' : TV} (h1 : LeD (.t a) (.t a')) (h2 : LeD (.t b) (.t b')) : LeD (.tu [a, b]) (.tu [a', b']) := by
 rintro w N v ⟨vs, e, g⟩
 match vs, g with
 | [x, y], g => exact ⟨[x, y], e, h1 w N x g.1, h2 w N y g.2.1, trivial⟩
 | [], g => exact g.elim
 | [_], g => exact g.2.elim
 | _ :: _ :: _ :: _, g => exact g.2.2.elim
theorem leC_nil {sz : Nat} {c : Nat → Nat → CV} : LeC1 (.v (.slice none 0 0)) (.sl sz 0 c) := by
 intro w N v h
 exact ⟨none, 0, h.1, Nat.le_refl _, by unfold maxLen; omega, fun _ => rfl, fun h => by omega⟩
theorem le_nil {sz : Nat} {c : Nat → Nat → CV} : LeD (.t (.c (.v (.slice none 0 0)))) (.t (.c (.sl sz 0 c))) := leT_c leC_nil
theorem mx_if (a b : Int) : (if b > a then b else a) = max a b := by split <;> omega
theorem mn_if (a b : Int) : (if b < a then b else a) = min a b := by split <;> omega
theorem wi {n : Int} (h : -9000000000000000000 ≤ n ∧ n ≤ 9000000000000000000) : IntKind.i64.wrap n = n := IntWalk.i64_in _ (by omega)
theorem fn3 {a b c : Int} (h : firstNZ [a, b, c] = 0) : a = 0 ∧ b = 0 ∧ c = 0 := by
 simp only [firstNZ] at h
 by_cases h1 : a = 0 <;> by_cases h2 : b = 0 <;> by_cases h3 : c = 0 <;> simp_all
theorem fn2 {a b : Int} (h : firstNZ [a, b] = 0) : a = 0 ∧ b = 0 := by
 simp only [firstNZ] at h
 by_cases h1 : a = 0 <;> by_cases h2 : b = 0 <;> simp_all
theorem unl_0 {b : Bool} {n : Int} (h : n ≠ 0) : unl b n = 0 ↔ b = true := by cases b <;> simp [unl, h]
theorem cond_t {b : Bool} {A B : Prop} (hb : b = true) (h : A) : cond b A B := by rw [hb]; exact h
theorem box_in {b : TBox} (h : b.err = 0) : b.lo.inS 20 = true ∧ b.hi.inS 20 = true := by
 unfold TBox.err at h
 obtain ⟨h1, _⟩ := fn3 h
 rw [unl_0 (by decide)] at h1
 simpa using h1
end Go.Proofs.Ytfadkjcfjkmalaa