/- A statement whose order is open, walked in one order: first operations that yield the same in every world, then reads and quiet calls, then a tail that can only come in one order. Own work over the kit's notions of ready, apart and quiet. -/
import Derived.Test.YtllddidjiabegaaBase
import Derived.StillTail
import Derived.Deep.AppendLies
import Derived.Laws.AppendOwnNone
set_option linter.unusedVariables false
set_option linter.unusedSimpArgs false
namespace Go.Proofs.Ytllddidjiabegaa
open Go.RowKit

section
variable {P : Program} {ops : Array Oper} {md : Region.Mode} {C : World → Prop}

/-- Operations that give a value and no call. -/
def simpleOp (o : Oper) : Bool :=
  match o.op with
  | .move _ | .assign _ | .pick .. | .binOp .. | .unOp .. | .slice .. | .indexAddr .. | .fieldAddr .. | .extract .. | .field .. | .index .. | .build .. => true
  | _ => false

theorem value_of_bind {P : Program} {w w1 : World} {n : Next} (s : Sem Value) (h : ((do let x ← s; pure (.value x) : Sem Next)).run P w = .ok n w1) : ∃ v, n = .value v := by
  rw [Sem.run_bind] at h
  cases hs : s.run P w with
  | ok x w2 => rw [hs] at h; simp only [Result.andThen_ok, Sem.run_pure] at h; cases h; exact ⟨_, rfl⟩
  | halt x w2 => rw [hs] at h; cases h

theorem value_of_bind' {P : Program} {α : Type} {w w1 : World} {n : Next} (s : Sem α) (f : α → Value) (h : ((do let x ← s; pure (.value (f x)) : Sem Next)).run P w = .ok n w1) : ∃ v, n = .value v := by
  rw [Sem.run_bind] at h
  cases hs : s.run P w with
  | ok x w2 => rw [hs] at h; simp only [Result.andThen_ok, Sem.run_pure] at h; cases h; exact ⟨_, rfl⟩
  | halt x w2 => rw [hs] at h; cases h

theorem simpleOp_value {o : Oper} (h : simpleOp o = true) {ρ : Operand → Value} {w w1 : World} {n : Next} (hr : (execOp ρ o).run P w = .ok n w1) : ∃ v, n = .value v := by
  unfold simpleOp at h
  unfold execOp at hr
  split at h
  all_goals first
    | (rename_i e; rw [e] at hr; simp only [Sem.run_pure] at hr; cases hr; exact ⟨_, rfl⟩)
    | (rename_i e; rw [e] at hr; exact value_of_bind _ hr)
    | (rename_i e; rw [e] at hr; exact value_of_bind' _ _ hr)
    | cases h

/-- From a step that is quiet in every world. -/
theorem yields_of_quiet {i : Nat} {o : Oper} {a : Act} {K : Act → Prop} (hi : ops[i]? = some o) (hs : simpleOp o = true) (h : qOp P ops (fun _ => True) i K a) : ∃ v, Yields P ops o v a ∧ K (a.put o.dst v) := by
  obtain ⟨v, hy, hK⟩ := yieldsIn_of_qOp hi h
  refine ⟨v, ?_, hK⟩
  rcases hy with ⟨hw, hy⟩ | ⟨hw, rfl⟩
  · refine Or.inl ⟨hw, fun w => ?_⟩
    have h1 := hy w trivial
    unfold Oper.quietAt at h1
    generalize hr : (execOp a.eval o).run P w = r at h1
    cases r with
    | ok n w' =>
      obtain ⟨u, rfl⟩ := simpleOp_value hs hr
      simp only [Oper.quietUpon] at h1
      rw [h1.1, h1.2]
    | halt x w' => simp only [Oper.quietUpon] at h1
  · exact Or.inr ⟨hw, rfl⟩

/-! ### the middle part -/

/-- Whatever order the operations below n come in, each of them quiet; none from n on can come up; then T. -/
def midAny (P : Program) (md : Region.Mode) (ops : Array Oper) (C : World → Prop) (n : Nat) (T : Array Bool → Act → Prop) : Nat → Array Bool → Act → Prop
  | 0, listed, a => T listed a
  | f + 1, listed, a => Region.ready md ops listed ≠ [] ∧ ∀ i ∈ Region.ready md ops listed, i < n ∧ qOp P ops C i (midAny P md ops C n T f (listed.setIfInBounds i true)) a

theorem wpAny_of_mid {n g : Nat} {T : Array Bool → Act → Prop} {Q : Exit → Act → World → Prop} (hT : ∀ listed a w, C w → T listed a → wpAny P md ops Q g listed a w) :
    ∀ (f : Nat) (listed : Array Bool) (a : Act) (w : World), C w → midAny P md ops C n T f listed a → wpAny P md ops Q (f + g) listed a w := by
  intro f
  induction f with
  | zero => intro listed a w hw h; rw [Nat.zero_add]; exact hT _ _ _ hw h
  | succ f ih =>
    intro listed a w hw h
    rw [show f + 1 + g = (f + g) + 1 by omega]
    exact ⟨fun h0 => absurd h0 h.1, fun i hi => wpOp_of_qOp hw (fun a' w' hw' hK => ih _ _ _ hw' hK) (h.2 i hi).2⟩

theorem midAny_first {n i : Nat} {oi : Oper} {v : Value} {T : Array Bool → Act → Prop} (Inv : Array Bool → Prop)
    (hset : ∀ listed j, Inv listed → j ∈ Region.ready md ops listed → j < n → Inv (listed.setIfInBounds j true))
    (htail : ∀ listed j, Inv listed → j < n → listed.getD j true = false → ∀ t ∈ Region.ready md ops listed, t < n)
    (hi : ops[i]? = some oi) (hsel : ∀ (j : Nat) (o : Oper) cs b, ops[j]? = some o → o.op ≠ .select cs b) (hin : i < n)
    (hdone : ∀ listed a, T listed a → ∀ j ∈ Region.ready md ops listed, n ≤ j) :
    ∀ (f : Nat) (listed : Array Bool) (a : Act), Inv listed →
      (∀ j oj, ops[j]? = some oj → j ≠ i → listed.getD j true = false → (∀ e ∈ oj.after, Region.binds md e = true → e.on ≠ i) → oi.apart ops oj = true) →
      i ∈ Region.ready md ops listed → YieldsIn P ops C oi v a →
      midAny P md ops C n T f (listed.setIfInBounds i true) (a.put oi.dst v) → midAny P md ops C n T (f + 1) listed a := by
  intro f
  induction f with
  | zero =>
    intro listed a inv hfree hr hy H
    have hun := (mem_ready.1 hr).1
    refine ⟨fun h => (by rw [h] at hr; cases hr), fun j hj => ?_⟩
    have hjn := htail listed i inv hin hun j hj
    refine ⟨hjn, ?_⟩
    by_cases hji : j = i
    · subst hji; exact hy.qOp hi H
    · have := hdone _ _ H j (ready_mono hj hji)
      omega
  | succ f ih =>
    intro listed a inv hfree hr hy H
    have hun := (mem_ready.1 hr).1
    refine ⟨fun h => (by rw [h] at hr; cases hr), fun j hj => ?_⟩
    have hjn := htail listed i inv hin hun j hj
    refine ⟨hjn, ?_⟩
    by_cases hji : j = i
    · subst hji; exact hy.qOp hi H
    · have h1 := (H.2 j (ready_mono hj hji)).2
      obtain ⟨hjun, oj, hoj, hall⟩ := mem_ready.1 hj
      have hnot : ∀ e ∈ oj.after, Region.binds md e = true → e.on ≠ i := fun e he hb heq => by
        have h2 := hall e he hb
        rw [heq, getD_both hun] at h2
        cases h2
      have h2 := qOp_put hoj (hfree j oj hoj hji hjun hnot) (fun cs b => hsel i oi cs b hi) (fun cs b => hsel j oj cs b hoj) hy h1
      refine qOp_mono (fun a' h3 => ?_) h2
      refine ih (listed.setIfInBounds j true) a' (hset _ _ inv hj hjn) ?_ (ready_mono hr (Ne.symm hji)) h3.1 ?_
      · intro k ok hk hki hku hkno
        refine hfree k ok hk hki ?_ hkno
        by_cases hjk : j = k
        · subst hjk; exact hjun
        · rw [getD_set_ne true hjk] at hku; exact hku
      · rw [Array.setIfInBounds_comm _ _ hji]
        exact h3.2

/-! ### the checks -/

/-- every operation below n that is not listed at the start has one that waits for it, up to n; behind n each waits for the one before. -/
def sunkB (md : Region.Mode) (ops : Array Oper) (n : Nat) (l0 : Array Bool) : Bool :=
  ((List.range n).all fun i => l0.getD i false || ((List.range (n + 1)).any fun j => decide (i < j) && Region.waitsFor md ops j i)) && Region.chainB md ops n

structure MidInv (md : Region.Mode) (ops : Array Oper) (n : Nat) (l0 listed : Array Bool) : Prop where
  size : listed.size = ops.size
  closed : ∀ j oj, ops[j]? = some oj → listed.getD j false = true → ∀ e ∈ oj.after, Region.binds md e = true → listed.getD e.on false = true
  tail : ∀ t, n ≤ t → t < ops.size → listed.getD t true = false
  start : ∀ j, l0.getD j false = true → listed.getD j false = true

theorem MidInv.set {n i : Nat} {l0 listed : Array Bool} (inv : MidInv md ops n l0 listed) (hi : i ∈ Region.ready md ops listed) (hin : i < n) : MidInv md ops n l0 (listed.setIfInBounds i true) := by
  obtain ⟨hun, oi, hoi, hall⟩ := mem_ready.1 hi
  refine ⟨by simp [inv.size], fun j oj hj hl e he hb => ?_, fun t ht ht' => ?_, fun j hj => getD_set_true (inv.start j hj)⟩
  · by_cases hij : i = j
    · subst hij
      have : oj = oi := Option.some.inj (hj.symm.trans hoi)
      subst this
      exact getD_set_true (hall e he hb)
    · rw [getD_set_ne false hij] at hl
      exact getD_set_true (inv.closed j oj hj hl e he hb)
  · rw [getD_set_ne true (by omega)]; exact inv.tail t ht ht'

theorem mid_tail {n : Nat} {l0 listed : Array Bool} (hs : sunkB md ops n l0 = true) (hn : n < ops.size) (inv : MidInv md ops n l0 listed) :
    ∀ (d i : Nat), n - i = d → i < n → listed.getD i true = false → ∀ t ∈ Region.ready md ops listed, t < n := by
  simp only [sunkB, Bool.and_eq_true] at hs
  intro d
  induction d using Nat.strongRecOn with
  | _ d ih =>
    intro i hd hi hun t ht
    rcases Nat.lt_or_ge t n with h | h
    · exact h
    exfalso
    obtain ⟨htun, ot, hot, hall⟩ := mem_ready.1 ht
    have htlt : t < ops.size := (Array.getElem?_eq_some_iff.1 hot).1
    -- t waits for n, or is n; n waits (through others) for i
    by_cases htn : t = n
    · subst htn
      have h1 := List.all_eq_true.1 hs.1 i (List.mem_range.2 hi)
      simp only [Bool.or_eq_true] at h1
      rcases h1 with h1 | h1
      · have := inv.start i h1
        rw [getD_both hun] at this
        cases this
      obtain ⟨j, hj, hj2⟩ := List.any_eq_true.1 h1
      simp only [Bool.and_eq_true, decide_eq_true_eq] at hj2
      obtain ⟨oj, hoj, e, he, hb, hon⟩ := Region.waitsFor_spec hj2.2
      by_cases hjt : j = t
      · subst hjt
        have : oj = ot := Option.some.inj (hoj.symm.trans hot)
        subst this
        have h2 := hall e he hb
        rw [hon, getD_both hun] at h2
        cases h2
      · have hjle : j ≤ t := by have := List.mem_range.1 hj; omega
        cases hl : listed.getD j false with
        | true =>
          have h2 := inv.closed j oj hoj hl e he hb
          rw [hon, getD_both hun] at h2
          cases h2
        | false =>
          have hjs : j < listed.size := by rw [inv.size]; omega
          have := ih (t - j) (by omega) j rfl (by omega) (getD_in hjs hl) t ht
          omega
    · have h1 := List.all_eq_true.1 hs.2 t (List.mem_range.2 htlt)
      simp only [Bool.or_eq_true, decide_eq_true_eq] at h1
      rcases h1 with h1 | h1
      · omega
      · obtain ⟨o', ho', e, he, hb, hon⟩ := Region.waitsFor_spec h1
        have : o' = ot := Option.some.inj (ho'.symm.trans hot)
        subst this
        have h2 := hall e he hb
        rw [hon, getD_both (inv.tail (t - 1) (by omega) (by omega))] at h2
        cases h2

/-- the operations with these numbers. -/
def pick (l : List Oper) : List Nat → List Oper
  | [] => []
  | i :: p => (l.drop i).head?.toList ++ pick l p

theorem pick_cons {l : List Oper} {i : Nat} {p : List Nat} {o : Oper} (h : l[i]? = some o) : pick l (i :: p) = o :: pick l p := by
  simp [pick, List.head?_drop, h]

/-- the middle numbers come in this order, each ready and apart from whatever may come beside it; then a forced tail. -/
def midB (md : Region.Mode) (ops : Array Oper) (n g : Nat) : List Nat → Array Bool → Bool
  | [], listed => Region.seqB md ops g n listed
  | i :: p, listed => decide (i < n) && (ops[i]?).isSome && (Region.ready md ops listed).contains i && Region.free md ops listed i && midB md ops n g p (listed.setIfInBounds i true)

/-- the first numbers likewise, none of them a call. -/
def headB (md : Region.Mode) (ops : Array Oper) (n g : Nat) (mid : List Nat) : List Nat → Array Bool → Bool
  | [], listed => sunkB md ops n listed && (List.range ops.size).all (fun t => decide (t < n) || !listed.getD t true) && midB md ops n g mid listed
  | i :: p, listed => decide (i < n) && ((ops[i]?).map simpleOp).getD false && (Region.ready md ops listed).contains i && Region.free md ops listed i && headB md ops n g mid p (listed.setIfInBounds i true)

theorem seqB_ge {g k : Nat} {listed : Array Bool} (h : Region.seqB md ops g k listed = true) : ∀ j ∈ Region.ready md ops listed, k ≤ j := by
  cases g with
  | zero => intro j hj; simp only [Region.seqB, List.isEmpty_iff] at h; rw [h] at hj; cases hj
  | succ g =>
    intro j hj
    simp only [Region.seqB, Bool.and_eq_true, decide_eq_true_eq] at h
    rw [h.1] at hj
    have : j = k := by simpa using hj
    omega

theorem midAny_lex {l : List Oper} {n g : Nat} {l0 : Array Bool} {T : Act → Prop} (hsel : Region.noSelect l.toArray = true) (hs : sunkB md l.toArray n l0 = true) (hn : n < l.length) :
    ∀ (p : List Nat) (listed : Array Bool) (a : Act), MidInv md l.toArray n l0 listed → midB md l.toArray n g p listed = true → wpQuiet P l.toArray C T (pick l p) a →
    midAny P md l.toArray C n (fun listed' a' => Region.seqB md l.toArray g n listed' = true ∧ T a') p.length listed a := by
  intro p
  induction p with
  | nil => intro listed a inv hB h; exact ⟨by simpa [midB] using hB, h⟩
  | cons i p ih =>
    intro listed a inv hB h
    simp only [midB, Bool.and_eq_true, decide_eq_true_eq] at hB
    obtain ⟨⟨⟨⟨hin, ho⟩, hr⟩, hf⟩, hB'⟩ := hB
    obtain ⟨o, ho⟩ := Option.isSome_iff_exists.1 ho
    have ho' : l[i]? = some o := by simpa using ho
    rw [pick_cons ho'] at h
    have hr' : i ∈ Region.ready md l.toArray listed := by simpa using hr
    have hq : qOp P l.toArray C i (wpQuiet P l.toArray C T (pick l p)) a := by unfold qOp; simp only [ho]; exact h
    obtain ⟨v, hy, hK⟩ := yieldsIn_of_qOp ho hq
    exact midAny_first (fun ls => MidInv md l.toArray n l0 ls) (fun _ _ inv hj hjn => inv.set hj hjn)
      (fun ls j inv hj hun => mid_tail hs (by simpa using hn) inv _ j rfl hj hun) ho (Region.noSelect_spec hsel) hin (fun _ _ hT => seqB_ge hT.1) p.length listed a inv (Region.free_spec ho hf) hr' hy
      (ih _ _ (inv.set hr' hin) hB' hK)

theorem headAny {l : List Oper} {n g : Nat} {mid : List Nat} {T : Act → Prop} {Q : Exit → Act → World → Prop} (hQ : ∀ c a a' w, Q (.panic c) a w → Q (.panic c) a' w)
    (hsel : Region.noSelect l.toArray = true) (hn : n < l.length) (hg : n + g = l.length)
    (hT : ∀ listed a w, C w → Region.seqB md l.toArray g n listed = true → T a → wpAny P md l.toArray Q g listed a w) :
    ∀ (p : List Nat) (listed : Array Bool) (a : Act) (w : World), C w → listed.size = l.length → (∀ j oj, l.toArray[j]? = some oj → listed.getD j false = true → ∀ e ∈ oj.after, Region.binds md e = true → listed.getD e.on false = true) →
      headB md l.toArray n g mid p listed = true → wpQuiet P l.toArray (fun _ => True) (fun a' => wpQuiet P l.toArray C T (pick l mid) a') (pick l p) a →
      wpAny P md l.toArray Q (p.length + (mid.length + g)) listed a w := by
  intro p
  induction p with
  | nil =>
    intro listed a w hw hsz hcl hB h
    simp only [headB, Bool.and_eq_true] at hB
    obtain ⟨⟨hs, htl⟩, hm⟩ := hB
    have inv : MidInv md l.toArray n listed listed := ⟨by simpa using hsz, hcl, fun t ht ht' => by
      have := List.all_eq_true.1 htl t (List.mem_range.2 ht')
      simp only [Bool.or_eq_true, decide_eq_true_eq, Bool.not_eq_true'] at this
      rcases this with h | h
      · omega
      · exact h, fun _ h => h⟩
    have H := midAny_lex (C := C) hsel hs hn mid listed a inv hm h
    rw [List.length_nil, Nat.zero_add]
    exact wpAny_of_mid (fun ls a' w' hw' h' => hT ls a' w' hw' h'.1 h'.2) _ _ _ _ hw H
  | cons i p ih =>
    intro listed a w hw hsz hcl hB h
    simp only [headB, Bool.and_eq_true, decide_eq_true_eq] at hB
    obtain ⟨⟨⟨⟨hin, ho⟩, hr⟩, hf⟩, hB'⟩ := hB
    cases ho2 : l.toArray[i]? with
    | none => rw [ho2] at ho; cases ho
    | some o =>
      rw [ho2] at ho
      have hs1 : simpleOp o = true := by simpa using ho
      have ho' : l[i]? = some o := by simpa using ho2
      rw [pick_cons ho'] at h
      have hr' : i ∈ Region.ready md l.toArray listed := by simpa using hr
      have hq : qOp P l.toArray (fun _ => True) i (wpQuiet P l.toArray (fun _ => True) (fun a' => wpQuiet P l.toArray C T (pick l mid) a') (pick l p)) a := by unfold qOp; simp only [ho2]; exact h
      obtain ⟨v, hy, hK⟩ := yields_of_quiet ho2 hs1 hq
      rw [List.length_cons, show p.length + 1 + (mid.length + g) = (p.length + (mid.length + g)) + 1 from by omega]
      refine wpAny_first ho2 (Region.noSelect_spec hsel) (fun c a w h => hQ c _ _ w h) _ listed a w (Region.free_spec ho2 hf) hr' hy ?_
      refine ih _ _ _ hw (by simp [hsz]) ?_ hB' hK
      intro j oj hj hl e he hb
      by_cases hij : i = j
      · subst hij
        have : oj = o := Option.some.inj (hj.symm.trans ho2)
        subst this
        obtain ⟨_, o2, ho3, hall⟩ := mem_ready.1 hr'
        have : oj = o2 := Option.some.inj (hj.symm.trans ho3)
        subst this
        exact getD_set_true (hall e he hb)
      · rw [getD_set_ne false hij] at hl
        exact getD_set_true (hcl j oj hj hl e he hb)

/-- False at a panic. -/
def noPan (Q : Exit → Act → World → Prop) : Exit → Act → World → Prop
  | .panic _, _, _ => False
  | e, a, w => Q e a w

/-- all numbers, each once: the first ones, the middle ones, then from n on. -/
def threeB (l : List Oper) (first mid : List Nat) (n : Nat) : Bool :=
  Region.noSelect l.toArray && decide (n < l.length) && decide (first.length + mid.length = n) && headB .any l.toArray n (l.length - n) mid first (Array.replicate l.length false)

/-- **A region that draws its order.** -/
theorem wp_three {id : Nat} {Q : Exit → Act → World → Prop} {a : Act} {w : World} {l : List Oper} (first mid : List Nat) (n : Nat) (hm : P.follows .mixedOrders = true) (hB : threeB l first mid n = true)
    (h : ∀ Q' : Exit → Act → World → Prop, (∀ a w, Q .normal a w → Q' .normal a w) → wpQuiet P l.toArray (fun _ => True) (fun a1 => wpQuiet P l.toArray (fun w' => ∃ k, w' = w.drewN k) (fun a2 => ∀ k, wpList P l.toArray Q' (l.drop n) a2 (w.drewN k)) (pick l mid) a1) (pick l first) a) :
    (Code.region id l.toArray true).wp P Q a w := by
  simp only [threeB, Bool.and_eq_true, decide_eq_true_eq] at hB
  obtain ⟨⟨⟨hsel, hn⟩, hlen⟩, hB⟩ := hB
  refine Code.wp_mono (Q := noPan Q) (fun e a w hq => by cases e <;> first | exact hq | exact (hq : False).elim) ?_
  refine wp_region_any hm ?_
  have := headAny (C := fun w' => ∃ k, w' = w.drewN k) (md := .any) (Q := noPan Q) (g := l.length - n) (fun c a a' w hq => hq) hsel hn (by omega)
    (fun listed a' w' hw' hseq hT => by
      obtain ⟨k, rfl⟩ := hw'
      have := wpAny_of_seq (md := .any) (Q' := noPan Q) (l.drop n) n listed a' (w.drewN k) (fun j => by simp [List.getElem?_drop]) (by rw [List.length_drop]; exact hseq) (hT k)
      rwa [List.length_drop] at this)
    first (Array.replicate l.length false) a { w with drawn := w.drawn + 1 } ⟨1, rfl⟩ (by simp) (fun j oj _ hl => by rw [getD_replicate_false] at hl; cases hl) hB (h (noPan Q) fun _ _ h => h)
  rw [show first.length + (mid.length + (l.length - n)) = l.toArray.size from by simp; omega] at this
  simpa using this

end
/-- .. the middle part in a class of worlds. -/
theorem wp_three_in {P : Program} (C : World → Prop) {id : Nat} {Q : Exit → Act → World → Prop} {a : Act} {w : World} {l : List Oper} (first mid : List Nat) (n : Nat) (hm : P.follows .mixedOrders = true) (hB : threeB l first mid n = true)
    (hC : C { w with drawn := w.drawn + 1 })
    (h : ∀ Q' : Exit → Act → World → Prop, (∀ a w, Q .normal a w → Q' .normal a w) → wpQuiet P l.toArray (fun _ => True) (fun a1 => wpQuiet P l.toArray C (fun a2 => ∀ w', C w' → wpList P l.toArray Q' (l.drop n) a2 w') (pick l mid) a1) (pick l first) a) :
    (Code.region id l.toArray true).wp P Q a w := by
  simp only [threeB, Bool.and_eq_true, decide_eq_true_eq] at hB
  obtain ⟨⟨⟨hsel, hn⟩, hlen⟩, hB⟩ := hB
  refine Code.wp_mono (Q := noPan Q) (fun e a w hq => by cases e <;> first | exact hq | exact (hq : False).elim) ?_
  refine wp_region_any hm ?_
  have := headAny (C := C) (md := .any) (Q := noPan Q) (g := l.length - n) (fun c a a' w hq => hq) hsel hn (by omega)
    (fun listed a' w' hw' hseq hT => by
      have := wpAny_of_seq (md := .any) (Q' := noPan Q) (l.drop n) n listed a' w' (fun j => by simp [List.getElem?_drop]) (by rw [List.length_drop]; exact hseq) (hT w' hw')
      rwa [List.length_drop] at this)
    first (Array.replicate l.length false) a { w with drawn := w.drawn + 1 } hC (by simp) (fun j oj _ hl => by rw [getD_replicate_false] at hl; cases hl) hB (h (noPan Q) fun _ _ h => h)
  rw [show first.length + (mid.length + (l.length - n)) = l.toArray.size from by simp; omega] at this
  simpa using this

/-- an operation that gives a value and no call is as quiet in one class as in all worlds. -/
theorem quiet_simple {P : Program} {o : Oper} {a : Act} {C : World → Prop} {K : Act → Prop} (hs : simpleOp o = true) (h : o.quiet P a (fun _ => True) K) : o.quiet P a C K := by
  obtain ⟨v, hv, hK⟩ := h
  refine ⟨v, fun w _ => ?_, hK⟩
  have h1 := hv w trivial
  unfold Oper.quietAt at *
  generalize hr : (execOp a.eval o).run P w = r at h1
  cases r with
  | ok n w' =>
    obtain ⟨u, rfl⟩ := simpleOp_value hs hr
    exact h1
  | halt x w' => exact h1

/-- a load of a cell that all worlds of the class hold. -/
theorem quiet_val {P : Program} {o : Oper} {a : Act} {C : World → Prop} {K : Act → Prop} (v : Value) (h : ∀ w, C w → (execOp a.eval o).run P w = .ok (.value v) w) (hK : K (a.put o.dst v)) : o.quiet P a C K :=
  ⟨v, fun w hw => by unfold Oper.quietAt; rw [h w hw]; exact ⟨rfl, rfl⟩, hK⟩
theorem run_load_int {P : Program} {o : Oper} {a : Act} {w : World} {ty : TypeId} {x : Operand} {p : Addr} {v : Value} {k : IntKind} (ho : o.op = .load ty x) (hx : a.eval x = .pointer (some p)) (ht : P.underlying ty = some (.int k)) (hc : w.cell? p = some v) :
    (execOp a.eval o).run P w = .ok (.value v) w := by
  unfold execOp
  simp only [ho, hx]
  simp [go_sem, ht, hc, isAgg, run_underlying ht]
theorem quiet_load {P : Program} {o : Oper} {a : Act} {B : Nat} {w0 : World} {K : Act → Prop} {ty : TypeId} {x : Operand} {b off : Nat} {v : Value} {k : IntKind} (ho : o.op = .load ty x) (hx : a.eval x = .pointer (some ⟨b, off, none⟩)) (ht : P.underlying ty = some (.int k))
    (hc : w0.cell? ⟨b, off, none⟩ = some v) (hb : b < B) (hK : K (a.put o.dst v)) : o.quiet P a (fun w' => Below B w0 w') K :=
  quiet_val v (fun w hw => run_load_int ho hx ht ((hw.cell (p := ⟨b, off, none⟩) hb).trans hc)) hK

/-! ### append -/
/-- t is a slice type of elements e, each of sz cells and so many bytes. -/
def Elem (P : Program) (t e : TypeId) (sz bytes : Nat) : Prop := ∃ i z, P.underlying t = some (.slice e) ∧ P.info? e = some i ∧ i.zero = some z ∧ i.size = sz ∧ i.bytes = bytes ∧ z.cells.size = sz ∧ 0 < sz
theorem Elem.mk {P : Program} {t e : TypeId} {z : Value} {sz bytes : Nat} (ht : P.underlying t = some (.slice e)) (hi : (P.info? e).map (fun i => (i.zero, i.size, i.bytes)) = some (some z, sz, bytes)) (hz : z.cells.size = sz) (hs : 0 < sz) : Elem P t e sz bytes := by
  obtain ⟨i, h1, h2, h3, h4⟩ := info_parts hi
  exact ⟨i, z, ht, h1, h2, h3, h4, hz, hs⟩

/-- What an append does to other memory: below base nothing; of what was there the value's own row alone. -/
structure Pushed (base : Nat) (w w' : World) (v v' : Value) : Prop where
  below : Below base w w'
  other : ∀ k, k < w.heap.size → some k ≠ v.ownBlock → w'.heap[k]? = w.heap[k]?
  lies : v'.ownBlock = v.ownBlock ∨ v'.ownBlock = some w.heap.size

theorem wpList_append_list {P : Program} {ops : Array Oper} {rest : List Oper} {o : Oper} {a : Act} {Q : Exit → Act → World → Prop} {w : World} (hgd : o.guard = none) (s x : Operand) (t : TypeId)
    (ho : o.op = .call { callee := .builtin .append, args := #[s, x], argTypes := #[t, t] }) {e : TypeId} {sz bytes : Nat} (E : Elem P t e sz bytes) (base : Nat)
    (v : Value) (n : Nat) (xs : List Value) (hs : a.eval s = v) (hown : w.ownsRow base e sz v n xs)
    (ao : Option Addr) (m c : Nat) (news : List Value) (hx : a.eval x = .slice ao m c) (hl : news.length = m * sz) (h1 : ∀ u ∈ news, u.oneCell' = true)
    (hsrc : (ao = none ∧ m = 0 ∧ c = 0) ∨ ∃ ad, ao = some ad ∧ ∀ j u, news[j]? = some u → w.cell? (ad.add j) = some u)
    (hb : (n + m) * bytes ≤ 140737488355328) (hn : n + m ≤ maxLen) (hbase : base ≤ w.heap.size)
    (h : ∀ v' w', w'.ownsRow base e sz v' (n + m) (xs ++ news) → Pushed base w w' v v' → (v' = .slice none 0 0 ↔ v = .slice none 0 0 ∧ m = 0) → wpList P ops Q rest (a.put o.dst v') w') : wpList P ops Q (o :: rest) a w := by
  obtain ⟨i, z, ht, hi, hz, hsize, hby, hzs, hsz⟩ := E
  rcases hsrc with ⟨rfl, rfl, rfl⟩ | ⟨ad, rfl, hcells⟩
  · obtain rfl : news = [] := List.eq_nil_of_length_eq_zero (by simpa using hl)
    refine wpList_append_own_none hgd s x t ho base e i sz ht hi v n xs hs hown hx ?_
    exact h v w (by simpa using hown) ⟨Below.refl _ _, fun _ _ _ => rfl, Or.inl rfl⟩ (by simp)
  · obtain ⟨v', w', hr, h2, h3, h4, h5⟩ := run_append_own_at (P := P) w base t o.type e i z sz bytes ht hi hz hsize hby hzs hsz v n xs hown ad m c news hl hcells h1 hn hb hbase
    refine wpList_plain hgd fun K hK => ?_
    unfold Oper.wp execOp
    simp only [ho, resolve, invoke, builtin, Sem.run_bind, Sem.run_pure, Result.andThen_ok, List.map_toArray, List.map_cons, List.map_nil, hs, hx, hr]
    exact hK _ _ (h v' w' h2 ⟨(Below.refl _ _).grown h3 hbase (fun k hk => (hown.lt k hk).1), h3.block, h5⟩ h4)

/-- one element more. -/
theorem wpList_push {P : Program} {ops : Array Oper} {rest : List Oper} {o : Oper} {a : Act} {Q : Exit → Act → World → Prop} {w : World} (hgd : o.guard = none) (s x : Operand) (t : TypeId)
    (ho : o.op = .call { callee := .builtin .append, args := #[s, x], argTypes := #[t, t] }) {e : TypeId} {sz bytes : Nat} (E : Elem P t e sz bytes) (base : Nat)
    (v : Value) (n : Nat) (xs : List Value) (hs : a.eval s = v) (w0 : World) (hown : w0.ownsRow base e sz v n xs) (us : List Value) (hul : us.length = sz) (h1 : ∀ u ∈ us, u.oneCell' = true)
    (hw : w = w0.alloc (.cells us.toArray e)) (N : Nat) (hN : w0.heap.size = N) (hx : a.eval x = .slice (some ⟨N, 0, none⟩) 1 1)
    (hb : (n + 1) * bytes ≤ 140737488355328) (hn : n + 1 ≤ maxLen) (hbase : base ≤ w0.heap.size)
    (h : ∀ v' w', w'.ownsRow base e sz v' (n + 1) (xs ++ us) → Below base w0 w' → (∀ k, k < w0.heap.size → some k ≠ v.ownBlock → w'.heap[k]? = w0.heap[k]?) → (∀ k, v'.ownBlock = some k → v.ownBlock = some k ∨ w0.heap.size ≤ k) → wpList P ops Q rest (a.put o.dst v') w') : wpList P ops Q (o :: rest) a w := by
  subst hw; subst hN
  refine wpList_append_list hgd s x t ho E base v n xs hs (hown.alloc _) _ 1 1 us hx (by omega) h1 (Or.inr ⟨_, rfl, World.news_of_block (cs := us.toArray) (heap_alloc_new w0 _)⟩) hb hn (by simp; omega) ?_
  intro v' w' h2 h3 _
  refine h v' w' h2 (((Below.refl _ _).alloc hbase _).trans h3.below) (fun k hk hne => (h3.other k (by simp; omega) hne).trans (Below.heap_alloc _ _ _ hk)) (fun k hk => ?_)
  rcases h3.lies with e | e
  · exact Or.inl (by rw [← e]; exact hk)
  · right; rw [hk] at e; simp at e; omega

theorem ownsRow_drewN {w : World} {base : Nat} {e : TypeId} {size : Nat} {v : Value} {n : Nat} {xs : List Value} (k : Nat) (h : w.ownsRow base e size v n xs) : (w.drewN k).ownsRow base e size v n xs := h

end Go.Proofs.Ytllddidjiabegaa
