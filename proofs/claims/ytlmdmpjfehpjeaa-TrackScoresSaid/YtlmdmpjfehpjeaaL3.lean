/- A statement whose order is open, walked in one order: first operations that yield the same in every world, then reads and quiet calls, then a tail that can only come in one order. Own work over the kit's notions of ready, apart and quiet. -/
import Derived.Test.YtlmdmpjfehpjeaaL1
import Derived.StillTail
import Derived.Deep.AppendLies
import Derived.Laws.AppendOwnNone
set_option linter.unusedVariables false
set_option linter.unusedSimpArgs false
namespace Go.Proofs.Ytlmdmpjfehpjeaa
open Go.RowKit

section
variable {P : Program} {ops : Array Oper} {md : Region.Mode} {C : World → Prop}

/-- Operations that give a value and no call. -/
def simpleOp (o : Oper) : Bool :=
  match o.op with
  | .move _ | .assign _ | .pick .. | .binOp .. | .unOp .. | .slice .. | .indexAddr .. | .fieldAddr .. | .extract .. | .field .. | .index .. | .build .. => true
  | _ => false

theorem value_of_bind {P : Program} {w w1 : World} {n : Next} (s : Sem Value) (h : ((do let x ← s; pure (.value x) : Sem Next)).run P w = .ok n w1) : ∃ v, n = .value v := by
  rw [Sem.run_bind] at h
  cases hs : s.run P w with
  | ok x w2 => rw [hs] at h; simp only [Result.andThen_ok, Sem.run_pure] at h; cases h; exact ⟨_, rfl⟩
  | halt x w2 => rw [hs] at h; cases h

theorem value_of_bind' {P : Program} {α : Type} {w w1 : World} {n : Next} (s : Sem α) (f : α → Value) (h : ((do let x ← s; pure (.value (f x)) : Sem Next)).run P w = .ok n w1) : ∃ v, n = .value v := by
  rw [Sem.run_bind] at h
  cases hs : s.run P w with
  | ok x w2 => rw [hs] at h; simp only [Result.andThen_ok, Sem.run_pure] at h; cases h; exact ⟨_, rfl⟩
  | halt x w2 => rw [hs] at h; cases h

theorem simpleOp_value {o : Oper} (h : simpleOp o = true) {ρ : Operand → Value} {w w1 : World} {n : Next} (hr : (execOp ρ o).run P w = .ok n w1) : ∃ v, n = .value v := by
  unfold simpleOp at h
  unfold execOp at hr
  split at h
  all_goals first
    | (rename_i e; rw [e] at hr; simp only [Sem.run_pure] at hr; cases hr; exact ⟨_, rfl⟩)
    | (rename_i e; rw [e] at hr; exact value_of_bind _ hr)
    | (rename_i e; rw [e] at hr; exact value_of_bind' _ _ hr)
    | cases h

/-- From a step that is quiet in every world. -/
theorem yields_of_quiet {i : Nat} {o : Oper} {a : Act} {K : Act → Prop} (hi : ops[i]? = some o) (hs : simpleOp o = true) (h : qOp P ops (fun _ => True) i K a) : ∃ v, Yields P ops o v a ∧ K (a.put o.dst v) := by
  obtain ⟨v, hy, hK⟩ := yieldsIn_of_qOp hi h
  refine ⟨v, ?_, hK⟩
  rcases hy with ⟨hw, hy⟩ | ⟨hw, rfl⟩
  · refine Or.inl ⟨hw, fun w => ?_⟩
    have h1 := hy w trivial
    unfold Oper.quietAt at h1
    generalize hr : (execOp a.eval o).run P w = r at h1
    cases r with
    | ok n w' =>
      obtain ⟨u, rfl⟩ := simpleOp_value hs hr
      simp only [Oper.quietUpon] at h1
      rw [h1.1, h1.2]
    | halt x w' => simp only [Oper.quietUpon] at h1
  · exact Or.inr ⟨hw, rfl⟩

/-! ### the middle part -/

/-- Whatever order the operations below n come in, each of them quiet; none from n on can come up; then T. -/
def midAny (P : Program) (md : Region.Mode) (ops : Array Oper) (C : World → Prop) (n : Nat) (T : Array Bool → Act → Prop) : Nat → Array Bool → Act → Prop
  | 0, listed, a => T listed a
  | f + 1, listed, a => Region.ready md ops listed ≠ [] ∧ ∀ i ∈ Region.ready md ops listed, i < n ∧ qOp P ops C i (midAny P md ops C n T f (listed.setIfInBounds i true)) a

theorem wpAny_of_mid {n g : Nat} {T : Array Bool → Act → Prop} {Q : Exit → Act → World → Prop} (hT : ∀ listed a w, C w → T listed a → wpAny P md ops Q g listed a w) :
    ∀ (f : Nat) (listed : Array Bool) (a : Act) (w : World), C w → midAny P md ops C n T f listed a → wpAny P md ops Q (f + g) listed a w := by
  intro f
  induction f with
  | zero => intro listed a w hw h; rw [Nat.zero_add]; exact hT _ _ _ hw h
  | succ f ih =>
    intro listed a w hw h
    rw [show f + 1 + g = (f + g) + 1 by omega]
    exact ⟨fun h0 => absurd h0 h.1, fun i hi => wpOp_of_qOp hw (fun a' w' hw' hK => ih _ _ _ hw' hK) (h.2 i hi).2⟩

theorem midAny_first {n i : Nat} {oi : Oper} {v : Value} {T : Array Bool → Act → Prop} (Inv : Array Bool → Prop)
    (hset : ∀ listed j, Inv listed → j ∈ Region.ready md ops listed → j < n → Inv (listed.setIfInBounds j true))
    (htail : ∀ listed j, Inv listed → j < n → listed.getD j true = false → ∀ t ∈ Region.ready md ops listed, t < n)
    (hi : ops[i]? = some oi) (hsel : ∀ (j : Nat) (o : Oper) cs b, ops[j]? = some o → o.op ≠ .select cs b) (hin : i < n)
    (hdone : ∀ listed a, T listed a → ∀ j ∈ Region.ready md ops listed, n ≤ j) :
    ∀ (f : Nat) (listed : Array Bool) (a : Act), Inv listed →
      (∀ j oj, ops[j]? = some oj → j ≠ i → listed.getD j true = false → (∀ e ∈ oj.after, Region.binds md e = true → e.on ≠ i) → oi.apart ops oj = true) →
      i ∈ Region.ready md ops listed → YieldsIn P ops C oi v a →
      midAny P md ops C n T f (listed.setIfInBounds i true) (a.put oi.dst v) → midAny P md ops C n T (f + 1) listed a := by
  intro f
  induction f with
  | zero =>
    intro listed a inv hfree hr hy H
    have hun := (mem_ready.1 hr).1
    refine ⟨fun h => (by rw [h] at hr; cases hr), fun j hj => ?_⟩
    have hjn := htail listed i inv hin hun j hj
    refine ⟨hjn, ?_⟩
    by_cases hji : j = i
    · subst hji; exact hy.qOp hi H
    · have := hdone _ _ H j (ready_mono hj hji)
      omega
  | succ f ih =>
    intro listed a inv hfree hr hy H
    have hun := (mem_ready.1 hr).1
    refine ⟨fun h => (by rw [h] at hr; cases hr), fun j hj => ?_⟩
    have hjn := htail listed i inv hin hun j hj
    refine ⟨hjn, ?_⟩
    by_cases hji : j = i
    · subst hji; exact hy.qOp hi H
    · have h1 := (H.2 j (ready_mono hj hji)).2
      obtain ⟨hjun, oj, hoj, hall⟩ := mem_ready.1 hj
      have hnot : ∀ e ∈ oj.after, Region.binds md e = true → e.on ≠ i := fun e he hb heq => by
        have h2 := hall e he hb
        rw [heq, getD_both hun] at h2
        cases h2
      have h2 := qOp_put hoj (hfree j oj hoj hji hjun hnot) (fun cs b => hsel i oi cs b hi) (fun cs b => hsel j oj cs b hoj) hy h1
      refine qOp_mono (fun a' h3 => ?_) h2
      refine ih (listed.setIfInBounds j true) a' (hset _ _ inv hj hjn) ?_ (ready_mono hr (Ne.symm hji)) h3.1 ?_
      · intro k ok hk hki hku hkno
        refine hfree k ok hk hki ?_ hkno
        by_cases hjk : j = k
        · subst hjk; exact hjun
        · rw [getD_set_ne true hjk] at hku; exact hku
      · rw [Array.setIfInBounds_comm _ _ hji]
        exact h3.2

/-! ### the checks -/

/-- every operation below n that is not listed at the start has one that waits for it, up to n; behind n each waits for the one before. -/
def sunkB (md : Region.Mode) (ops : Array Oper) (n : Nat) (l0 : Array Bool) : Bool :=
  ((List.range n).all fun i => l0.getD i false || ((List.range (n + 1)).any fun j => decide (i < j) && Region.waitsFor md ops j i)) && Region.chainB md ops n

structure MidInv (md : Region.Mode) (ops : Array Oper) (n : Nat) (l0 listed : Array Bool) : Prop where
  size : listed.size = ops.size
  closed : ∀ j oj, ops[j]? = some oj → listed.getD j false = true → ∀ e ∈ oj.after, Region.binds md e = true → listed.getD e.on false = true
  tail : ∀ t, n ≤ t → t < ops.size → listed.getD t true = false
  start : ∀ j, l0.getD j false = true → listed.getD j false = true

theorem MidInv.set {n i : Nat} {l0 listed : Array Bool} (inv : MidInv md ops n l0 listed) (hi : i ∈ Region.ready md ops listed) (hin : i < n) : MidInv md ops n l0 (listed.setIfInBounds i true) := by
  obtain ⟨hun, oi, hoi, hall⟩ := mem_ready.1 hi
  refine ⟨by simp [inv.size], fun j oj hj hl e he hb => ?_, fun t ht ht' => ?_, fun j hj => getD_set_true (inv.start j hj)⟩
  · by_cases hij : i = j
    · subst hij
      have : oj = oi := Option.some.inj (hj.symm.trans hoi)
      subst this
      exact getD_set_true (hall e he hb)
    · rw [getD_set_ne false hij] at hl
      exact getD_set_true (inv.closed j oj hj hl e he hb)
  · rw [getD_set_ne true (by omega)]; exact inv.tail t ht ht'

theorem mid_tail {n : Nat} {l0 listed : Array Bool} (hs : sunkB md ops n l0 = true) (hn : n < ops.size) (inv : MidInv md ops n l0 listed) :
    ∀ (d i : Nat), n - i = d → i < n → listed.getD i true = false → ∀ t ∈ Region.ready md ops listed, t < n := by
  simp only [sunkB, Bool.and_eq_true] at hs
  intro d
  induction d using Nat.strongRecOn with
  | _ d ih =>
    intro i hd hi hun t ht
    rcases Nat.lt_or_ge t n with h | h
    · exact h
    exfalso
    obtain ⟨htun, ot, hot, hall⟩ := mem_ready.1 ht
    have htlt : t < ops.size := (Array.getElem?_eq_some_iff.1 hot).1
    -- t waits for n, or is n; n waits (through others) for i
    by_cases htn : t = n
    · subst htn
      have h1 := List.all_eq_true.1 hs.1 i (List.mem_range.2 hi)
      simp only [Bool.or_eq_true] at h1
      rcases h1 with h1 | h1
      · have := inv.start i h1
        rw [getD_both hun] at this
        cases this
      obtain ⟨j, hj, hj2⟩ := List.any_eq_true.1 h1
      simp only [Bool.and_eq_true, decide_eq_true_eq] at hj2
      obtain ⟨oj, hoj, e, he, hb, hon⟩ := Region.waitsFor_spec hj2.2
      by_cases hjt : j = t
      · subst hjt
        have : oj = ot := Option.some.inj (hoj.symm.trans hot)
        subst this
        have h2 := hall e he hb
        rw [hon, getD_both hun] at h2
        cases h2
      · have hjle : j ≤ t := by have := List.mem_range.1 hj; omega
        cases hl : listed.getD j false with
        | true =>
          have h2 := inv.closed j oj hoj hl e he hb
          rw [hon, getD_both hun] at h2
          cases h2
        | false =>
          have hjs : j < listed.size := by rw [inv.size]; omega
          have := ih (t - j) (by omega) j rfl (by omega) (getD_in hjs hl) t ht
          omega
    · have h1 := List.all_eq_true.1 hs.2 t (List.mem_range.2 htlt)
      simp only [Bool.or_eq_true, decide_eq_true_eq] at h1
      rcases h1 with h1 | h1
      · omega
      · obtain ⟨o', ho', e, he, hb, hon⟩ := Region.waitsFor_spec h1
        have : o' = ot := Option.some.inj (ho'.symm.trans hot)
        subst this
        have h2 := hall e he hb
        rw [hon, getD_both (inv.tail (t - 1) (by omega) (by omega))] at h2
        cases h2

/-- the operations with these numbers. -/
def pick (l : List Oper) : List Nat → List Oper
  | [] => []
  | i :: p => (l.drop i).head?.toList ++ pick l p

theorem pick_cons {l : List Oper} {i : Nat} {p : List Nat} {o : Oper} (h : l[i]? = some o) : pick l (i :: p) = o :: pick l p := by
  simp [pick, List.head?_drop, h]

/-- the middle numbers come in this order, each ready and apart from whatever may come beside it; then a forced tail. -/
def midB (md : Region.Mode) (ops : Array Oper) (n g : Nat) : List Nat → Array Bool → Bool
  | [], listed => Region.seqB md ops g n listed
  | i :: p, listed => decide (i < n) && (ops[i]?).isSome && (Region.ready md ops listed).contains i && Region.free md ops listed i && midB md ops n g p (listed.setIfInBounds i true)

/-- the first numbers likewise, none of them a call. -/
def headB (md : Region.Mode) (ops : Array Oper) (n g : Nat) (mid : List Nat) : List Nat → Array Bool → Bool
  | [], listed => sunkB md ops n listed && (List.range ops.size).all (fun t => decide (t < n) || !listed.getD t true) && midB md ops n g mid listed
  | i :: p, listed => decide (i < n) && ((ops[i]?).map simpleOp).getD false && (Region.ready md ops listed).contains i && Region.free md ops listed i && headB md ops n g mid p (listed.setIfInBounds i true)

theorem seqB_ge {g k : Nat} {listed : Array Bool} (h : Region.seqB md ops g k listed = true) : ∀ j ∈ Region.ready md ops listed, k ≤ j := by
  cases g with
  | zero => intro j hj; simp only [Region.seqB, List.isEmpty_iff] at h; rw [h] at hj; cases hj
  | succ g =>
    intro j hj
    simp only [Region.seqB, Bool.and_eq_true, decide_eq_true_eq] at h
    rw [h.1] at hj
    have : j = k := by simpa using hj
    omega

theorem midAny_lex {l : List Oper} {n g : Nat} {l0 : Array Bool} {T : Act → Prop} (hsel : Region.noSelect l.toArray = true) (hs : sunkB md l.toArray n l0 = true) (hn : n < l.length) :
    ∀ (p : List Nat) (listed : Array Bool) (a : Act), MidInv md l.toArray n l0 listed → midB md l.toArray n g p listed = true → wpQuiet P l.toArray C T (pick l p) a →
    midAny P md l.toArray C n (fun listed' a' => Region.seqB md l.toArray g n listed' = true ∧ T a') p.length listed a := by
  intro p
  induction p with
  | nil => intro listed a inv hB h; exact ⟨by simpa [midB] using hB, h⟩
  | cons i p ih =>
    intro listed a inv hB h
    simp only [midB, Bool.and_eq_true, decide_eq_true_eq] at hB
    obtain ⟨⟨⟨⟨hin, ho⟩, hr⟩, hf⟩, hB'⟩ := hB
    obtain ⟨o, ho⟩ := Option.isSome_iff_exists.1 ho
    have ho' : l[i]? = some o := by simpa using ho
    rw [pick_cons ho'] at h
    have hr' : i ∈ Region.ready md l.toArray listed := by simpa using hr
    have hq : qOp P l.toArray C i (wpQuiet P l.toArray C T (pick l p)) a := by unfold qOp; simp only [ho]; exact h
    obtain ⟨v, hy, hK⟩ := yieldsIn_of_qOp ho hq
    exact midAny_first (fun ls => MidInv md l.toArray n l0 ls) (fun _ _ inv hj hjn => inv.set hj hjn)
      (fun ls j inv hj hun => mid_tail hs (by simpa using hn) inv _ j rfl hj hun) ho (Region.noSelect_spec hsel) hin (fun _ _ hT => seqB_ge hT.1) p.length listed a inv (Region.free_spec ho hf) hr' hy
      (ih _ _ (inv.set hr' hin) hB' hK)

theorem headAny {l : List Oper} {n g : Nat} {mid : List Nat} {T : Act → Prop} {Q : Exit → Act → World → Prop} (hQ : ∀ c a a' w, Q (.panic c) a w → Q (.panic c) a' w)
    (hsel : Region.noSelect l.toArray = true) (hn : n < l.length) (hg : n + g = l.length)
    (hT : ∀ listed a w, C w → Region.seqB md l.toArray g n listed = true → T a → wpAny P md l.toArray Q g listed a w) :
    ∀ (p : List Nat) (listed : Array Bool) (a : Act) (w : World), C w → listed.size = l.length → (∀ j oj, l.toArray[j]? = some oj → listed.getD j false = true → ∀ e ∈ oj.after, Region.binds md e = true → listed.getD e.on false = true) →
      headB md l.toArray n g mid p listed = true → wpQuiet P l.toArray (fun _ => True) (fun a' => wpQuiet P l.toArray C T (pick l mid) a') (pick l p) a →
      wpAny P md l.toArray Q (p.length + (mid.length + g)) listed a w := by
  intro p
  induction p with
  | nil =>
    intro listed a w hw hsz hcl hB h
    simp only [headB, Bool.and_eq_true] at hB
    obtain ⟨⟨hs, htl⟩, hm⟩ := hB
    have inv : MidInv md l.toArray n listed listed := ⟨by simpa using hsz, hcl, fun t ht ht' => by
      have := List.all_eq_true.1 htl t (List.mem_range.2 ht')
      simp only [Bool.or_eq_true, decide_eq_true_eq, Bool.not_eq_true'] at this
      rcases this with h | h
      · omega
      · exact h, fun _ h => h⟩
    have H := midAny_lex (C := C) hsel hs hn mid listed a inv hm h
    rw [List.length_nil, Nat.zero_add]
    exact wpAny_of_mid (fun ls a' w' hw' h' => hT ls a' w' hw' h'.1 h'.2) _ _ _ _ hw H
  | cons i p ih =>
    intro listed a w hw hsz hcl hB h
    simp only [headB, Bool.and_eq_true, decide_eq_true_eq] at hB
    obtain ⟨⟨⟨⟨hin, ho⟩, hr⟩, hf⟩, hB'⟩ := hB
    cases ho2 : l.toArray[i]? with
    | none => rw [ho2] at ho; cases ho
    | some o =>
      rw [ho2] at ho
      have hs1 : simpleOp o = true := by simpa using ho
      have ho' : l[i]? = some o := by simpa using ho2
      rw [pick_cons ho'] at h
      have hr' : i ∈ Region.ready md l.toArray listed := by simpa using hr
      have hq : qOp P l.toArray (fun _ => True) i (wpQuiet P l.toArray (fun _ => True) (fun a' => wpQuiet P l.toArray C T (pick l mid) a') (pick l p)) a := by unfold qOp; simp only [ho2]; exact h
      obtain ⟨v, hy, hK⟩ := yields_of_quiet ho2 hs1 hq
      rw [List.length_cons, show p.length + 1 + (mid.length + g) = (p.length + (mid.length + g)) + 1 from by omega]
      refine wpAny_first ho2 (Region.noSelect_spec hsel) (fun c a w h => hQ c _ _ w h) _ listed a w (Region.free_spec ho2 hf) hr' hy ?_
      refine ih _ _ _ hw (by simp [hsz]) ?_ hB' hK
      intro j oj hj hl e he hb
      by_cases hij : i = j
      · subst hij
        have : oj = o := Option.some.inj (hj.symm.trans ho2)
        subst this
        obtain ⟨_, o2, ho3, hall⟩ := mem_ready.1 hr'
        have : oj = o2 := Option.some.inj (hj.symm.trans ho3)
        subst this
        exact getD_set_true (hall e he hb)
      · rw [getD_set_ne false hij] at hl
        exact getD_set_true (hcl j oj hj hl e he hb)

/-- False at a panic. -/
def noPan (Q : Exit → Act → World → Prop) : Exit → Act → World → Prop
  | .panic _, _, _ => False
  | e, a, w => Q e a w

/-- all numbers, each once: the first ones, the middle ones, then from n on. -/
def threeB (l : List Oper) (first mid : List Nat) (n : Nat) : Bool :=
  Region.noSelect l.toArray && decide (n < l.length) && decide (first.length + mid.length = n) && headB .any l.toArray n (l.length - n) mid first (Array.replicate l.length false)

/-- **A region that draws its order.** -/
theorem wp_three {id : Nat} {Q : Exit → Act → World → Prop} {a : Act} {w : World} {l : List Oper} (first mid : List Nat) (n : Nat) (hm : P.follows .mixedOrders = true) (hB : threeB l first mid n = true)
    (h : ∀ Q' : Exit → Act → World → Prop, (∀ a w, Q .normal a w → Q' .normal a w) → wpQuiet P l.toArray (fun _ => True) (fun a1 => wpQuiet P l.toArray (fun w' => ∃ k, w' = w.drewN k) (fun a2 => ∀ k, wpList P l.toArray Q' (l.drop n) a2 (w.drewN k)) (pick l mid) a1) (pick l first) a) :
    (Code.region id l.toArray true).wp P Q a w := by
  simp only [threeB, Bool.and_eq_true, decide_eq_true_eq] at hB
  obtain ⟨⟨⟨hsel, hn⟩, hlen⟩, hB⟩ := hB
  refine Code.wp_mono (Q := noPan Q) (fun e a w hq => by cases e <;> first | exact hq | exact (hq : False).elim) ?_
  refine wp_region_any hm ?_
  have := headAny (C := fun w' => ∃ k, w' = w.drewN k) (md := .any) (Q := noPan Q) (g := l.length - n) (fun c a a' w hq => hq) hsel hn (by omega)
    (fun listed a' w' hw' hseq hT => by
      obtain ⟨k, rfl⟩ := hw'
      have := wpAny_of_seq (md := .any) (Q' := noPan Q) (l.drop n) n listed a' (w.drewN k) (fun j => by simp [List.getElem?_drop]) (by rw [List.length_drop]; exact hseq) (hT k)
      rwa [List.length_drop] at this)
    first (Array.replicate l.length false) a { w with drawn := w.drawn + 1 } ⟨1, rfl⟩ (by simp) (fun j oj _ hl => by rw [getD_replicate_false] at hl; cases hl) hB (h (noPan Q) fun _ _ h => h)
  rw [show first.length + (mid.length + (l.length - n)) = l.toArray.size from by simp; omega] at this
  simpa using this

end
/-- .. the middle part in a class of worlds. -/
theorem wp_three_in {P : Program} (C : World → Prop) {id : Nat} {Q : Exit → Act → World → Prop} {a : Act} {w : World} {l : List Oper} (first mid : List Nat) (n : Nat) (hm : P.follows .mixedOrders = true) (hB : threeB l first mid n = true)
    (hC : C { w with drawn := w.drawn + 1 })
    (h : ∀ Q' : Exit → Act → World → Prop, (∀ a w, Q .normal a w → Q' .normal a w) → wpQuiet P l.toArray (fun _ => True) (fun a1 => wpQuiet P l.toArray C (fun a2 => ∀ w', C w' → wpList P l.toArray Q' (l.drop n) a2 w') (pick l mid) a1) (pick l first) a) :
    (Code.region id l.toArray true).wp P Q a w := by
  simp only [threeB, Bool.and_eq_true, decide_eq_true_eq] at hB
  obtain ⟨⟨⟨hsel, hn⟩, hlen⟩, hB⟩ := hB
  refine Code.wp_mono (Q := noPan Q) (fun e a w hq => by cases e <;> first | exact hq | exact (hq : False).elim) ?_
  refine wp_region_any hm ?_
  have := headAny (C := C) (md := .any) (Q := noPan Q) (g := l.length - n) (fun c a a' w hq => hq) hsel hn (by omega)
    (fun listed a' w' hw' hseq hT => by
      have := wpAny_of_seq (md := .any) (Q' := noPan Q) (l.drop n) n listed a' w' (fun j => by simp [List.getElem?_drop]) (by rw [List.length_drop]; exact hseq) (hT w' hw')
      rwa [List.length_drop] at this)
    first (Array.replicate l.length false) a { w with drawn := w.drawn + 1 } hC (by simp) (fun j oj _ hl => by rw [getD_replicate_false] at hl; cases hl) hB (h (noPan Q) fun _ _ h => h)
  rw [show first.length + (mid.length + (l.length - n)) = l.toArray.size from by simp; omega] at this
  simpa using this

/-- an operation that gives a value and no call is as quiet in one class as in all worlds. -/
theorem quiet_simple {P : Program} {o : Oper} {a : Act} {C : World → Prop} {K : Act → Prop} (hs : simpleOp o = true) (h : o.quiet P a (fun _ => True) K) : o.quiet P a C K := by
  obtain ⟨v, hv, hK⟩ := h
  refine ⟨v, fun w _ => ?_, hK⟩
  have h1 := hv w trivial
  unfold Oper.quietAt at *
  generalize hr : (execOp a.eval o).run P w = r at h1
  cases r with
  | ok n w' =>
    obtain ⟨u, rfl⟩ := simpleOp_value hs hr
    exact h1
  | halt x w' => exact h1

/-- a load of a cell that all worlds of the class hold. -/
theorem quiet_val {P : Program} {o : Oper} {a : Act} {C : World → Prop} {K : Act → Prop} (v : Value) (h : ∀ w, C w → (execOp a.eval o).run P w = .ok (.value v) w) (hK : K (a.put o.dst v)) : o.quiet P a C K :=
  ⟨v, fun w hw => by unfold Oper.quietAt; rw [h w hw]; exact ⟨rfl, rfl⟩, hK⟩
theorem run_load_int {P : Program} {o : Oper} {a : Act} {w : World} {ty : TypeId} {x : Operand} {p : Addr} {v : Value} {k : IntKind} (ho : o.op = .load ty x) (hx : a.eval x = .pointer (some p)) (ht : P.underlying ty = some (.int k)) (hc : w.cell? p = some v) :
    (execOp a.eval o).run P w = .ok (.value v) w := by
  unfold execOp
  simp only [ho, hx]
  simp [go_sem, ht, hc, isAgg, run_underlying ht]
theorem quiet_load {P : Program} {o : Oper} {a : Act} {B : Nat} {w0 : World} {K : Act → Prop} {ty : TypeId} {x : Operand} {b off : Nat} {v : Value} {k : IntKind} (ho : o.op = .load ty x) (hx : a.eval x = .pointer (some ⟨b, off, none⟩)) (ht : P.underlying ty = some (.int k))
    (hc : w0.cell? ⟨b, off, none⟩ = some v) (hb : b < B) (hK : K (a.put o.dst v)) : o.quiet P a (fun w' => Below B w0 w') K :=
  quiet_val v (fun w hw => run_load_int ho hx ht ((hw.cell (p := ⟨b, off, none⟩) hb).trans hc)) hK

/-! ### append -/
/-- t is a slice type of elements e, each of sz cells and so many bytes. -/
def Elem (P : Program) (t e : TypeId) (sz bytes : Nat) : Prop := ∃ i z, P.underlying t = some (.slice e) ∧ P.info? e = some i ∧ i.zero = some z ∧ i.size = sz ∧ i.bytes = bytes ∧ z.cells.size = sz ∧ 0 < sz
theorem Elem.mk {P : Program} {t e : TypeId} {z : Value} {sz bytes : Nat} (ht : P.underlying t = some (.slice e)) (hi : (P.info? e).map (fun i => (i.zero, i.size, i.bytes)) = some (some z, sz, bytes)) (hz : z.cells.size = sz) (hs : 0 < sz) : Elem P t e sz bytes := by
  obtain ⟨i, h1, h2, h3, h4⟩ := info_parts hi
  exact ⟨i, z, ht, h1, h2, h3, h4, hz, hs⟩

/-- What an append does to other memory: below base nothing; of what was there the value's own row alone. -/
structure Pushed (base : Nat) (w w' : World) (v v' : Value) : Prop where
  below : Below base w w'
  other : ∀ k, k < w.heap.size → some k ≠ v.ownBlock → w'.heap[k]? = w.heap[k]?
  lies : v'.ownBlock = v.ownBlock ∨ v'.ownBlock = some w.heap.size

theorem wpList_append_list {P : Program} {ops : Array Oper} {rest : List Oper} {o : Oper} {a : Act} {Q : Exit → Act → World → Prop} {w : World} (hgd : o.guard = none) (s x : Operand) (t : TypeId)
    (ho : o.op = .call { callee := .builtin .append, args := #[s, x], argTypes := #[t, t] }) {e : TypeId} {sz bytes : Nat} (E : Elem P t e sz bytes) (base : Nat)
    (v : Value) (n : Nat) (xs : List Value) (hs : a.eval s = v) (hown : w.ownsRow base e sz v n xs)
    (ao : Option Addr) (m c : Nat) (news : List Value) (hx : a.eval x = .slice ao m c) (hl : news.length = m * sz) (h1 : ∀ u ∈ news, u.oneCell' = true)
    (hsrc : (ao = none ∧ m = 0 ∧ c = 0) ∨ ∃ ad, ao = some ad ∧ ∀ j u, news[j]? = some u → w.cell? (ad.add j) = some u)
    (hb : (n + m) * bytes ≤ 140737488355328) (hn : n + m ≤ maxLen) (hbase : base ≤ w.heap.size)
    (h : ∀ v' w', w'.ownsRow base e sz v' (n + m) (xs ++ news) → Pushed base w w' v v' → (v' = .slice none 0 0 ↔ v = .slice none 0 0 ∧ m = 0) → wpList P ops Q rest (a.put o.dst v') w') : wpList P ops Q (o :: rest) a w := by
  obtain ⟨i, z, ht, hi, hz, hsize, hby, hzs, hsz⟩ := E
  rcases hsrc with ⟨rfl, rfl, rfl⟩ | ⟨ad, rfl, hcells⟩
  · obtain rfl : news = [] := List.eq_nil_of_length_eq_zero (by simpa using hl)
    refine wpList_append_own_none hgd s x t ho base e i sz ht hi v n xs hs hown hx ?_
    exact h v w (by simpa using hown) ⟨Below.refl _ _, fun _ _ _ => rfl, Or.inl rfl⟩ (by simp)
  · obtain ⟨v', w', hr, h2, h3, h4, h5⟩ := run_append_own_at (P := P) w base t o.type e i z sz bytes ht hi hz hsize hby hzs hsz v n xs hown ad m c news hl hcells h1 hn hb hbase
    refine wpList_plain hgd fun K hK => ?_
    unfold Oper.wp execOp
    simp only [ho, resolve, invoke, builtin, Sem.run_bind, Sem.run_pure, Result.andThen_ok, List.map_toArray, List.map_cons, List.map_nil, hs, hx, hr]
    exact hK _ _ (h v' w' h2 ⟨(Below.refl _ _).grown h3 hbase (fun k hk => (hown.lt k hk).1), h3.block, h5⟩ h4)

/-- one element more. -/
theorem wpList_push {P : Program} {ops : Array Oper} {rest : List Oper} {o : Oper} {a : Act} {Q : Exit → Act → World → Prop} {w : World} (hgd : o.guard = none) (s x : Operand) (t : TypeId)
    (ho : o.op = .call { callee := .builtin .append, args := #[s, x], argTypes := #[t, t] }) {e : TypeId} {sz bytes : Nat} (E : Elem P t e sz bytes) (base : Nat)
    (v : Value) (n : Nat) (xs : List Value) (hs : a.eval s = v) (w0 : World) (hown : w0.ownsRow base e sz v n xs) (us : List Value) (hul : us.length = sz) (h1 : ∀ u ∈ us, u.oneCell' = true)
    (hw : w = w0.alloc (.cells us.toArray e)) (N : Nat) (hN : w0.heap.size = N) (hx : a.eval x = .slice (some ⟨N, 0, none⟩) 1 1)
    (hb : (n + 1) * bytes ≤ 140737488355328) (hn : n + 1 ≤ maxLen) (hbase : base ≤ w0.heap.size)
    (h : ∀ v' w', w'.ownsRow base e sz v' (n + 1) (xs ++ us) → Below base w0 w' → (∀ k, k < w0.heap.size → some k ≠ v.ownBlock → w'.heap[k]? = w0.heap[k]?) → (∀ k, v'.ownBlock = some k → v.ownBlock = some k ∨ w0.heap.size ≤ k) → wpList P ops Q rest (a.put o.dst v') w') : wpList P ops Q (o :: rest) a w := by
  subst hw; subst hN
  refine wpList_append_list hgd s x t ho E base v n xs hs (hown.alloc _) _ 1 1 us hx (by omega) h1 (Or.inr ⟨_, rfl, World.news_of_block (cs := us.toArray) (heap_alloc_new w0 _)⟩) hb hn (by simp; omega) ?_
  intro v' w' h2 h3 _
  refine h v' w' h2 (((Below.refl _ _).alloc hbase _).trans h3.below) (fun k hk hne => (h3.other k (by simp; omega) hne).trans (Below.heap_alloc _ _ _ hk)) (fun k hk => ?_)
  rcases h3.lies with e | e
  · exact Or.inl (by rw [← e]; exact hk)
  · right; rw [hk] at e; simp at e; omega

theorem ownsRow_drewN {w : World} {base : Nat} {e : TypeId} {size : Nat} {v : Value} {n : Nat} {xs : List Value} (k : Nat) (h : w.ownsRow base e size v n xs) : (w.drewN k).ownsRow base e size v n xs := h

end Go.Proofs.Ytlmdmpjfehpjeaa

/- A statement whose order is open: operations that yield the same in every world first, then the others in the one order that is left. -/
set_option linter.unusedVariables false
set_option linter.unusedSimpArgs false
namespace Go.Proofs.Ytlmdmpjfehpjeaa
open Go.RowKit
section
variable {P : Program} {md : Region.Mode}

/-- these numbers can only come in this order. -/
def seqL (md : Region.Mode) (ops : Array Oper) : List Nat → Array Bool → Bool
  | [], listed => (Region.ready md ops listed).isEmpty
  | k :: p, listed => decide (Region.ready md ops listed = [k]) && (ops[k]?).isSome && seqL md ops p (listed.setIfInBounds k true)

theorem wpAny_of_seqL {l : List Oper} {Q : Exit → Act → World → Prop} : ∀ (p : List Nat) (listed : Array Bool) (a : Act) (w : World), seqL md l.toArray p listed = true → wpList P l.toArray Q (pick l p) a w → wpAny P md l.toArray Q p.length listed a w := by
  intro p
  induction p with
  | nil => intro listed a w hB h; exact ⟨by simpa [seqL] using hB, h⟩
  | cons k p ih =>
    intro listed a w hB h
    simp only [seqL, Bool.and_eq_true, decide_eq_true_eq] at hB
    obtain ⟨⟨hr, ho⟩, hB'⟩ := hB
    obtain ⟨o, ho⟩ := Option.isSome_iff_exists.1 ho
    have ho' : l[k]? = some o := by simpa using ho
    rw [pick_cons ho'] at h
    refine ⟨fun h1 => (by rw [hr] at h1; cases h1), fun i hi => ?_⟩
    rw [hr] at hi
    have hik : i = k := by simpa using hi
    subst hik
    have hw : wpOp P l.toArray Q i (wpList P l.toArray Q (pick l p)) a w := by unfold wpOp; simp only [ho]; exact h
    exact wpOp_mono (fun a' w' h' => ih _ _ _ hB' h') hw

def twoB (md : Region.Mode) (ops : Array Oper) (tail : List Nat) : List Nat → Array Bool → Bool
  | [], listed => seqL md ops tail listed
  | i :: p, listed => ((ops[i]?).map simpleOp).getD false && (Region.ready md ops listed).contains i && Region.free md ops listed i && twoB md ops tail p (listed.setIfInBounds i true)

theorem wpAny_two {l : List Oper} {tail : List Nat} {Q : Exit → Act → World → Prop} (hQ : ∀ c a a' w, Q (.panic c) a w → Q (.panic c) a' w) (hsel : Region.noSelect l.toArray = true) :
    ∀ (p : List Nat) (listed : Array Bool) (a : Act) (w : World), twoB md l.toArray tail p listed = true → wpQuiet P l.toArray (fun _ => True) (fun a' => wpList P l.toArray Q (pick l tail) a' w) (pick l p) a →
      wpAny P md l.toArray Q (p.length + tail.length) listed a w := by
  intro p
  induction p with
  | nil => intro listed a w hB h; rw [List.length_nil, Nat.zero_add]; exact wpAny_of_seqL tail listed a w hB h
  | cons i p ih =>
    intro listed a w hB h
    simp only [twoB, Bool.and_eq_true] at hB
    obtain ⟨⟨⟨ho, hr⟩, hf⟩, hB'⟩ := hB
    cases ho2 : l.toArray[i]? with
    | none => rw [ho2] at ho; cases ho
    | some o =>
      rw [ho2] at ho
      have hs1 : simpleOp o = true := by simpa using ho
      have ho' : l[i]? = some o := by simpa using ho2
      rw [pick_cons ho'] at h
      have hr' : i ∈ Region.ready md l.toArray listed := by simpa using hr
      have hq : qOp P l.toArray (fun _ => True) i (wpQuiet P l.toArray (fun _ => True) (fun a' => wpList P l.toArray Q (pick l tail) a' w) (pick l p)) a := by unfold qOp; simp only [ho2]; exact h
      obtain ⟨v, hy, hK⟩ := yields_of_quiet ho2 hs1 hq
      rw [List.length_cons, show p.length + 1 + tail.length = (p.length + tail.length) + 1 from by omega]
      exact wpAny_first ho2 (Region.noSelect_spec hsel) (fun c a w h => hQ c _ _ w h) _ listed a w (Region.free_spec ho2 hf) hr' hy (ih _ _ _ hB' hK)

def twoAllB (l : List Oper) (first tail : List Nat) : Bool :=
  Region.noSelect l.toArray && decide (first.length + tail.length = l.length) && twoB .any l.toArray tail first (Array.replicate l.length false)

theorem wp_two {id : Nat} {Q : Exit → Act → World → Prop} {a : Act} {w : World} {l : List Oper} (first tail : List Nat) (hm : P.follows .mixedOrders = true) (hB : twoAllB l first tail = true)
    (h : ∀ Q' : Exit → Act → World → Prop, (∀ a w, Q .normal a w → Q' .normal a w) → wpQuiet P l.toArray (fun _ => True) (fun a1 => wpList P l.toArray Q' (pick l tail) a1 w.drew) (pick l first) a) :
    (Code.region id l.toArray true).wp P Q a w := by
  simp only [twoAllB, Bool.and_eq_true, decide_eq_true_eq] at hB
  obtain ⟨⟨hsel, hlen⟩, hB⟩ := hB
  refine Code.wp_mono (Q := noPan Q) (fun e a w hq => by cases e <;> first | exact hq | exact (hq : False).elim) ?_
  refine wp_region_any hm ?_
  have := wpAny_two (md := .any) (Q := noPan Q) (fun c a a' w hq => hq) hsel first (Array.replicate l.length false) a w.drew hB (h (noPan Q) fun _ _ h => h)
  rw [show first.length + tail.length = l.toArray.size from by simp; omega] at this
  simpa using this
end

/-- an empty slice literal. -/
theorem ownsRow_empty {P : Program} (w : World) {t e : TypeId} {sz bytes : Nat} (E : Elem P t e sz bytes) : (w.alloc (.cells #[] e)).ownsRow w.heap.size e sz (.slice (some ⟨w.heap.size, 0, none⟩) 0 0) 0 [] :=
  World.ownsRow_made w #[] 0 (Nat.le_refl _) (by simp [maxLen]) (by simp)

end Go.Proofs.Ytlmdmpjfehpjeaa

/- A statement whose order is open, in steps: what yields the same in every world comes first; what has to come next; two that come in either order. -/
set_option linter.unusedVariables false
set_option linter.unusedSimpArgs false
namespace Go.Proofs.Ytlmdmpjfehpjeaa
open Go.RowKit
section
variable {P : Program} {md : Region.Mode}

inductive Stp where
  | q (ks : List Nat)
  | f (ks : List Nat)
  | p (i j : Nat)

def contF (K : Act → World → Prop) : Exit → Act → World → Prop
  | .normal, a, w => K a w
  | _, _, _ => False

theorem wp_F {ops : Array Oper} {Q : Exit → Act → World → Prop} {X K : Act → World → Prop} {o : Oper} {a : Act} {w : World} (hh : o.wp P a w K (contF X)) : o.wp P a w K Q := by
  unfold Oper.wp at *
  generalize (execOp a.eval o).run P w = r at *
  cases r with
  | ok n w' =>
    cases n <;> simp only [Oper.upon] at hh ⊢ <;>
      first
        | exact hh
        | exact Calls.mono hh (fun e w'' he => by
            cases e with
            | returned v => exact he
            | panicked c => exact (he : False).elim
            | outgrown => obtain ⟨a, w, h⟩ := he; exact (h : False).elim)
  | halt x w' => cases x <;> simp only [Oper.upon] at hh ⊢ <;> first | exact hh | exact (hh : False).elim

theorem wpOp_F {ops : Array Oper} {Q : Exit → Act → World → Prop} {X K : Act → World → Prop} {i : Nat} {a : Act} {w : World} (hh : wpOp P ops (contF X) i K a w) : wpOp P ops Q i K a w := by
  unfold wpOp at *
  split
  · simpa [*] using hh
  · rename_i o ho
    simp only [ho] at hh
    split
    · rename_i hw
      simp only [hw, if_true] at hh
      rcases hh with h | ⟨_, a, w, h⟩
      · exact Or.inl (wp_F (ops := ops) h)
      · exact (h : False).elim
    · rename_i hw; simp only [hw] at hh; exact hh

def runSet (L : Array Bool) (ks : List Nat) : Array Bool := ks.foldl (fun L k => L.setIfInBounds k true) L

def qB (md : Region.Mode) (ops : Array Oper) : List Nat → Array Bool → Bool
  | [], _ => true
  | k :: p, L => ((ops[k]?).map simpleOp).getD false && (Region.ready md ops L).contains k && Region.free md ops L k && qB md ops p (L.setIfInBounds k true)
def fB (md : Region.Mode) (ops : Array Oper) : List Nat → Array Bool → Bool
  | [], _ => true
  | k :: p, L => decide (Region.ready md ops L = [k]) && (ops[k]?).isSome && fB md ops p (L.setIfInBounds k true)
def mixB (md : Region.Mode) (ops : Array Oper) : List Stp → Array Bool → Bool
  | [], L => (Region.ready md ops L).isEmpty
  | .q ks :: s, L => qB md ops ks L && mixB md ops s (runSet L ks)
  | .f ks :: s, L => fB md ops ks L && mixB md ops s (runSet L ks)
  | .p i j :: s, L => decide (Region.ready md ops L = [i, j]) && fB md ops [j] (runSet L [i]) && fB md ops [i] (runSet L [j]) && (ops[i]?).isSome && (ops[j]?).isSome && (runSet L [j, i] == runSet L [i, j]) && mixB md ops s (runSet L [i, j])

def lenS : List Stp → Nat
  | [] => 0
  | .q ks :: s => ks.length + lenS s
  | .f ks :: s => ks.length + lenS s
  | .p _ _ :: s => 2 + lenS s

def wpMix (P : Program) (l : List Oper) (Q : Exit → Act → World → Prop) : List Stp → Act → World → Prop
  | [], a, w => Q .normal a w
  | .q ks :: s, a, w => wpQuiet P l.toArray (fun _ => True) (fun a' => wpMix P l Q s a' w) (pick l ks) a
  | .f ks :: s, a, w => wpList P l.toArray (contF (wpMix P l Q s)) (pick l ks) a w
  | .p i j :: s, a, w => wpList P l.toArray (contF (wpMix P l Q s)) (pick l [i, j]) a w ∧ wpList P l.toArray (contF (wpMix P l Q s)) (pick l [j, i]) a w

theorem wpAny_q {l : List Oper} {Q : Exit → Act → World → Prop} (hQ : ∀ c a a' w, Q (.panic c) a w → Q (.panic c) a' w) (hsel : Region.noSelect l.toArray = true) {X : Act → World → Prop} {n : Nat} :
    ∀ (p : List Nat) (L : Array Bool) (a : Act) (w : World), qB md l.toArray p L = true → (∀ a', X a' w → wpAny P md l.toArray Q n (runSet L p) a' w) → wpQuiet P l.toArray (fun _ => True) (fun a' => X a' w) (pick l p) a →
      wpAny P md l.toArray Q (p.length + n) L a w := by
  intro p
  induction p with
  | nil => intro L a w hB h hx; rw [List.length_nil, Nat.zero_add]; exact h a hx
  | cons i p ih =>
    intro L a w hB h hx
    simp only [qB, Bool.and_eq_true] at hB
    obtain ⟨⟨⟨ho, hr⟩, hf⟩, hB'⟩ := hB
    cases ho2 : l.toArray[i]? with
    | none => rw [ho2] at ho; cases ho
    | some o =>
      rw [ho2] at ho
      have hs1 : simpleOp o = true := by simpa using ho
      have ho' : l[i]? = some o := by simpa using ho2
      rw [pick_cons ho'] at hx
      have hr' : i ∈ Region.ready md l.toArray L := by simpa using hr
      have hq : qOp P l.toArray (fun _ => True) i (wpQuiet P l.toArray (fun _ => True) (fun a' => X a' w) (pick l p)) a := by unfold qOp; simp only [ho2]; exact hx
      obtain ⟨v, hy, hK⟩ := yields_of_quiet ho2 hs1 hq
      rw [List.length_cons, show p.length + 1 + n = (p.length + n) + 1 from by omega]
      exact wpAny_first ho2 (Region.noSelect_spec hsel) (fun c a w h => hQ c _ _ w h) _ L a w (Region.free_spec ho2 hf) hr' hy (ih _ _ _ hB' h hK)

theorem wpAny_f {l : List Oper} {Q : Exit → Act → World → Prop} {X : Act → World → Prop} {n : Nat} :
    ∀ (p : List Nat) (L : Array Bool) (a : Act) (w : World), fB md l.toArray p L = true → (∀ a' w', X a' w' → wpAny P md l.toArray Q n (runSet L p) a' w') → wpList P l.toArray (contF X) (pick l p) a w →
      wpAny P md l.toArray Q (p.length + n) L a w := by
  intro p
  induction p with
  | nil => intro L a w hB h hx; rw [List.length_nil, Nat.zero_add]; exact h a w hx
  | cons k p ih =>
    intro L a w hB h hx
    simp only [fB, Bool.and_eq_true, decide_eq_true_eq] at hB
    obtain ⟨⟨hr, ho⟩, hB'⟩ := hB
    obtain ⟨o, ho⟩ := Option.isSome_iff_exists.1 ho
    have ho' : l[k]? = some o := by simpa using ho
    rw [pick_cons ho'] at hx
    rw [List.length_cons, show p.length + 1 + n = (p.length + n) + 1 from by omega]
    refine ⟨fun h1 => (by rw [hr] at h1; cases h1), fun i hi => ?_⟩
    rw [hr] at hi
    have hik : i = k := by simpa using hi
    subst hik
    have hw : wpOp P l.toArray (contF X) i (wpList P l.toArray (contF X) (pick l p)) a w := by unfold wpOp; simp only [ho]; exact hx
    exact wpOp_mono (fun a' w' h' => ih _ _ _ hB' h h') (wpOp_F hw)

theorem wpAny_mix {l : List Oper} {Q : Exit → Act → World → Prop} (hQ : ∀ c a a' w, Q (.panic c) a w → Q (.panic c) a' w) (hsel : Region.noSelect l.toArray = true) :
    ∀ (s : List Stp) (L : Array Bool) (a : Act) (w : World), mixB md l.toArray s L = true → wpMix P l Q s a w → wpAny P md l.toArray Q (lenS s) L a w := by
  intro s
  induction s with
  | nil => intro L a w hB h; exact ⟨by simpa [mixB] using hB, h⟩
  | cons st s ih =>
    intro L a w hB h
    cases st with
    | q ks =>
      simp only [mixB, Bool.and_eq_true] at hB
      exact wpAny_q hQ hsel (X := wpMix P l Q s) ks L a w hB.1 (fun a' h' => ih _ _ _ hB.2 h') h
    | f ks =>
      simp only [mixB, Bool.and_eq_true] at hB
      exact wpAny_f ks L a w hB.1 (fun a' w' h' => ih _ _ _ hB.2 h') h
    | p i j =>
      simp only [mixB, Bool.and_eq_true, decide_eq_true_eq, beq_iff_eq] at hB
      obtain ⟨⟨⟨⟨⟨⟨hr, h1⟩, h2⟩, hi⟩, hj⟩, he⟩, hB'⟩ := hB
      obtain ⟨ha, hb⟩ := h
      show wpAny P md l.toArray Q (2 + lenS s) L a w
      rw [show 2 + lenS s = (1 + lenS s) + 1 from by omega]
      refine ⟨fun h1 => (by rw [hr] at h1; cases h1), fun k hk => ?_⟩
      rw [hr] at hk
      rcases (by simpa using hk : k = i ∨ k = j) with rfl | rfl
      · obtain ⟨o, ho⟩ := Option.isSome_iff_exists.1 hi
        have ho' : l[k]? = some o := by simpa using ho
        rw [pick_cons ho'] at ha
        have hw : wpOp P l.toArray (contF (wpMix P l Q s)) k (wpList P l.toArray (contF (wpMix P l Q s)) (pick l [j])) a w := by unfold wpOp; simp only [ho]; exact ha
        exact wpOp_mono (fun a' w' h' => wpAny_f [j] _ a' w' h1 (fun a'' w'' h'' => ih _ _ _ hB' h'') h') (wpOp_F hw)
      · obtain ⟨o, ho⟩ := Option.isSome_iff_exists.1 hj
        have ho' : l[k]? = some o := by simpa using ho
        rw [pick_cons ho'] at hb
        have hw : wpOp P l.toArray (contF (wpMix P l Q s)) k (wpList P l.toArray (contF (wpMix P l Q s)) (pick l [i])) a w := by unfold wpOp; simp only [ho]; exact hb
        refine wpOp_mono (fun a' w' h' => wpAny_f [i] _ a' w' h2 (fun a'' w'' h'' => ?_) h') (wpOp_F hw)
        have := ih _ _ _ hB' h''
        rw [← he] at this
        exact this

def mixAllB (l : List Oper) (s : List Stp) : Bool :=
  Region.noSelect l.toArray && decide (lenS s = l.length) && mixB .any l.toArray s (Array.replicate l.length false)

theorem wp_mix {id : Nat} {Q : Exit → Act → World → Prop} {a : Act} {w : World} {l : List Oper} (s : List Stp) (hm : P.follows .mixedOrders = true) (hB : mixAllB l s = true)
    (h : ∀ Q' : Exit → Act → World → Prop, (∀ a w, Q .normal a w → Q' .normal a w) → wpMix P l Q' s a w.drew) :
    (Code.region id l.toArray true).wp P Q a w := by
  simp only [mixAllB, Bool.and_eq_true, decide_eq_true_eq] at hB
  obtain ⟨⟨hsel, hlen⟩, hB⟩ := hB
  refine Code.wp_mono (Q := noPan Q) (fun e a w hq => by cases e <;> first | exact hq | exact (hq : False).elim) ?_
  refine wp_region_any hm ?_
  have := wpAny_mix (md := .any) (Q := noPan Q) (fun c a a' w hq => hq) hsel s (Array.replicate l.length false) a w.drew hB (h (noPan Q) fun _ _ h => h)
  rw [show lenS s = l.toArray.size from by simp; omega] at this
  simpa using this
end
end Go.Proofs.Ytlmdmpjfehpjeaa

/- A statement whose order is open, in steps, over a class of worlds: reads of cells that all worlds of the class hold come first, too; whatever else is done keeps the class. -/
set_option linter.unusedVariables false
set_option linter.unusedSimpArgs false
namespace Go.Proofs.Ytlmdmpjfehpjeaa
open Go.RowKit
section
variable {P : Program} {md : Region.Mode} {ops : Array Oper} {Q : Exit → Act → World → Prop} {C : World → Prop}

/-- one that gives a value and leaves the world as it is: no call. -/
def stillB : Callee → Bool
  | .builtin .len | .builtin .max | .builtin .min | .builtin .cap => true
  | _ => false
def stillOp (o : Oper) : Bool := simpleOp o || (match o.op with | .load .. => true | .call c => stillB c.callee | _ => false)

theorem stillOp_value {o : Oper} (h : stillOp o = true) {ρ : Operand → Value} {w w1 : World} {n : Next} (hr : (execOp ρ o).run P w = .ok n w1) : ∃ v, n = .value v := by
  unfold stillOp at h
  rw [Bool.or_eq_true] at h
  rcases h with h | h
  · exact simpleOp_value h hr
  · split at h
    · rename_i e
      unfold execOp at hr
      rw [e] at hr
      exact value_of_bind _ hr
    · rename_i c e
      unfold execOp at hr
      rw [e] at hr
      unfold stillB at h
      split at h
      all_goals first
        | (rename_i e2; simp only [resolve, e2, Sem.run_bind, Sem.run_pure, Result.andThen_ok, invoke, builtin] at hr; exact value_of_bind _ (by simpa only [Sem.run_bind, Sem.run_pure] using hr))
        | cases h
    · cases h

def YieldsX (P : Program) (ops : Array Oper) (C : World → Prop) (o : Oper) (v : Value) (a : Act) : Prop :=
  (Region.wanted o (yielded ops a.tmps) = true ∧ ∀ w, C w → (execOp a.eval o).run P w = .ok (.value v) w) ∨ (Region.wanted o (yielded ops a.tmps) = false ∧ v = undef)

theorem yieldsX_of_quiet {i : Nat} {o : Oper} {a : Act} {K : Act → Prop} (hi : ops[i]? = some o) (hs : stillOp o = true) (h : qOp P ops C i K a) : ∃ v, YieldsX P ops C o v a ∧ K (a.put o.dst v) := by
  obtain ⟨v, hy, hK⟩ := yieldsIn_of_qOp hi h
  refine ⟨v, ?_, hK⟩
  rcases hy with ⟨hw, hy⟩ | ⟨hw, rfl⟩
  · refine Or.inl ⟨hw, fun w hC => ?_⟩
    have h1 := hy w hC
    unfold Oper.quietAt at h1
    generalize hr : (execOp a.eval o).run P w = r at h1
    cases r with
    | ok n w' =>
      obtain ⟨u, rfl⟩ := stillOp_value hs hr
      simp only [Oper.quietUpon] at h1
      rw [h1.1, h1.2]
    | halt x w' => simp only [Oper.quietUpon] at h1
  · exact Or.inr ⟨hw, rfl⟩

theorem YieldsX.wpOp {i : Nat} {o : Oper} {v : Value} {a : Act} (hi : ops[i]? = some o) (hy : YieldsX P ops C o v a) {K : Act → World → Prop} {w : World} (hC : C w) (h : K (a.put o.dst v) w) : wpOp P ops Q i K a w := by
  unfold Go.wpOp
  simp only [hi]
  rcases hy with ⟨hw, hv⟩ | ⟨hw, rfl⟩
  · simp only [hw, if_true, Oper.wp, hv w hC, Oper.upon]; exact .inl h
  · simp only [hw, Bool.false_eq_true, if_false]; exact h

theorem YieldsX.of_same {o : Oper} {v : Value} {a a' : Act} (hy : YieldsX P ops C o v a) (he : execOp a'.eval o = execOp a.eval o)
    (hw : Region.wanted o (yielded ops a'.tmps) = Region.wanted o (yielded ops a.tmps)) : YieldsX P ops C o v a' := by
  unfold YieldsX at *
  rw [he, hw]
  exact hy

theorem wpOp_putX {j : Nat} {oi oj : Oper} {v : Value} (hj : ops[j]? = some oj) (hap : oi.apart ops oj = true)
    (hsi : ∀ cs b, oi.op ≠ .select cs b) (hsj : ∀ cs b, oj.op ≠ .select cs b)
    (hQ : ∀ c a w, Q (.panic c) (a.put oi.dst v) w → Q (.panic c) a w) {K : Act → World → Prop} {a : Act} {w : World}
    (hy : YieldsX P ops C oi v a) (h : wpOp P ops Q j K (a.put oi.dst v) w) :
    wpOp P ops Q j (fun a' w' => YieldsX P ops C oi v a' ∧ K (a'.put oi.dst v) w') a w := by
  obtain ⟨h1, h2, h3⟩ := Oper.apart_spec hap
  have keep : ∀ (a : Act), YieldsX P ops C oi v a → ∀ u, YieldsX P ops C oi v (a.put oj.dst u) := fun a hy u =>
    hy.of_same (execOp_put oi hsi a oj.dst u h3) (wanted_put oi a oj.dst u h3)
  have keepD : ∀ d, YieldsX P ops C oi v { a with defers := d :: a.defers } := fun d => hy.of_same rfl rfl
  unfold wpOp at *
  simp only [hj] at *
  rw [wanted_put oj a oi.dst v h1] at h
  split
  · rename_i hw
    simp only [hw, if_true] at h
    rcases h with h | ⟨hasks, hlets⟩
    case inr => exact .inr ⟨by unfold Oper.asks at *; rw [execOp_put oj hsj a oi.dst v h1] at hasks; exact hasks, hlets⟩
    refine .inl ?_
    unfold Oper.wp at *
    rw [execOp_put oj hsj a oi.dst v h1] at h
    generalize (execOp a.eval oj).run P w = r at *
    cases r with
    | ok n w' =>
      cases n <;> simp only [Oper.upon] at h ⊢
      case value u => exact ⟨keep a hy u, by rw [← Act.put_comm a v u h2]; exact h⟩
      case skip => exact ⟨keep a hy _, by rw [← Act.put_comm a v undef h2]; exact h⟩
      case defer d =>
        refine ⟨keep _ (keepD d) _, ?_⟩
        rw [← Act.put_comm _ v undef h2, ← Act.put_defers]
        exact h
      case enter f args =>
        refine Calls.mono h fun e w'' he => ?_
        cases e with
        | returned u => exact ⟨keep a hy u, by rw [← Act.put_comm a v u h2]; exact he⟩
        | panicked c => exact hQ _ _ _ he
        | outgrown => exact he
      case row row args => exact Rows.mono h fun u w'' he => ⟨keep a hy u, by rw [← Act.put_comm a v u h2]; exact he⟩
    | halt x w' =>
      cases x <;> simp only [Oper.upon] at h ⊢
      case panic u => exact hQ _ _ _ h
  · rename_i hw
    simp only [hw] at h
    exact ⟨keep a hy _, by rw [← Act.put_comm a v undef h2]; exact h⟩

def wpAnyC (P : Program) (md : Region.Mode) (ops : Array Oper) (C : World → Prop) (Q : Exit → Act → World → Prop) (n1 m : Nat) : Nat → Array Bool → Act → World → Prop
  | 0, listed, a, w => (∀ j, j < n1 → listed.getD j true = true) ∧ wpAny P md ops Q m listed a w
  | fuel + 1, listed, a, w => Region.ready md ops listed ≠ [] ∧ ∀ i ∈ Region.ready md ops listed, wpOp P ops Q i (fun a' w' => C w' ∧ wpAnyC P md ops C Q n1 m fuel (listed.setIfInBounds i true) a' w') a w

theorem wpAny_of_C {n1 m : Nat} : ∀ (f : Nat) (listed : Array Bool) (a : Act) (w : World), wpAnyC P md ops C Q n1 m f listed a w → wpAny P md ops Q (f + m) listed a w := by
  intro f
  induction f with
  | zero => intro listed a w h; rw [Nat.zero_add]; exact h.2
  | succ f ih =>
    intro listed a w h
    rw [show f + 1 + m = (f + m) + 1 by omega]
    exact ⟨fun h0 => absurd h0 h.1, fun i hi => wpOp_mono (fun _ _ h' => ih _ _ _ h'.2) (h.2 i hi)⟩

/-- whatever stands from n1 on waits for each operation below n1. -/
def phaseB (md : Region.Mode) (ops : Array Oper) (n1 : Nat) : Bool :=
  (List.range ops.size).all fun j => decide (j < n1) || (List.range n1).all fun i => Region.waitsFor md ops j i

theorem phase_ready {n1 i j : Nat} {listed : Array Bool} (hp : phaseB md ops n1 = true) (hi : i < n1) (hun : listed.getD i true = false) (hj : j ∈ Region.ready md ops listed) : j < n1 := by
  obtain ⟨_, oj, hoj, hall⟩ := mem_ready.1 hj
  have hlt : j < ops.size := (Array.getElem?_eq_some_iff.1 hoj).1
  have h1 := List.all_eq_true.1 hp j (List.mem_range.2 hlt)
  simp only [Bool.or_eq_true, decide_eq_true_eq] at h1
  rcases h1 with h1 | h1
  · exact h1
  · obtain ⟨o', ho', e, he, hb, hon⟩ := Region.waitsFor_spec (List.all_eq_true.1 h1 i (List.mem_range.2 hi))
    have : o' = oj := Option.some.inj (ho'.symm.trans hoj)
    subst this
    have h2 := hall e he hb
    rw [hon, getD_both hun] at h2
    cases h2

theorem wpAnyC_first {n1 m i : Nat} {oi : Oper} {v : Value} (hp : phaseB md ops n1 = true) (hin : i < n1) (hi : ops[i]? = some oi) (hsel : ∀ (j : Nat) (o : Oper) cs b, ops[j]? = some o → o.op ≠ .select cs b)
    (hQ : ∀ c a w, Q (.panic c) (a.put oi.dst v) w → Q (.panic c) a w) :
    ∀ (fuel : Nat) (listed : Array Bool) (a : Act) (w : World), C w →
      (∀ j oj, ops[j]? = some oj → j ≠ i → listed.getD j true = false → (∀ e ∈ oj.after, Region.binds md e = true → e.on ≠ i) → oi.apart ops oj = true) →
      i ∈ Region.ready md ops listed → YieldsX P ops C oi v a →
      wpAnyC P md ops C Q n1 m fuel (listed.setIfInBounds i true) (a.put oi.dst v) w → wpAnyC P md ops C Q n1 m (fuel + 1) listed a w := by
  intro fuel
  induction fuel with
  | zero =>
    intro listed a w hC _ hr hy H
    refine ⟨fun h => (by rw [h] at hr; cases hr), fun j hj => ?_⟩
    by_cases hji : j = i
    · subst hji; exact hy.wpOp hi hC ⟨hC, H⟩
    · have hjn := phase_ready hp hin (mem_ready.1 hr).1 hj
      have h1 := H.1 j hjn
      rw [getD_set_ne true (Ne.symm hji), (mem_ready.1 hj).1] at h1
      cases h1
  | succ fuel ih =>
    intro listed a w hC hfree hr hy H
    refine ⟨fun h => (by rw [h] at hr; cases hr), fun j hj => ?_⟩
    by_cases hji : j = i
    · subst hji; exact hy.wpOp hi hC ⟨hC, H⟩
    · have h1 := H.2 j (ready_mono hj hji)
      obtain ⟨hjun, oj, hoj, hall⟩ := mem_ready.1 hj
      have hnot : ∀ e ∈ oj.after, Region.binds md e = true → e.on ≠ i := fun e he hb heq => by
        have h1 := hall e he hb
        have h0 := (mem_ready.1 hr).1
        rw [heq] at h1
        rcases Nat.lt_or_ge i listed.size with h' | h'
        · simp [h'] at h0 h1; rw [h0] at h1; cases h1
        · simp [Array.getElem?_eq_none h'] at h1
      have h2 := wpOp_putX hoj (hfree j oj hoj hji hjun hnot) (fun cs b => hsel i oi cs b hi) (fun cs b => hsel j oj cs b hoj) hQ hy h1
      have hfree' : ∀ k ok, ops[k]? = some ok → k ≠ i → (listed.setIfInBounds j true).getD k true = false →
          (∀ e ∈ ok.after, Region.binds md e = true → e.on ≠ i) → oi.apart ops ok = true := fun k ok hk hki hun hno => by
        refine hfree k ok hk hki ?_ hno
        by_cases hjk : j = k
        · subst hjk; exact hjun
        · rw [getD_set_ne true hjk] at hun; exact hun
      refine wpOp_mono (fun a' w' h3 => ⟨h3.2.1, ih (listed.setIfInBounds j true) a' w' h3.2.1 hfree' (ready_mono hr (Ne.symm hji)) h3.1 ?_⟩) h2
      rw [Array.setIfInBounds_comm _ _ hji]
      exact h3.2.2

def qcB (md : Region.Mode) (ops : Array Oper) (n1 : Nat) : List Nat → Array Bool → Bool
  | [], _ => true
  | k :: p, L => decide (k < n1) && ((ops[k]?).map stillOp).getD false && (Region.ready md ops L).contains k && Region.free md ops L k && qcB md ops n1 p (L.setIfInBounds k true)
def mixcB (md : Region.Mode) (ops : Array Oper) (n1 : Nat) (s2 : List Stp) : List Stp → Array Bool → Bool
  | [], L => (List.range n1).all (fun j => L.getD j true) && mixB md ops s2 L
  | .q ks :: s, L => qcB md ops n1 ks L && mixcB md ops n1 s2 s (runSet L ks)
  | .f ks :: s, L => fB md ops ks L && mixcB md ops n1 s2 s (runSet L ks)
  | .p i j :: s, L => decide (Region.ready md ops L = [i, j]) && fB md ops [j] (runSet L [i]) && fB md ops [i] (runSet L [j]) && (ops[i]?).isSome && (ops[j]?).isSome && (runSet L [j, i] == runSet L [i, j]) && mixcB md ops n1 s2 s (runSet L [i, j])

/-- operations one by one, each of which keeps the class. -/
def wpSteps (P : Program) (ops : Array Oper) (C : World → Prop) (X : Act → World → Prop) : List Oper → Act → World → Prop
  | [], a, w => X a w
  | o :: rest, a, w => wpList P ops (contF fun a' w' => C w' ∧ wpSteps P ops C X rest a' w') [o] a w

def wpMixC (P : Program) (l : List Oper) (C : World → Prop) (Q : Exit → Act → World → Prop) (s2 : List Stp) : List Stp → Act → World → Prop
  | [], a, w => wpMix P l Q s2 a w
  | .q ks :: s, a, w => wpQuiet P l.toArray C (fun a' => wpMixC P l C Q s2 s a' w) (pick l ks) a
  | .f ks :: s, a, w => wpSteps P l.toArray C (wpMixC P l C Q s2 s) (pick l ks) a w
  | .p i j :: s, a, w => wpSteps P l.toArray C (wpMixC P l C Q s2 s) (pick l [i, j]) a w ∧ wpSteps P l.toArray C (wpMixC P l C Q s2 s) (pick l [j, i]) a w

theorem wpAnyC_q {l : List Oper} {Q : Exit → Act → World → Prop} {n1 m : Nat} (hp : phaseB md l.toArray n1 = true) (hQ : ∀ c a a' w, Q (.panic c) a w → Q (.panic c) a' w) (hsel : Region.noSelect l.toArray = true) {X : Act → World → Prop} {n : Nat} :
    ∀ (p : List Nat) (L : Array Bool) (a : Act) (w : World), C w → qcB md l.toArray n1 p L = true → (∀ a', X a' w → wpAnyC P md l.toArray C Q n1 m n (runSet L p) a' w) → wpQuiet P l.toArray C (fun a' => X a' w) (pick l p) a →
      wpAnyC P md l.toArray C Q n1 m (p.length + n) L a w := by
  intro p
  induction p with
  | nil => intro L a w hC hB h hx; rw [List.length_nil, Nat.zero_add]; exact h a hx
  | cons i p ih =>
    intro L a w hC hB h hx
    simp only [qcB, Bool.and_eq_true, decide_eq_true_eq] at hB
    obtain ⟨⟨⟨⟨hin, ho⟩, hr⟩, hf⟩, hB'⟩ := hB
    cases ho2 : l.toArray[i]? with
    | none => rw [ho2] at ho; cases ho
    | some o =>
      rw [ho2] at ho
      have hs1 : stillOp o = true := by simpa using ho
      have ho' : l[i]? = some o := by simpa using ho2
      rw [pick_cons ho'] at hx
      have hr' : i ∈ Region.ready md l.toArray L := by simpa using hr
      have hq : qOp P l.toArray C i (wpQuiet P l.toArray C (fun a' => X a' w) (pick l p)) a := by unfold qOp; simp only [ho2]; exact hx
      obtain ⟨v, hy, hK⟩ := yieldsX_of_quiet ho2 hs1 hq
      rw [List.length_cons, show p.length + 1 + n = (p.length + n) + 1 from by omega]
      exact wpAnyC_first hp hin ho2 (Region.noSelect_spec hsel) (fun c a w h => hQ c _ _ w h) _ L a w hC (Region.free_spec ho2 hf) hr' hy (ih _ _ _ hC hB' h hK)

theorem wpAnyC_f {l : List Oper} {Q : Exit → Act → World → Prop} {X : Act → World → Prop} {n n1 m : Nat} :
    ∀ (p : List Nat) (L : Array Bool) (a : Act) (w : World), C w → fB md l.toArray p L = true → (∀ a' w', C w' → X a' w' → wpAnyC P md l.toArray C Q n1 m n (runSet L p) a' w') → wpSteps P l.toArray C X (pick l p) a w →
      wpAnyC P md l.toArray C Q n1 m (p.length + n) L a w := by
  intro p
  induction p with
  | nil => intro L a w hC hB h hx; rw [List.length_nil, Nat.zero_add]; exact h a w hC hx
  | cons k p ih =>
    intro L a w hC hB h hx
    simp only [fB, Bool.and_eq_true, decide_eq_true_eq] at hB
    obtain ⟨⟨hr, ho⟩, hB'⟩ := hB
    obtain ⟨o, ho⟩ := Option.isSome_iff_exists.1 ho
    have ho' : l[k]? = some o := by simpa using ho
    rw [pick_cons ho'] at hx
    rw [List.length_cons, show p.length + 1 + n = (p.length + n) + 1 from by omega]
    refine ⟨fun h1 => (by rw [hr] at h1; cases h1), fun i hi => ?_⟩
    rw [hr] at hi
    have hik : i = k := by simpa using hi
    subst hik
    rw [wpSteps] at hx
    have hw : wpOp P l.toArray (contF fun a' w' => C w' ∧ wpSteps P l.toArray C X (pick l p) a' w') i (fun a' w' => C w' ∧ wpSteps P l.toArray C X (pick l p) a' w') a w := by
      unfold wpOp; simp only [ho]; exact hx
    exact wpOp_mono (fun a' w' h' => ⟨h'.1, ih _ _ _ h'.1 hB' h h'.2⟩) (wpOp_F hw)

theorem wpAnyC_mix {l : List Oper} {Q : Exit → Act → World → Prop} {n1 : Nat} {s2 : List Stp} (hp : phaseB md l.toArray n1 = true) (hQ : ∀ c a a' w, Q (.panic c) a w → Q (.panic c) a' w) (hsel : Region.noSelect l.toArray = true) :
    ∀ (s : List Stp) (L : Array Bool) (a : Act) (w : World), C w → mixcB md l.toArray n1 s2 s L = true → wpMixC P l C Q s2 s a w → wpAnyC P md l.toArray C Q n1 (lenS s2) (lenS s) L a w := by
  intro s
  induction s with
  | nil =>
    intro L a w hC hB h
    simp only [mixcB, Bool.and_eq_true] at hB
    exact ⟨fun j hj => List.all_eq_true.1 hB.1 j (List.mem_range.2 hj), wpAny_mix hQ hsel s2 L a w hB.2 h⟩
  | cons st s ih =>
    intro L a w hC hB h
    cases st with
    | q ks =>
      simp only [mixcB, Bool.and_eq_true] at hB
      exact wpAnyC_q hp hQ hsel (X := wpMixC P l C Q s2 s) ks L a w hC hB.1 (fun a' h' => ih _ _ _ hC hB.2 h') h
    | f ks =>
      simp only [mixcB, Bool.and_eq_true] at hB
      exact wpAnyC_f ks L a w hC hB.1 (fun a' w' hC' h' => ih _ _ _ hC' hB.2 h') h
    | p i j =>
      simp only [mixcB, Bool.and_eq_true, decide_eq_true_eq, beq_iff_eq] at hB
      obtain ⟨⟨⟨⟨⟨⟨hr, h1⟩, h2⟩, hi⟩, hj⟩, he⟩, hB'⟩ := hB
      obtain ⟨ha, hb⟩ := h
      show wpAnyC P md l.toArray C Q n1 (lenS s2) (2 + lenS s) L a w
      rw [show 2 + lenS s = (1 + lenS s) + 1 from by omega]
      refine ⟨fun h1 => (by rw [hr] at h1; cases h1), fun k hk => ?_⟩
      rw [hr] at hk
      rcases (by simpa using hk : k = i ∨ k = j) with rfl | rfl
      · obtain ⟨o, ho⟩ := Option.isSome_iff_exists.1 hi
        have ho' : l[k]? = some o := by simpa using ho
        rw [pick_cons ho', wpSteps] at ha
        have hw : wpOp P l.toArray (contF fun a' w' => C w' ∧ wpSteps P l.toArray C (wpMixC P l C Q s2 s) (pick l [j]) a' w') k (fun a' w' => C w' ∧ wpSteps P l.toArray C (wpMixC P l C Q s2 s) (pick l [j]) a' w') a w := by
          unfold wpOp; simp only [ho]; exact ha
        exact wpOp_mono (fun a' w' h' => ⟨h'.1, wpAnyC_f [j] _ a' w' h'.1 h1 (fun a'' w'' hC'' h'' => ih _ _ _ hC'' hB' h'') h'.2⟩) (wpOp_F hw)
      · obtain ⟨o, ho⟩ := Option.isSome_iff_exists.1 hj
        have ho' : l[k]? = some o := by simpa using ho
        rw [pick_cons ho', wpSteps] at hb
        have hw : wpOp P l.toArray (contF fun a' w' => C w' ∧ wpSteps P l.toArray C (wpMixC P l C Q s2 s) (pick l [i]) a' w') k (fun a' w' => C w' ∧ wpSteps P l.toArray C (wpMixC P l C Q s2 s) (pick l [i]) a' w') a w := by
          unfold wpOp; simp only [ho]; exact hb
        refine wpOp_mono (fun a' w' h' => ⟨h'.1, wpAnyC_f [i] _ a' w' h'.1 h2 (fun a'' w'' hC'' h'' => ?_) h'.2⟩) (wpOp_F hw)
        have := ih _ _ _ hC'' hB' h''
        rw [← he] at this
        exact this

def mixcAllB (l : List Oper) (n1 : Nat) (s s2 : List Stp) : Bool :=
  Region.noSelect l.toArray && phaseB .any l.toArray n1 && decide (lenS s + lenS s2 = l.length) && mixcB .any l.toArray n1 s2 s (Array.replicate l.length false)

theorem wp_mixC (C : World → Prop) {id : Nat} {a : Act} {w : World} {l : List Oper} (n1 : Nat) (s s2 : List Stp) (hm : P.follows .mixedOrders = true) (hB : mixcAllB l n1 s s2 = true) (hC : C w.drew)
    (h : ∀ Q' : Exit → Act → World → Prop, (∀ a w, Q .normal a w → Q' .normal a w) → wpMixC P l C Q' s2 s a w.drew) :
    (Code.region id l.toArray true).wp P Q a w := by
  simp only [mixcAllB, Bool.and_eq_true, decide_eq_true_eq] at hB
  obtain ⟨⟨⟨hsel, hp⟩, hlen⟩, hB⟩ := hB
  refine Code.wp_mono (Q := noPan Q) (fun e a w hq => by cases e <;> first | exact hq | exact (hq : False).elim) ?_
  refine wp_region_any hm ?_
  have := wpAny_of_C (C := C) _ _ _ _ (wpAnyC_mix (md := .any) (Q := noPan Q) hp (fun c a a' w hq => hq) hsel s (Array.replicate l.length false) a w.drew hC hB (h (noPan Q) fun _ _ h => h))
  rw [show lenS s + lenS s2 = l.toArray.size from by simp; omega] at this
  simpa using this
end

/-- a load of whatever a cell holds, in a class all of whose worlds hold it. -/
theorem run_load_cell {P : Program} {o : Oper} {a : Act} {w : World} {ty : TypeId} {x : Operand} {p : Addr} {v : Value} (ho : o.op = .load ty x) (hx : a.eval x = .pointer (some p)) (hd : ∀ w, (isAgg ty).run P w = .ok false w) (hc : w.cell? p = some v) :
    (execOp a.eval o).run P w = .ok (.value v) w := by
  unfold execOp
  simp only [ho, hx]
  simp [go_sem, hc, hd]
theorem quiet_cell {P : Program} {o : Oper} {a : Act} {C : World → Prop} {K : Act → Prop} {ty : TypeId} {x : Operand} {p : Addr} {v : Value} (hc : ∀ w, C w → w.cell? p = some v) (ho : o.op = .load ty x) (hx : a.eval x = .pointer (some p)) (hd : ∀ w, (isAgg ty).run P w = .ok false w)
    (hK : K (a.put o.dst v)) : o.quiet P a C K :=
  quiet_val v (fun w hw => run_load_cell ho hx hd (hc w hw)) hK

def aggB (P : Program) (ty : TypeId) : Bool := match P.underlying ty with | some (.struct _) | some (.array _ _) | none => true | _ => false
def yesB (P : Program) (ty : TypeId) (n : Nat) : Bool := (match P.underlying ty with | some (.struct _) | some (.array _ _) => true | _ => false) && ((P.info? ty).map (·.size) == some n)
theorem isAgg_no {P : Program} {ty : TypeId} (h : aggB P ty = false) (w : World) : (isAgg ty).run P w = .ok false w := by
  unfold aggB at h
  cases e : P.underlying ty with
  | none => rw [e] at h; cases h
  | some d =>
    rw [e] at h
    simp only [isAgg, Sem.run_bind, run_underlying e, Result.andThen_ok]
    split
    · cases h
    · cases h
    · rfl
theorem quiet_cellB {P : Program} {o : Oper} {a : Act} {B : Nat} {w0 : World} {K : Act → Prop} {ty : TypeId} {x : Operand} {b off : Nat} {v : Value} (ho : o.op = .load ty x) (hx : a.eval x = .pointer (some ⟨b, off, none⟩)) (hd : aggB P ty = false)
    (hc : w0.cell? ⟨b, off, none⟩ = some v) (hb : b < B) (hK : K (a.put o.dst v)) : o.quiet P a (fun w' => Below B w0 w') K :=
  quiet_val v (fun w hw => run_load_cell ho hx (isAgg_no hd) ((hw.cell (p := ⟨b, off, none⟩) hb).trans hc)) hK

theorem isAgg_yes {P : Program} {ty : TypeId} {n : Nat} (h : yesB P ty n = true) (w : World) : (isAgg ty).run P w = .ok true w ∧ (sizeOf ty).run P w = .ok n w := by
  simp only [yesB, Bool.and_eq_true, beq_iff_eq] at h
  obtain ⟨h1, h2⟩ := h
  constructor
  · cases e : P.underlying ty with
    | none => rw [e] at h1; cases h1
    | some d =>
      rw [e] at h1
      simp only [isAgg, Sem.run_bind, run_underlying e, Result.andThen_ok]
      split
      · rfl
      · rfl
      · rename_i h3 h4
        split at h1
        · rename_i _ _ e2; cases e2; exact (h3 _ rfl).elim
        · rename_i _ _ _ e2; cases e2; exact (h4 _ _ rfl).elim
        · cases h1
  · cases e : P.info? ty with
    | none => rw [e] at h2; cases h2
    | some i => rw [e] at h2; simp at h2; simp [sizeOf, run_typeInfo w e, h2]
theorem run_load_agg {P : Program} {o : Oper} {a : Act} {w : World} {ty : TypeId} {x : Operand} {p : Addr} (cs : List Value) (ho : o.op = .load ty x) (hx : a.eval x = .pointer (some p)) (hd : yesB P ty cs.length = true) (hc : ∀ j v, cs[j]? = some v → w.cell? (p.add j) = some v) :
    (execOp a.eval o).run P w = .ok (.value (.agg cs.toArray)) w := by
  have h := run_loadCells_list (P := P) w p cs hc
  unfold loadCells at h
  obtain ⟨h1, h2⟩ := isAgg_yes hd w
  unfold execOp
  simp only [ho, hx]
  simp [go_sem, h1, h2, h]
theorem quiet_agg2B {P : Program} {o : Oper} {a : Act} {B : Nat} {w0 : World} {K : Act → Prop} {ty : TypeId} {x : Operand} {b off : Nat} {v0 v1 : Value} (ho : o.op = .load ty x) (hx : a.eval x = .pointer (some ⟨b, off, none⟩)) (hd : yesB P ty 2 = true)
    (h0 : w0.cell? ⟨b, off, none⟩ = some v0) (h1 : w0.cell? ⟨b, off + 1, none⟩ = some v1) (hb : b < B) (hK : K (a.put o.dst (.agg #[v0, v1]))) : o.quiet P a (fun w' => Below B w0 w') K :=
  quiet_val _ (fun w hw => run_load_agg [v0, v1] ho hx hd (fun j v hj => by
    match j, hj with
    | 0, hj => cases hj; exact (hw.cell (p := ⟨b, off, none⟩) hb).trans h0
    | 1, hj => cases hj; exact (hw.cell (p := ⟨b, off + 1, none⟩) hb).trans h1
    | j + 2, hj => simp at hj)) hK
theorem quiet_agg3B {P : Program} {o : Oper} {a : Act} {B : Nat} {w0 : World} {K : Act → Prop} {ty : TypeId} {x : Operand} {b off : Nat} {v0 v1 v2 : Value} (ho : o.op = .load ty x) (hx : a.eval x = .pointer (some ⟨b, off, none⟩)) (hd : yesB P ty 3 = true)
    (h0 : w0.cell? ⟨b, off, none⟩ = some v0) (h1 : w0.cell? ⟨b, off + 1, none⟩ = some v1) (h2 : w0.cell? ⟨b, off + 2, none⟩ = some v2) (hb : b < B) (hK : K (a.put o.dst (.agg #[v0, v1, v2]))) : o.quiet P a (fun w' => Below B w0 w') K :=
  quiet_val _ (fun w hw => run_load_agg [v0, v1, v2] ho hx hd (fun j v hj => by
    match j, hj with
    | 0, hj => cases hj; exact (hw.cell (p := ⟨b, off, none⟩) hb).trans h0
    | 1, hj => cases hj; exact (hw.cell (p := ⟨b, off + 1, none⟩) hb).trans h1
    | 2, hj => cases hj; exact (hw.cell (p := ⟨b, off + 2, none⟩) hb).trans h2
    | j + 3, hj => simp at hj)) hK
theorem quiet_agg4B {P : Program} {o : Oper} {a : Act} {B : Nat} {w0 : World} {K : Act → Prop} {ty : TypeId} {x : Operand} {b off : Nat} {v0 v1 v2 v3 : Value} (ho : o.op = .load ty x) (hx : a.eval x = .pointer (some ⟨b, off, none⟩)) (hd : yesB P ty 4 = true)
    (h0 : w0.cell? ⟨b, off, none⟩ = some v0) (h1 : w0.cell? ⟨b, off + 1, none⟩ = some v1) (h2 : w0.cell? ⟨b, off + 2, none⟩ = some v2) (h3 : w0.cell? ⟨b, off + 3, none⟩ = some v3) (hb : b < B) (hK : K (a.put o.dst (.agg #[v0, v1, v2, v3]))) : o.quiet P a (fun w' => Below B w0 w') K :=
  quiet_val _ (fun w hw => run_load_agg [v0, v1, v2, v3] ho hx hd (fun j v hj => by
    match j, hj with
    | 0, hj => cases hj; exact (hw.cell (p := ⟨b, off, none⟩) hb).trans h0
    | 1, hj => cases hj; exact (hw.cell (p := ⟨b, off + 1, none⟩) hb).trans h1
    | 2, hj => cases hj; exact (hw.cell (p := ⟨b, off + 2, none⟩) hb).trans h2
    | 3, hj => cases hj; exact (hw.cell (p := ⟨b, off + 3, none⟩) hb).trans h3
    | j + 4, hj => simp at hj)) hK

theorem quiet_max {P : Program} {o : Oper} {a : Act} {C : World → Prop} {K : Act → Prop} {x y : Operand} {ts : Array TypeId} {m n r : Int} (ho : o.op = .call { callee := .builtin .max, args := #[x, y], argTypes := ts }) (hx : a.eval x = .int .i64 m) (hy : a.eval y = .int .i64 n)
    (hr : max m n = r) (hK : K (a.put o.dst (.int .i64 r))) : o.quiet P a C K :=
  quiet_val _ (fun w _ => by
    subst hr
    unfold execOp
    simp only [ho, resolve, invoke, builtin, Sem.run_bind, Sem.run_pure, Result.andThen_ok, List.map_toArray, List.map_cons, List.map_nil, hx, hy]
    simp [Builtin.max_, Builtin.max2, go_sem, Int.max_def]
    try (split <;> simp_all <;> omega)) hK
theorem quiet_len {P : Program} {o : Oper} {a : Act} {C : World → Prop} {K : Act → Prop} {x : Operand} {t1 e : TypeId} {ao : Option Addr} {n c : Nat} (ho : o.op = .call { callee := .builtin .len, args := #[x], argTypes := #[t1] }) (hx : a.eval x = .slice ao n c) (ht : P.underlying t1 = some (.slice e))
    (hK : K (a.put o.dst (.int .i64 n))) : o.quiet P a C K :=
  quiet_val _ (fun w _ => by
    unfold execOp
    simp only [ho, resolve, invoke, builtin, Sem.run_bind, Sem.run_pure, Result.andThen_ok, List.map_toArray, List.map_cons, List.map_nil, hx]
    simp [Builtin.len_, go_sem, run_underlying ht]) hK

end Go.Proofs.Ytlmdmpjfehpjeaa

