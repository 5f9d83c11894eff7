/- Texts of this claim, together. -/
import Derived.Test.YtfadkjcfjkmalaaGreatDoorLT5
import Derived.Test.YtfadkjcfjkmalaaGreatDoorLT1
import Derived.StillTail
import Derived.Deep.AppendLies
import Derived.Laws.AppendOwnNone
import Derived.Laws.CopyOwn
import Derived.Laws.NewBlocks
import Derived.ProofKit
import Derived.OpenShut
import Derived.ShutString
import Derived.ChangeOld
import Derived.Below
import Derived.Lib.SmallJoins

set_option maxRecDepth 100000
set_option linter.unusedVariables false
set_option linter.unusedSimpArgs false
namespace Go.Proofs.YtfadkjcfjkmalaaGreatDoor.Ev
open Go.RowKit
variable {P : Program} {T : Tab} {S : Sum} {ann : Ann} {J : Inv} {l0 n : Nat} {y : Nat → List TV} {keep : List (Nat × DV)} {wc W : World} {N : Nat → Prop} {J0 : Nat → World → Prop} {Jx : Unit → World → Prop} {ov : Nat → Value}
def YA (keep : List (Nat × DV)) (wc W : World) (N : Nat → Prop) (J0 : Nat → World → Prop) (Jx : Unit → World → Prop) (ov : Nat → Value) (st : DS) (a : Act) (w : World) (g : Option Nat) : Prop :=
 a.defers = [] ∧ (∀ i d, q4u i keep = some d → a.tmps[i]? = some (ov i)) ∧ ∃ w0 N0 M, Abs w0 N0 q0w M st a w ∧ (match g with
  | some i => J0 i w0 ∧ W.heap.size ≤ w0.heap.size ∧ ∀ b, b < wc.heap.size → N b → w0.heap[b]? = W.heap[b]?
  | none => Jx () w0)
structure YC (P : Program) (l0 n : Nat) (y : Nat → List TV) (keep : List (Nat × DV)) (wc W : World) (N : Nat → Prop) (J0 : Nat → World → Prop) (Jx : Unit → World → Prop) (ov : Nat → Value) : Prop where
 hb : Below wc.heap.size wc W
 hJ : AbidesFrom W.heap.size J0
 hgJ : ∀ i W, J0 i W → Gd W
 hgX : ∀ W, Jx () W → Gd W
 hY : ∀ i W1, i < n → J0 i W1 → YieldAt Fence.wide 0 P l0 ((y i).map q1F).toArray W1 fun e W' => (e = .returned (.bool true) ∧ J0 (i + 1) W' ∧ W1.heap.size ≤ W'.heap.size ∧ ∀ b, b < wc.heap.size → N b → W'.heap[b]? = W1.heap[b]?) ∨ (e = .returned (.bool false) ∧ Jx () W')
 hk : ∀ i d, q4u i keep = some d → RelD (RelF wc N) d (ov i)
theorem q9M {w w' : World} (h : Below w.heap.size w w') : w.grownBy w' none := ⟨h.os, h.tape, h.output, h.size, fun k hk _ => h.block k hk⟩
theorem flatT_val {w : World} {N : Nat → Prop} {M : Map} : ∀ {x : TV} {v : Value}, flatY x = true → RelT (RelC w N M) x v → v = q1F x
 | .c (.v x), v, _, g => g.1
 | .c (.sl ..), _, h, _ | .c (.px ..), _, h, _ | .c (.os _), _, h, _ | .c (.p ..), _, h, _ | .c (.pe ..), _, h, _ | .c (.ob ..), _, h, _ | .c (.er _), _, h, _ | .c .any, _, h, _ => by cases h
 | .a l, v, h, g => by
  obtain ⟨vs, rfl, g⟩ := g
  have : ∀ {l : List CV} {vs : List Value}, q0b l = true → All2 (RelC w N M) l vs → vs = l.map qdY := by
   intro l
   induction l with
   | nil => intro vs _ g; cases vs with
    | nil => rfl
    | cons _ _ => exact g.elim
   | cons x l ih =>
    intro vs h g
    cases vs with
    | nil => exact g.elim
    | cons v vs =>
     simp only [q0b, Bool.and_eq_true] at h
     have e : v = qdY x := by
      cases x with
      | v z => exact g.1.1
      | _ => simp [q4s] at h
     rw [e, ih h.2 g.2]; rfl
  rw [this h g]; rfl
 | .fn f l, v, h, g => by cases h
 | .fb f l, v, h, g => by cases h
theorem qg5 {w : World} {N : Nat → Prop} {M : Map} : ∀ {l : List TV} {vs : List Value}, qdG l = true → All2 (RelT (RelC w N M)) l vs → vs = l.map q1F
 | [], [], _, _ => rfl
 | x :: l, v :: vs, h, g => by
  simp only [qdG, Bool.and_eq_true] at h
  rw [flatT_val h.1 g.1, qg5 h.2 g.2]; rfl
 | [], _ :: _, _, g => g.elim
 | _ :: _, [], _, g => g.elim
theorem tts_rel {R : CV → Value → Prop} : ∀ {ds : List DV} {l : List TV} {vs : List Value}, tts ds = some l → All2 (RelD R) ds vs → All2 (RelT R) l vs
 | [], l, [], h, _ => by cases h; trivial
 | .t x :: ds, l, v :: vs, h, g => by
  simp only [tts, Option.map_eq_some_iff] at h
  obtain ⟨l', h1, rfl⟩ := h
  exact ⟨g.1, tts_rel h1 g.2⟩
 | .tu _ :: _, l, _ :: _, h, _ => by simp [tts] at h
 | [], _, _ :: _, _, g => g.elim
 | _ :: _, _, [], _, g => g.elim
theorem qjP (keep : List (Nat × DV)) : ∀ (l : List (Option DV)) (k i : Nat), ((rebT keep k l)[i]?).join = if i < l.length then (match q4u (k + i) keep with | some d => some d | none => match (l[i]?).join with | some d => bif q1D d then some d else none | none => none) else none
 | [], k, i => by simp [rebT]
 | x :: l, k, 0 => by
  simp only [rebT, List.getElem?_cons_zero, Nat.add_zero, List.length_cons, Nat.zero_lt_succ, if_true]
  cases q4u k keep with
  | some d => rfl
  | none => cases x with
   | none => rfl
   | some d => rfl
 | x :: l, k, i + 1 => by
  simp only [rebT, List.getElem?_cons_succ, qjP keep l (k + 1) i, List.length_cons, Nat.add_lt_add_iff_right]
  rw [show k + 1 + i = k + (i + 1) by omega]
theorem qjQ (keep : List (Nat × DV)) : ∀ (l : List (Option DV)) (k : Nat), (rebT keep k l).length = l.length
 | [], k => rfl
 | x :: l, k => by simp [rebT, qjQ keep l]
theorem flat_cv {w w' : World} {N N' : Nat → Prop} {M M' : Map} {x : CV} {v : Value} (h : q4s x = true) (g : RelC w N M x v) : RelC w' N' M' x v := by
 cases x with
 | v y => exact g
 | _ => cases h
theorem qbn {w w' : World} {N N' : Nat → Prop} {M M' : Map} : ∀ {l : List CV} {vs : List Value}, q0b l = true → All2 (RelC w N M) l vs → All2 (RelC w' N' M') l vs
 | [], [], _, _ => trivial
 | x :: l, v :: vs, h, g => by
  simp only [q0b, Bool.and_eq_true] at h
  exact ⟨flat_cv h.1 g.1, qbn h.2 g.2⟩
 | [], _ :: _, _, g => g.elim
 | _ :: _, [], _, g => g.elim
theorem flat_tv {w w' : World} {N N' : Nat → Prop} {M M' : Map} {x : TV} {v : Value} (h : q9E x = true) (g : RelT (RelC w N M) x v) : RelT (RelC w' N' M') x v := by
 cases x with
 | c x => exact flat_cv h g
 | a l => obtain ⟨vs, e, g⟩ := g; exact ⟨vs, e, qbn h g⟩
 | fn f l => obtain ⟨vs, e, g⟩ := g; exact ⟨vs, e, qbn h g⟩
 | fb f l => obtain ⟨vs, e, g⟩ := g; exact ⟨vs, e, qbn h g⟩
theorem qjR {w w' : World} {N N' : Nat → Prop} {M M' : Map} : ∀ {l : List TV} {vs : List Value}, q1x l = true → All2 (RelT (RelC w N M)) l vs → All2 (RelT (RelC w' N' M')) l vs
 | [], [], _, _ => trivial
 | x :: l, v :: vs, h, g => by
  simp only [q1x, Bool.and_eq_true] at h
  exact ⟨flat_tv h.1 g.1, qjR h.2 g.2⟩
 | [], _ :: _, _, g => g.elim
 | _ :: _, [], _, g => g.elim
theorem flat_up {w w' : World} {N N' : Nat → Prop} {M M' : Map} {x : DV} {v : Value} (h : q1D x = true) (g : RelD (RelC w N M) x v) : RelD (RelC w' N' M') x v := by
 cases x with
 | t x => exact flat_tv h g
 | tu l => obtain ⟨vs, e, g⟩ := g; exact ⟨vs, e, qjR h g⟩
theorem Abs.reb {w0 : World} {N0 : Nat → Prop} {M : Map} {st : DS} {a : Act} {w w' : World} (ha : Abs w0 N0 q0w M st a w) (hd : a.defers = []) (hG : Gd w') (hk : ∀ i d, q4u i keep = some d → a.tmps[i]? = some (ov i) ∧ RelD (RelF w' N) d (ov i)) : Abs w' N q0w (fun _ => none) (rebS keep st) a w' := by
 refine ⟨Below.refl _ _, by simp [rebS, qjQ, ha.fits], by rw [hd]; exact Marks.nil hG, fun i dv h => ?_, fun k r h => ?_, fun _ _ => rfl, (fun k l b h _ => by cases h), (fun k k' r r' l l' b _ _ _ _ h _ _ _ => by cases h), (fun _ _ h => h.elim), (fun _ h => h.elim), (fun _ _ h => by cases h), (fun _ _ _ _ => Nat.zero_le _)⟩
 ·unfold DS.tm rebS at h
  simp only at h
  rw [qjP] at h
  split at h
  ·rename_i hlt
   simp only [Nat.zero_add] at h
   cases e : q4u i keep with
   | some d =>
    obtain ⟨h1, h2⟩ := hk i d e
    rw [e] at h
    cases h
    exact ⟨_, h1, RelD.mono (fun x v g => RelC.ofF (RelF.mono (Nat.le_refl _) (fun _ _ _ _ => rfl) (fun b hb _ => ⟨fun _ => hb, fun _ _ h => by cases h⟩) x g)) h2⟩
   | none =>
    rw [e] at h
    simp only at h
    cases e2 : (st.t[i]?).join with
    | none => rw [e2] at h; cases h
    | some d =>
     rw [e2] at h
     simp only at h
     cases e3 : q1D d with
     | false => rw [e3] at h; cases h
     | true =>
      obtain ⟨v, h1, h2⟩ := ha.tmp i d e2
      rw [e3] at h
      cases h
      exact ⟨v, h1, flat_up e3 h2⟩
  ·cases h
 ·unfold DS.at rebS at h
  simp only [List.getElem?_replicate] at h
  split at h <;> cases h
theorem run_yldC {a : Act} {w : World} {o : Oper} {c : Call} (ho : o.op = .call c) {f : Operand} (hc : c.callee = .value f) {l : Nat} (hg : a.eval f = .func (.yield l) #[] #[]) {args : List Value} (hargs : c.args.toList.map a.eval = args) {X : Result Next} (hX : (Instr.yield l args.toArray).run P w = X) : (execOp a.eval o).run P w = X := by
 have : c.args.map a.eval = args.toArray := by
  apply Array.toList_inj.1; simpa using hargs
 unfold execOp
 simp only [ho, resolve, hc, hg, Deferred.ofValue, Sem.run_bind, Sem.run_pure, Result.andThen_ok, invoke, Array.empty_append, this]
 simpa using hX
theorem q5L (hT : TabOK P T) (hS : Valid P S) (C : YC P l0 n y keep wc W N J0 Jx ov) {ops : Array Oper} {Q : Exit → Act → World → Prop} {k : Option Nat → DS → Prop} (hQ : ∀ g st' a' w', k g st' → YA keep wc W N J0 Jx ov st' a' w' g → Q .normal a' w') : ∀ (l : List Oper), (∀ o ∈ l, qdH keep o = true) → ∀ {st : DS} {a : Act} {w : World} {g : Option Nat}, YA keep wc W N J0 Jx ov st a w g → qb5 P T S l0 n y keep ops.toList l st g k → wpListIn Fence.wide 0 P ops Q l a w
  | [], _, st, a, w, g, ha, h => hQ _ _ _ _ h ha
  | o :: l, hk, st, a, w, g, ha, h => by
    have hko := hk o (by simp)
    have hrest : ∀ o' ∈ l, qdH keep o' = true := fun o' ho' => hk o' (by simp [ho'])
    have hdst : ∀ i d, q4u i keep = some d → o.dst ≠ some i := by
      intro i d hf e
      unfold qdH at hko
      rw [e] at hko
      simp [hf] at hko
    have hnd : ∀ c, o.op ≠ .defer c := by
      unfold qdH at hko
      simp only [Bool.and_eq_true] at hko
      exact ndef_ok hko.1
    have normal : evOp P T S ops.toList q6m o st (fun st' => qb5 P T S l0 n y keep ops.toList l st' g k) → wpListIn Fence.wide 0 P ops Q (o :: l) a w := by
      intro h
      rw [q1M] at h
      obtain ⟨p, st', h1, h2, h3⟩ := h
      obtain ⟨hd, hov, w0, N0, M, hA, hg⟩ := ha
      have := step_fr hT hS hA h1 h2 (l := [o]) (by simp) (K := fun a' w' => wpListIn Fence.wide 0 P ops Q l a' w') (Q := Q) (fun M' a' w' hA' hfr => q5L hT hS C hQ l hrest ⟨hfr.2.trans hd, fun i d hf => (hfr.1 i (by simpa using hdst i d hf)).trans (hov i d hf), w0, N0, M', hA', hg⟩ h3)
      exact this
    simp only [qb5] at h
    split at h
    · rename_i c l' hy hw
      obtain ⟨hd, hov, w0, N0, M, hA, hg⟩ := ha
      have hwant := qhq hA hw
      unfold yldE at h
      split at h
      · rename_i i ls hds
        cases hfl : qdG ls with
        | false => rw [hfl] at h; exact h.elim
        | true =>
        rw [hfl] at h
        simp only [Bool.not_true, cond_false] at h
        obtain ⟨⟨hl0, hi, hls⟩, hT', hF'⟩ := h
        simp only [Option.bind_eq_some_iff] at hds
        obtain ⟨ds, hds1, hds2⟩ := hds
        unfold yldC at hy
        split at hy
        case h_2 => cases hy
        rename_i c' hop
        split at hy
        case h_2 => cases hy
        rename_i f hcal
        split at hy
        case h_2 => cases hy
        rename_i d hf
        simp only [Option.map_eq_some_iff, Prod.mk.injEq] at hy
        obtain ⟨l2, hl2, rfl, rfl⟩ := hy
        have hgv : a.eval f = .func (.yield l0) #[] #[] := by
          have g1 := qw hA hf
          rw [← hl0]
          unfold isYld at hl2
          split at hl2
          · cases hl2; exact g1.1
          · cases hl2
        have hvals := qg5 hfl (tts_rel hds2 (q6A hA hds1))
        have hJw : J0 i w := C.hJ i w0 w none hg.1 (q9M hA.below) (fun r e => by cases e)
        obtain ⟨fn, tmps, assign, body, hrun, hround⟩ := C.hY i w hi hJw
        rw [← hls] at hrun
        have hx := run_yldC (P := P) hop hcal hgv hvals hrun
        show if _ then _ else _
        rw [hwant, if_pos rfl]
        unfold Oper.wpIn
        refine ⟨fun f _ => trivial, ?_⟩
        rw [Oper.semAt_eq _ _ _ hnd, hx]
        refine ⟨(fun h => by cases h), hround.mono ?_⟩
        have hsz := hg.2.1
        have hsw : wc.heap.size ≤ w0.heap.size := Nat.le_trans C.hb.size hsz
        have hsA := hA.below.size
        have hov' : ∀ (v : Value) i d, q4u i keep = some d → (a.put o.dst v).tmps[i]? = some (ov i) := fun v i d hf => by
          rw [qhi, if_neg (fun h => hdst i d hf h.1)]; exact hov i d hf
        rintro e w' (⟨rfl, hj, hs2, hkp⟩ | ⟨rfl, hj⟩)
        · have hkn : ∀ b, b < wc.heap.size → N b → w'.heap[b]? = W.heap[b]? := fun b hb hN => by
            rw [hkp b hb hN, hA.below.block b (by omega)]; exact hg.2.2 b hb hN
          have hreb := hA.reb (keep := keep) (ov := ov) (w' := w') (N := fun b => b < wc.heap.size ∧ N b) hd (C.hgJ _ _ hj) fun i d hf => ⟨hov i d hf, RelD.mono (fun x v g => RelF.mono (w := wc) (N := N) (by omega) (fun b hN hb off => by
                have e1 : w'.heap[b]? = wc.heap[b]? := (hkn b hb hN).trans (C.hb.block b hb)
                exact World.cell?_of_block (w := wc) (a := ⟨b, off, none⟩) e1) (fun b hN hb => ⟨hb, hN⟩) x g) (C.hk i d hf)⟩
          refine q5L hT hS C hQ l hrest (g := some (i + 1)) ⟨by rw [q4X]; exact hd, hov' _, w', _, _, hreb.putV o.dst (x := .t (.c (.v (.bool true)))) ⟨rfl, rfl⟩, hj, by omega, hkn⟩ hT'
        · have hreb := hA.reb (keep := []) (ov := ov) (w' := w') (N := fun _ => True) hd (C.hgX _ hj) fun i d hf => by cases hf
          refine q5L hT hS C hQ l hrest (g := none) ⟨by rw [q4X]; exact hd, hov' _, w', _, _, hreb.putV o.dst (x := .t (.c (.v (.bool false)))) ⟨rfl, rfl⟩, hj⟩ hF'
      · exact h.elim
    · exact normal h
theorem YA.tidyB {st st' : DS} {a : Act} {w : World} {g : Option Nat} (ha : YA keep wc W N J0 Jx ov st a w g) {hd : Hd} {bx : List Bx} (h : tidyB hd bx st = some st') : YA keep wc W N J0 Jx ov st' a w g := by
 obtain ⟨hd', hov, w0, N0, M, hA, hg⟩ := ha
 obtain ⟨M', hA'⟩ := hA.tidyB (by intro k l h; cases h) h
 exact ⟨hd', hov, w0, N0, M', hA', hg⟩
theorem YA.eval {st : DS} {a : Act} {w : World} {g : Option Nat} (ha : YA keep wc W N J0 Jx ov st a w g) {c : Operand} {t : Bool} (h : opv st c = some (.t (.c (.v (.bool t))))) : a.eval c = .bool t := by
 obtain ⟨hd', hov, w0, N0, M, hA, hg⟩ := ha
 exact (qw hA h).1
theorem q3R (hT : TabOK P T) (hS : Valid P S) (C : YC P l0 n y keep wc W N J0 Jx ov) : ∀ (c : Code) {b : Nat} {F : List Nat} {kn : Option Nat → DS → Prop} {ke : Nat → Option Nat → DS → Prop} {kr : Option Nat → DS → Prop} {Kn : List Nat → Option Nat → DS → Prop} {Ke : List Nat → Nat → Option Nat → DS → Prop} {Kr : List Nat → Option Nat → DS → Prop} {Q : Exit → Act → World → Prop} {st : DS} {a : Act} {w : World} {g : Option Nat},
  okY ann keep c b = true → AllY J (q3t P T S ann J l0 n y keep c b Kn Ke Kr) → Kn F = kn → Ke F = ke → Kr F = kr → YA keep wc W N J0 Jx ov st a w g →
  (∀ g st' a' w', kn g st' → YA keep wc W N J0 Jx ov st' a' w' g → Q .normal a' w') → (∀ i g st' a' w', ke i g st' → YA keep wc W N J0 Jx ov st' a' w' g → Q (.exit i) a' w') → (∀ g st' a' w', kr g st' → YA keep wc W N J0 Jx ov st' a' w' g → Q .ret a' w') →
  evY P T S ann J l0 n y keep c b F kn ke kr g st → c.wpIn Fence.wide 0 P Q a w
 | .skip, b, F, kn, ke, kr, Kn, Ke, Kr, Q, st, a, w, g, hok, hL, e1, e2, e3, ha, hn, he, hr, h => wpIn_skip (hn _ _ _ _ h ha)
 | .exit i, b, F, kn, ke, kr, Kn, Ke, Kr, Q, st, a, w, g, hok, hL, e1, e2, e3, ha, hn, he, hr, h => wpIn_exit (he i _ _ _ _ h ha)
 | .ret, b, F, kn, ke, kr, Kn, Ke, Kr, Q, st, a, w, g, hok, hL, e1, e2, e3, ha, hn, he, hr, h => wpIn_ret (hr _ _ _ _ h ha)
 | .region id ops draw, b, F, kn, ke, kr, Kn, Ke, Kr, Q, st, a, w, g, hok, hL, e1, e2, e3, ha, hn, he, hr, h => by
  simp only [okY, Bool.and_eq_true, Bool.not_eq_true'] at hok
  obtain ⟨hk, rfl⟩ := hok
  exact wpIn_region_list (q5L hT hS C hn ops.toList (fun o ho => List.all_eq_true.1 hk o ho) ha h)
 | .seq x z, b, F, kn, ke, kr, Kn, Ke, Kr, Q, st, a, w, g, hok, hL, e1, e2, e3, ha, hn, he, hr, h => by
  simp only [okY, Bool.and_eq_true] at hok
  simp only [q3t, q9L] at hL
  refine wpIn_seq (q3R hT hS C x (b := b) (F := F) hok.1 hL.1 (by rw [e1, e2, e3]) e2 e3 ha (fun g st' a' w' h' ha' => ?_) (fun i g st' a' w' h' ha' => he i _ _ _ _ h' ha') (fun g st' a' w' h' ha' => hr _ _ _ _ h' ha') h)
  exact q3R hT hS C z hok.2 hL.2 e1 e2 e3 ha' hn he hr h'
 | .cond c x z, b, F, kn, ke, kr, Kn, Ke, Kr, Q, st, a, w, g, hok, hL, e1, e2, e3, ha, hn, he, hr, h => by
  simp only [okY, Bool.and_eq_true] at hok
  simp only [q3t, q9L] at hL
  simp only [evY] at h
  split at h
  ·rename_i t hc
   have hv := ha.eval hc
   cases t with
   | true => exact wpIn_cond_true hv (q3R hT hS C x hok.1 hL.1 e1 e2 e3 ha hn he hr h)
   | false => exact wpIn_cond_false hv (q3R hT hS C z hok.2 hL.2 e1 e2 e3 ha hn he hr h)
  ·exact h.elim
 | .block id x, b, F, kn, ke, kr, Kn, Ke, Kr, Q, st, a, w, g, hok, hL, e1, e2, e3, ha, hn, he, hr, h => by
  simp only [okY] at hok
  simp only [evY] at h
  simp only [q3t] at hL
  refine wpIn_block (q3R hT hS C x (b := id) (F := F) hok hL e1 (by rw [e1, e2]) e3 ha (fun g st' a' w' h' ha' => hn _ _ _ _ h' ha') (fun i g st' a' w' h' ha' => ?_) (fun g st' a' w' h' ha' => hr _ _ _ _ h' ha') h)
  simp only [Exit.inBlock]
  cases e : Nat.beq i id with
  | true =>
   rw [e] at h'
   rw [if_pos (Nat.eq_of_beq_eq_true e)]
   exact hn _ _ _ _ h' ha'
  | false =>
   rw [e] at h'
   rw [if_neg (fun h2 => by rw [h2, Nat.beq_refl] at e; cases e)]
   exact he i _ _ _ _ h' ha'
 | .loop x, b, F, kn, ke, kr, Kn, Ke, Kr, Q, st, a, w, g, hok, hL, e1, e2, e3, ha, hn, he, hr, h => by
  simp only [okY, Bool.and_eq_true] at hok
  simp only [evY] at h
  split at h
  ·rename_i hd c hl
   simp only [q3t, hl, AllY] at hL
   obtain ⟨⟨hz, hs⟩, hin⟩ := hL
   split at h
   ·rename_i s hts
    obtain ⟨m, hJ⟩ := h
    have key : ∀ (m : Nat) {c : Nat} {st : DS} {a : Act} {w : World}, YA keep wc W N J0 Jx ov st a w (some c) → J b (c :: m :: F) st → Code.roundsIn Fence.wide 0 P x Q m a w := by
     intro m
     induction m with
     | zero => intro c st a w ha h; exact (hz c F st h).elim
     | succ m ih =>
      intro c st a w ha h
      have h1 := hs c m F st h
      simp only [List.tail_cons] at h1
      rw [roundsIn_succ]
      rw [e2, e3] at h1
      refine q3R hT hS C x (F := m :: F) hok.2 hin rfl (by simpa using e2) (by simpa using e3) ha (fun g st' a' w' h' ha' => ?_) (fun i g st' a' w' h' ha' => he i _ _ _ _ h' ha') (fun g st' a' w' h' ha' => hr _ _ _ _ h' ha') h1
      unfold againY at h'
      split at h'
      ·rename_i c' s2 hs2
       exact ih (ha'.tidyB hs2) h'
      ·exact h'.elim
    exact wpIn_loop_rounds m (key m (ha.tidyB hts) hJ)
   ·exact h.elim
  ·exact h.elim
 | .rangeFunc .., _, _, _, _, _, _, _, _, _, _, _, _, _, _, _, _, _, _, _, _, _, _, h | .scope _, _, _, _, _, _, _, _, _, _, _, _, _, _, _, _, _, _, _, _, _, _, _, h | .label _, _, _, _, _, _, _, _, _, _, _, _, _, _, _, _, _, _, _, _, _, _, _, h
 | .goto _, _, _, _, _, _, _, _, _, _, _, _, _, _, _, _, _, _, _, _, _, _, _, h | .refuse _, _, _, _, _, _, _, _, _, _, _, _, _, _, _, _, _, _, _, _, _, _, _, h => h.elim
def endY (n : Nat) (g : Option Nat) (_ : DS) : Prop := match g with
 | some i => i = n
 | none => True
def evIt (P : Program) (T : Tab) (S : Sum) (ann : Ann) (J : Inv) (l0 n : Nat) (y : Nat → List TV) (keep : List (Nat × DV)) (fn : Func) (caps : List DV) : Prop := match fn.body with
 | some c => evY P T S ann J l0 n y keep c 0 [] (endY n) (fun _ _ _ => False) (endY n) (some 0) (start (.t (.c (.v (.func (.yield l0) #[] #[]))) :: caps) fn.ntmps)
 | none => False
def q8j (P : Program) (T : Tab) (S : Sum) (ann : Ann) (J : Inv) (l0 n : Nat) (y : Nat → List TV) (keep : List (Nat × DV)) (fn : Func) : List (Nat × (Nat → List Nat → DS → Prop)) := match fn.body with
 | some c => q3t P T S ann J l0 n y keep c 0 (fun _ => endY n) (fun _ _ _ _ => False) (fun _ => endY n)
 | none => []
def qhV (P : Program) (T : Tab) (S : Sum) (ann : Ann) (J : Inv) (l0 n : Nat) (y : Nat → List TV) (keep : List (Nat × DV)) (fn : Func) (i c : Nat) (F : List Nat) (s : DS) : Prop := match (q8j P T S ann J l0 n y keep fn)[i]? with
 | some (_, G) => G c F s
 | none => True
def okIt (ann : Ann) (keep : List (Nat × DV)) (fn : Func) : Bool := fn.results.toList.isEmpty && (match fn.body with
 | some c => okY ann keep c 0
 | none => false)
end Go.Proofs.YtfadkjcfjkmalaaGreatDoor.Ev
namespace Go.Proofs.YtfadkjcfjkmalaaGreatDoor.Ev
open Go.RowKit
def q0W : Nat → List CV → List (Nat × DV)
 | _, [] => []
 | i, x :: l => (i, .t (.c x)) :: q0W (i + 1) l
theorem qbo : ∀ {l : List CV} {k i : Nat} {d : DV}, q4u i (q0W k l) = some d → ∃ x, k ≤ i ∧ l[i - k]? = some x ∧ d = .t (.c x)
 | [], k, i, d, h => by cases h
 | x :: l, k, i, d, h => by
  simp only [q0W, q4u] at h
  cases e : Nat.beq i k with
  | true =>
   rw [e] at h
   cases h
   have := Nat.eq_of_beq_eq_true e
   subst this
   exact ⟨x, Nat.le_refl _, by simp, rfl⟩
  | false =>
   rw [e] at h
   obtain ⟨z, h1, h2, h3⟩ := qbo (l := l) h
   refine ⟨z, by omega, ?_, h3⟩
   rw [show i - k = (i - (k + 1)) + 1 by omega]
   simpa using h2
theorem qiv {w : World} {N : Nat → Prop} : ∀ {l : List CV} {vs : List Value}, All2 (RelF w N) l vs → All2 (RelD (RelF w N)) (l.map fun x => DV.t (.c x)) vs
 | [], [], _ => trivial
 | x :: l, v :: vs, h => ⟨h.1, qiv h.2⟩
 | [], _ :: _, h => h.elim
 | _ :: _, [], h => h.elim
theorem it_sound {P : Program} {T : Tab} {S : Sum} (hT : TabOK P T) (hS : Valid P S) {ann : Ann} {f : FuncId} {fn : Func} (hf : P.funcs[f]? = some fn) {n : Nat} {y : Nat → List TV} {l : List CV} (hok : okIt ann (q0W 1 l) fn = true) (hlen : l.length + 1 ≤ fn.ntmps)
  (h : ∀ l0, ∃ J : Inv, evIt P T S ann J l0 n y (q0W 1 l) fn (l.map fun x => .t (.c x)) ∧ AllY J (q8j P T S ann J l0 n y (q0W 1 l) fn))
  (w : World) (N : Nat → Prop) (vs : List Value) (hargs : All2 (RelF w N) l vs) : SeqIt P f #[] vs.toArray n (fun i => ((y i).map q1F).toArray) (fun A B => A.heap.size ≤ B.heap.size ∧ ∀ b, b < w.heap.size → N b → B.heap[b]? = A.heap[b]?) w := by
 intro l0 J0 Jx W hb hJ hJx hgJ hgX hY h0
 obtain ⟨J, h, hL⟩ := h l0
 have hvl := hargs.length
 have hW := hb.size
 unfold okIt at hok
 unfold evIt at h
 unfold q8j at hL
 simp only [Bool.and_eq_true] at hok
 obtain ⟨hres, hok⟩ := hok
 cases hbd : fn.body with
 | none => rw [hbd] at h; exact h.elim
 | some c =>
 rw [hbd] at h hL hok
 simp only at h hL hok
 let ov : Nat → Value := fun i => (vs[i - 1]?).getD undef
 have hC : YC P l0 n y (q0W 1 l) w W N J0 Jx ov := by
  refine ⟨hb, hJ, hgJ, hgX, hY, fun i d hd => ?_⟩
  obtain ⟨x, h1, h2, rfl⟩ := qbo hd
  obtain ⟨v, e1, e2⟩ := hargs.get h2
  show RelF w N x ((vs[i - 1]?).getD undef)
  rw [e1]; exact e2
 have hargs2 : All2 (RelD (RelF W fun b => b < w.heap.size ∧ N b)) (.t (.c (.v (.func (.yield l0) #[] #[]))) :: l.map fun x => DV.t (.c x)) (.func (.yield l0) #[] #[] :: vs) :=
  ⟨⟨rfl, rfl⟩, qiv (hargs.mono fun x v g => RelF.mono (w := w) (N := N) hW (fun b _ hlt off => World.cell?_of_block (w := w) (a := ⟨b, off, none⟩) (hb.block b hlt)) (fun b hN hlt => ⟨hlt, hN⟩) x g)⟩
 obtain ⟨aL, has⟩ : ∃ aL : List DV, aL = .t (.c (.v (.func (.yield l0) #[] #[]))) :: l.map fun x => DV.t (.c x) := ⟨_, rfl⟩
 obtain ⟨us, hus⟩ : ∃ us : List Value, us = .func (.yield l0) #[] #[] :: vs := ⟨_, rfl⟩
 rw [← has, ← hus] at hargs2
 rw [← has] at h
 have hvl2 := hargs2.length
 have hla : aL.length = l.length + 1 := by rw [has]; simp
 have hstart : Abs W (fun b => b < w.heap.size ∧ N b) q0w (fun _ => none) (start aL fn.ntmps) { tmps := us.toArray ++ Array.replicate (fn.ntmps - us.toArray.size) undef, defers := [] } W := by
  refine ⟨Below.refl _ _, by simp [start, hvl2], Marks.nil (hgJ 0 W h0), fun i dv hi => ?_, fun k r hr => ?_, fun _ _ => rfl, (fun k l b h1 _ => by cases h1), (fun k k' r r' l l' b _ _ _ _ h1 _ _ _ => by cases h1), (fun _ _ h => h.elim), (fun _ h => h.elim), (fun _ _ h => by cases h), (fun _ _ _ _ => Nat.zero_le _)⟩
  ·unfold DS.tm start at hi
   simp only at hi
   by_cases hlt : i < aL.length
   ·rw [List.getElem?_append_left (by simpa using hlt), List.getElem?_map] at hi
    have e1 : aL[i]? = some dv := by
     cases e : aL[i]? with
     | none => rw [e] at hi; cases hi
     | some x => rw [e] at hi; simpa using hi
    obtain ⟨v, e2, e3⟩ := hargs2.get e1
    refine ⟨v, ?_, RelD.mono (fun x u g => RelC.ofF (RelF.mono (Nat.le_refl _) (fun _ _ _ _ => rfl) (fun b hb hl => ⟨fun _ => hb, fun k l h => by cases h⟩) x g)) e3⟩
    rw [Array.getElem?_append_left (by simp; omega)]
    simpa using e2
   ·rw [List.getElem?_append_right (by simpa using hlt), List.getElem?_replicate] at hi
    split at hi
    ·rename_i h2
     simp only [Option.join_some, Option.some.injEq] at hi
     subst hi
     simp only [List.length_map] at h2
     refine ⟨undef, ?_, [], rfl, trivial⟩
     rw [Array.getElem?_append_right (by simp; omega), Array.getElem?_replicate, if_pos (by simp; omega)]
    ·cases hi
  ·unfold DS.at start at hr
   simp only [List.getElem?_replicate] at hr
   split at hr <;> cases hr
 have hYA : YA (q0W 1 l) w W N J0 Jx ov (start aL fn.ntmps) { tmps := us.toArray ++ Array.replicate (fn.ntmps - us.toArray.size) undef, defers := [] } W (some 0) := by
  refine ⟨rfl, fun i d hd => ?_, W, _, _, hstart, h0, Nat.le_refl _, fun _ _ _ => rfl⟩
  obtain ⟨x, h1, h2, rfl⟩ := qbo hd
  obtain ⟨v, e1, e2⟩ := hargs.get h2
  have hlt : i - 1 < vs.length := (List.getElem?_eq_some_iff.1 e1).1
  show _ = some ((vs[i - 1]?).getD undef)
  rw [e1, Array.getElem?_append_left (by rw [hus]; simp; omega), hus]
  obtain ⟨j, rfl⟩ : ∃ j, i = j + 1 := ⟨i - 1, by omega⟩
  simpa using e1
 have hfin : ∀ (g : Option Nat) (st' : DS) (a' : Act) (w' : World), endY n g st' → YA (q0W 1 l) w W N J0 Jx ov st' a' w' g → LeavesInM Fence.wide 0 P fn a'.tmps (fun e W' => (∃ v, e = .returned v) ∧ (J0 n W' ∨ Jx () W')) a'.defers .returning w' := by
  rintro g st' a' w' hg ⟨hd, _, w1, N1, M1, hA, hgg⟩
  rw [hd]
  have hr : (results fn a'.tmps).run P w' = .ok (.tuple #[]) w' := by
   have h1 : results fn a'.tmps = (do
    let vs ← fn.results.mapM (resS a'.tmps)
    pure (if h : vs.size = 1 then vs[0] else .tuple vs)) := rfl
   have h2 : fn.results = #[] := by
    apply Array.toList_inj.1
    simpa using hres
   rw [h1, h2]
   simp
  refine ⟨_, hr, ⟨_, rfl⟩, ?_⟩
  cases g with
  | none => exact Or.inr (hJx () w1 w' none hgg (q9M hA.below) (fun r e => by cases e))
  | some i =>
   have : i = n := hg
   subst this
   exact Or.inl (hJ i w1 w' none hgg.1 (q9M hA.below) (fun r e => by cases e))
 have hcalls : CallsIn Fence.wide 0 P f us.toArray W fun e W' => (∃ v, e = .returned v) ∧ (J0 n W' ∨ Jx () W') := by
  refine callsIn_of_wp_marks hf hbd trivial ?_
  refine q3R hT hS hC c hok hL rfl rfl rfl hYA (fun g st' a' w' hk ha' => ?_) (fun i g st' a' w' hk _ => hk.elim) (fun g st' a' w' hk ha' => ?_) h
  ·exact hfin g st' a' w' hk ha'
  ·exact hfin g st' a' w' hk ha'
 have e : us.toArray = #[] ++ #[.func (.yield l0) #[] #[]] ++ vs.toArray := by rw [hus]; simp
 rw [← e]
 exact hcalls
def LeC (al bs : List CV) : Prop := ∀ w N vs, All2 (RelF w N) al vs → All2 (RelF w N) bs vs
theorem LeC.refl (al : List CV) : LeC al al := fun _ _ _ h => h
def okB1 : CV → Bool
 | .v x => x.oneCell'
 | _ => false
def okBs : List CV → Bool
 | [] => true
 | x :: l => okB1 x && okBs l
def okBT : TV → Bool
 | .c x => okB1 x
 | .a l => okBs l
 | .fn _ _ => false
 | .fb _ _ => false
def okBTs : List TV → Bool
 | [] => true
 | x :: l => okBT x && okBTs l
theorem qjS {w : World} {N : Nat → Prop} {x : CV} (h : okB1 x = true) : RelF w N x (qdY x) := by
 cases x with
 | v y => exact ⟨rfl, h⟩
 | _ => cases h
theorem qjT {w : World} {N : Nat → Prop} : ∀ {l : List CV}, okBs l = true → All2 (RelF w N) l (l.map qdY)
 | [], _ => trivial
 | x :: l, h => by
  simp only [okBs, Bool.and_eq_true] at h
  exact ⟨qjS h.1, qjT h.2⟩
theorem okBT_rel {w : World} {N : Nat → Prop} {x : TV} (h : okBT x = true) : RelT (RelF w N) x (q1F x) := by
 cases x with
 | c y => exact qjS h
 | a l => exact ⟨_, rfl, qjT h⟩
 | fn f l => cases h
 | fb f l => cases h
theorem qiw {w : World} {N : Nat → Prop} : ∀ {l : List TV}, okBTs l = true → All2 (RelT (RelF w N)) l (l.map q1F)
 | [], _ => trivial
 | x :: l, h => by
  simp only [okBTs, Bool.and_eq_true] at h
  exact ⟨okBT_rel h.1, qiw h.2⟩
@[reducible] def ItC := List CV → Option ItR
def OkIt (P : Program) (f : FuncId) (F : ItC) : Prop := ∀ l R, F l = some R → okP R.pre → Enters P f ∧ (∀ i, i < R.n → (R.y i).length = R.m ∧ okBTs (R.y i) = true) ∧
 ∀ (w : World) (N : Nat → Prop) (vs : List Value), All2 (RelF w N) l vs → SeqIt P f (fbA R.bd vs) (lbA R.bd vs) R.n (fun i => ((R.y i).map q1F).toArray) (KpI w N R.ty) w
def addI (it : It) (f : FuncId) (F : ItC) : It := fun g l => bif Nat.beq g f then (F l).map (fun R => { R with mu := none }) else it g l
theorem ItOk.eq {P : Program} {F G : List CV → Option ItR} {gf : FuncId} {l : List CV} {R : ItR} (h : ItOk P F gf l R) (e : F = G) : ItOk P G gf l R := e ▸ h
theorem ValidIt.add {P : Program} {it : It} {f : FuncId} {F : ItC} (h : ValidIt P it) (hF : OkIt P f F) : ValidIt P (addI it f F) := by
 intro g l R h1 h2
 cases e : Nat.beq g f with
 | true =>
  have h1 : (F l).map (fun R => { R with mu := none }) = some R := by unfold addI at h1; rw [e] at h1; exact h1
  rw [Nat.eq_of_beq_eq_true e]
  simp only [Option.map_eq_some_iff] at h1
  obtain ⟨R0, h3, rfl⟩ := h1
  obtain ⟨g1, g2, g3⟩ := hF l R0 h3 h2
  exact ⟨g1, fun i hi => ⟨(g2 i hi).1, fun w N => qiw (g2 i hi).2⟩, g3⟩
 | false =>
  have e2 : it g = addI it f F g := by funext l; unfold addI; rw [e]; rfl
  obtain ⟨g1, g2⟩ := h g l R (by rw [e2]; exact h1) h2
  exact ⟨g1, g2.eq e2⟩
def OkItM (P : Program) (f : FuncId) (F : ItC) : Prop := ∀ l R, F l = some R → okP R.pre → Enters P f ∧ ∃ U, R.mu = some U ∧ ∀ x c l', c.length = U.pos → l = c ++ .px 1 0 (fun _ => .v x) :: l' → MuOk P F f c l' R.m U.ty x
def addM (it : It) (f : FuncId) (F : ItC) : It := fun g l => bif Nat.beq g f then F l else it g l
theorem ValidIt.addM {P : Program} {it : It} {f : FuncId} {F : ItC} (h : ValidIt P it) (hF : OkItM P f F) : ValidIt P (addM it f F) := by
 intro g l R h1 h2
 cases e : Nat.beq g f with
 | true =>
  have e2 : F = Ev.addM it f F g := by funext l; unfold Ev.addM; rw [e]; rfl
  obtain ⟨g1, U, g2, g3⟩ := hF l R (by rw [e2]; exact h1) h2
  rw [Nat.eq_of_beq_eq_true e] at e2 ⊢
  refine ⟨g1, ?_⟩
  unfold ItOk
  rw [g2, ← e2]
  exact g3
 | false =>
  have e2 : it g = Ev.addM it f F g := by funext l; unfold Ev.addM; rw [e]; rfl
  obtain ⟨g1, g2⟩ := h g l R (by rw [e2]; exact h1) h2
  exact ⟨g1, g2.eq e2⟩
theorem OkIt.it {P : Program} {T : Tab} {S : Sum} (hT : TabOK P T) (hS : Valid P S) {ann : Ann} {f : FuncId} {fn : Func} (hf : P.funcs[f]? = some fn) (hn : (fn.name == "runtime.NumGoroutine") = false) {F : ItC}
  (h : ∀ l R, F l = some R → okP R.pre → ∃ al, R.bd = false ∧ LeC l al ∧ okIt ann (q0W 1 al) fn = true ∧ al.length + 1 ≤ fn.ntmps ∧ (∀ i, (R.y i).length = R.m ∧ okBTs (R.y i) = true) ∧ ∀ l0, ∃ J : Inv, evIt P T S ann J l0 R.n R.y (q0W 1 al) fn (al.map fun x => .t (.c x)) ∧ AllY J (q8j P T S ann J l0 R.n R.y (q0W 1 al) fn)) : OkIt P f F := by
 intro l R h1 h2
 obtain ⟨al, g0, g1, g2, g3, g4, g5⟩ := h l R h1 h2
 have hb : fn.body.isNone = false := by
  unfold okIt at g2
  simp only [Bool.and_eq_true] at g2
  cases e : fn.body with
  | none => rw [e] at g2; cases g2.2
  | some c => rfl
 exact ⟨Enters.of hf hn hb, fun i _ => g4 i, fun w N vs hv => by rw [g0]; exact (it_sound hT hS hf g2 g3 g5 w N vs (g1 w N vs hv)).weak fun A B h => h.1⟩
def q4v : Nat → (Nat → CV) → Bool
 | 0, _ => true
 | n + 1, c => (match c n with
  | .v (.int .i64 _) => true
  | _ => false) && q4v n c
theorem qcO : ∀ {n : Nat} {c : Nat → CV}, q4v n c = true → ∀ j, j < n → c j = .v (.int .i64 (qb (c j)))
 | 0, _, _, j, hj => absurd hj (Nat.not_lt_zero _)
 | n + 1, c, h, j, hj => by
  simp only [q4v, Bool.and_eq_true] at h
  by_cases e : j = n
  ·subst e
   have h1 := h.1
   split at h1
   ·rename_i x hx
    rw [hx]; rfl
   ·cases h1
  ·exact qcO h.2 j (by omega)
theorem RelF.px_eq {w : World} {N : Nat → Prop} {n off : Nat} {c c' : Nat → CV} {v : Value} (hc : ∀ j, j < n → c j = c' j) (h : RelF w N (.px n off c) v) : RelF w N (.px n off c') v := by
 obtain ⟨b, o, g1, g2, g3, g4⟩ := h
 refine ⟨b, o, g1, g2, g3, fun j hj => ?_⟩
 obtain ⟨x, e1, e2⟩ := g4 j hj
 exact ⟨x, e1, by rw [← hc j hj]; exact e2⟩
@[reducible] def pxL (n : Nat) (c : Nat → CV) : List CV := (List.range n).map fun j => .v (.int .i64 (qb (c j)))
theorem leC_px {n : Nat} {c : Nat → CV} (hq : q4v n c = true) (w : World) (N : Nat → Prop) (v : Value) (h : RelF w N (.px n 0 c) v) : RelF w N (.px n 0 (boxC (pxL n c))) v := by
 refine RelF.px_eq (fun j hj => ?_) h
 rw [qcO hq j hj]
 simp [boxC, pxL, hj, qb]
theorem qjU {a b : CV} {al bs : List CV} (h : ∀ w N v, RelF w N a v → RelF w N b v) (h2 : LeC al bs) : LeC (a :: al) (b :: bs) := by
 intro w N vs g
 match vs, g with
 | v :: vs, g => exact ⟨h w N v g.1, h2 w N vs g.2⟩
 | [], g => exact g.elim
def q1U : CV → Nat
 | .sl _ n _ => n
 | _ => 0
def q0G : CV → Nat → Nat → CV
 | .sl _ _ c => c
 | _ => fun _ _ => .v (.bool false)
def slP (sz : Nat) (x : CV) : Prop := x = .sl sz (q1U x) (q0G x)
def LeC1 (a b : CV) : Prop := ∀ w N v, RelF w N a v → RelF w N b v
def LeCs : List CV → List CV → Prop
 | [], [] => True
 | a :: l, b :: m => LeC1 a b ∧ LeCs l m
 | _, _ => False
theorem LeCs.all {w : World} {N : Nat → Prop} : ∀ {l m : List CV} {vs : List Value}, LeCs l m → All2 (RelF w N) l vs → All2 (RelF w N) m vs
 | [], [], _, _, h => h
 | _ :: _, _ :: _, v :: vs, g, h => ⟨g.1 w N v h.1, LeCs.all g.2 h.2⟩
 | [], _ :: _, _, g, _ => g.elim
 | _ :: _, [], _, g, _ => g.elim
 | _ :: _, _ :: _, [], _, h => h.elim
theorem LeCs.nil : LeCs [] [] := trivial
theorem LeCs.cons {a b : CV} {l m : List CV} (h : LeC1 a b) (g : LeCs l m) : LeCs (a :: l) (b :: m) := ⟨h, g⟩
theorem LeC1.refl (a : CV) : LeC1 a a := fun _ _ _ h => h
theorem leT_a {l m : List CV} (h : LeCs l m) : LeD (.t (.a l)) (.t (.a m)) := by
 rintro w N v ⟨vs, e, g⟩
 exact ⟨vs, e, h.all g⟩
theorem leT_f {f : FuncId} {l m : List CV} (h : LeCs l m) : LeD (.t (.fn f l)) (.t (.fn f m)) := by
 rintro w N v ⟨vs, e, g⟩
 exact ⟨vs, e, h.all g⟩
theorem leT_c {a b : CV} (h : LeC1 a b) : LeD (.t (.c a)) (.t (.c b)) := fun w N v g => h w N v g
theorem leC_i {a : CV} (h : a = .v (.int .i64 (qb a))) : LeC1 a (.v (.int .i64 (qb a))) := by rw [← h]; exact LeC1.refl a
theorem leC_s {sz : Nat} {a b : CV} (h : slP sz a) (g : LeD (.t (.c (.sl sz (q1U a) (q0G a)))) (.t (.c b))) : LeC1 a b := by
 intro w N v k
 refine g w N v ?_
 rw [h] at k
 exact k
theorem LeCs.get : ∀ {l m : List CV} {j : Nat} {a : CV}, LeCs l m → l[j]? = some a → ∃ b, m[j]? = some b ∧ LeC1 a b
 | a :: l, b :: m, 0, x, h, e => by
  simp at e; subst e; exact ⟨b, by simp, h.1⟩
 | a :: l, b :: m, j + 1, x, h, e => by
  simp at e
  obtain ⟨y, h1, h2⟩ := LeCs.get h.2 e
  exact ⟨y, by simpa using h1, h2⟩
 | [], [], _, _, _, e => by simp at e
 | [], _ :: _, _, _, h, _ => h.elim
 | _ :: _, [], _, _, h, _ => h.elim
theorem leC_p {n : Nat} {c : Nat → CV} {l : List CV} (h : LeCs (fwd c 0 n) l) : LeC1 (.px n 0 c) (.px n 0 (boxC l)) := by
 rintro w N v ⟨b, o, g1, g2, g3, g4⟩
 refine ⟨b, o, g1, g2, g3, fun j hj => ?_⟩
 obtain ⟨x, e1, e2⟩ := g4 j hj
 refine ⟨x, e1, ?_⟩
 have e3 : (fwd c 0 n)[j]? = some (c j) := by rw [fwd_get, if_pos hj, Nat.zero_add]
 obtain ⟨y, k1, k2⟩ := h.get e3
 have e4 : boxC l j = y := by simp [boxC, List.getD, k1]
 rw [e4]
 exact k2 w N x e2
def qQ : List Nat → (Nat → CV) → Bool
 | [], _ => true
 | j :: l, c => (match c j with
  | .v (.int .i64 _) => true
  | _ => false) && qQ l c
theorem qh : ∀ {l : List Nat} {c : Nat → CV}, qQ l c = true → ∀ j ∈ l, c j = .v (.int .i64 (qb (c j)))
 | k :: l, c, h, j, hj => by
  simp only [qQ, Bool.and_eq_true] at h
  rcases List.mem_cons.1 hj with e | e
  ·subst e
   have h1 := h.1
   split at h1
   ·rename_i x hx
    rw [hx]; rfl
   ·cases h1
  ·exact qh h.2 j e
def addF (S : Sum) (f : FuncId) (F : Con) : Sum := fun g args => bif Nat.beq g f then (match F args with
 | some r => some r
 | none => S g args) else S g args
theorem Valid.addF {P : Program} {S : Sum} {f : FuncId} {F : Con} (h : Valid P S) (hF : Ok P f F) : Valid P (Ev.addF S f F) := by
 intro g args r pre fresh h1 h2
 unfold Ev.addF at h1
 cases e : Nat.beq g f with
 | true =>
  rw [e] at h1
  simp only [cond_true] at h1
  split at h1
  ·rename_i x hx
   cases h1
   rw [Nat.eq_of_beq_eq_true e]
   exact hF args r pre fresh hx h2
  ·exact h g args r pre fresh h1 h2
 | false => rw [e] at h1; exact h g args r pre fresh h1 h2
theorem leSl {sz n : Nat} {c c' : Nat → Nat → CV} (h : ∀ i j, i < n → j < sz → c i j = c' i j) : LeD (.t (.c (.sl sz n c))) (.t (.c (.sl sz n c'))) := fun w N v g => RelF.sl g h
variable {w0 : World} {N0 : Nat → Prop} {Z : Pins} {P : Program} {T : Tab} {S : Sum} {M : Map} {a : Act} {w : World}
theorem fn_core (hm : P.follows .mixedOrders = true) (hT : TabOK P T) (hS : Valid P S) {ann : Ann} (hI : ValidIt P ann.it) {J : Inv} {f : FuncId} {fn : Func} (hf : P.funcs[f]? = some fn) {c : Code} (hb : fn.body = some c) (hok : q0I ann c = true ∧ q0V ann false none c 0 = true) {args : List DV} {K : DS → Prop} (h : ev P T S ann J c 0 [] K (fun _ _ => False) K (start args fn.ntmps)) (hL : AllG J (loops P T S ann J c 0 (fun _ => K) (fun _ _ _ => False) (fun _ => K))) (hlen : args.length ≤ fn.ntmps)
  (W : World) (N : Nat → Prop) (vs : List Value) (hG : Gd W) (hargs : All2 (RelD (RelF W N)) args vs) {R : Ending → World → Prop}
  (hret : ∀ M' st' a' w', K st' → Abs W N q0w M' st' a' w' → ∃ v, (results fn a'.tmps).run P w' = .ok v w' ∧ R (.returned v) w') : Calls P f vs.toArray W R := by
 have hvl := hargs.length
 have hstart : Abs W N q0w (fun _ => none) (start args fn.ntmps) { tmps := vs.toArray ++ Array.replicate (fn.ntmps - vs.toArray.size) undef, defers := [] } W := by
  refine ⟨Below.refl _ _, by simp [start, hvl], Marks.nil hG, fun i dv hi => ?_, fun k r hr => ?_, fun _ _ => rfl, (fun k l b h1 _ => by cases h1), (fun k k' r r' l l' b _ _ _ _ h1 _ _ _ => by cases h1), (fun _ _ h => h.elim), (fun _ h => h.elim), (fun _ _ h => by cases h), (fun _ _ _ _ => Nat.zero_le _)⟩
  ·unfold DS.tm start at hi
   simp only at hi
   by_cases hlt : i < args.length
   ·rw [List.getElem?_append_left (by simpa using hlt), List.getElem?_map] at hi
    have e1 : args[i]? = some dv := by
     cases e : args[i]? with
     | none => rw [e] at hi; cases hi
     | some x => rw [e] at hi; simpa using hi
    obtain ⟨v, e2, e3⟩ := hargs.get e1
    refine ⟨v, ?_, RelD.mono (fun x u g => RelC.ofF (RelF.mono (Nat.le_refl _) (fun _ _ _ _ => rfl) (fun b hb hl => ⟨fun _ => hb, fun k l h => by cases h⟩) x g)) e3⟩
    rw [Array.getElem?_append_left (by simp; omega)]
    simpa using e2
   ·rw [List.getElem?_append_right (by simpa using hlt), List.getElem?_replicate] at hi
    split at hi
    ·rename_i h2
     simp only [Option.join_some, Option.some.injEq] at hi
     subst hi
     simp only [List.length_map] at h2
     refine ⟨undef, ?_, [], rfl, trivial⟩
     rw [Array.getElem?_append_right (by simp; omega), Array.getElem?_replicate, if_pos (by simp; omega)]
    ·cases hi
  ·unfold DS.at start at hr
   simp only [List.getElem?_replicate] at hr
   split at hr <;> cases hr
 have hleave : ∀ (ds : List Deferred) (M' : Map) (st' : DS) (a' : Act) (w' : World), a'.defers = ds → K st' → Abs W N q0w M' st' a' w' → LeavesInM Fence.wide 0 P fn a'.tmps R ds .returning w' := by
  intro ds
  induction ds with
  | nil =>
   intro M' st' a' w' _ hk ha'
   exact hret M' st' a' w' hk ha'
  | cons d ds ih =>
   intro M' st' a' w' hd hk ha'
   obtain ⟨D, h1, h2, h3, h4⟩ := ha'.defs.1 d (by rw [hd]; simp)
   refine ⟨by simp, Or.inl ⟨D, _, by rw [h1], run_takeDeferred h3, ?_⟩⟩
   have hm2 := ha'.defs
   rw [hd] at hm2
   have ha2 : Abs W N q0w M' st' { a' with defers := ds } w' := ⟨ha'.below, ha'.fits, ⟨fun d' hd' => hm2.1 d' (by simp [hd']), (List.pairwise_cons.1 hm2.2.1).2, hm2.2.2⟩, ha'.tmp, ha'.row, ha'.dom, ha'.own, ha'.apart, ha'.pinB, ha'.pinN, ha'.pinK, fun _ _ _ _ => Nat.zero_le _⟩
   refine ih M' st' { a' with defers := ds } _ rfl hk (ha2.grownN (grownBy_putObj' w' D _) fun r e => ?_)
   cases e
   exact ⟨h2, ⟨_, h3, rfl⟩, fun _ h => h.elim, fun d' hd' e => (List.pairwise_cons.1 hm2.2.1).1 d' hd' (by rw [e, h1])⟩
 refine (callsIn_wide (n := 0)).1 (callsIn_of_wp_marks hf hb trivial ?_)
 refine q0m hm hT hS hI c (ro := none) (q := none) ⟨fun _ => ⟨rfl, rfl⟩, (fun _ h => by cases h)⟩ hok.1 hok.2 (Or.inr ⟨hL, rfl, rfl, rfl⟩) hstart (fun M' st' a' w' hk ha' => ?_) (fun i M' st' a' w' hk _ => hk.elim) (fun M' st' a' w' hk ha' => ?_) h
 ·exact hleave _ M' st' a' w' rfl hk ha'
 ·exact hleave _ M' st' a' w' rfl hk ha'
def qhd (st : DS) (k : Nat) (r : DV) : Option (DV × Row) := match st.at k with
 | some (.gen ty sz l) => some (r, .gen ty sz l)
 | some (.num ty kd l) => some (r, .num ty kd l)
 | _ => none
def ownOf (st : DS) : DV → Option (DV × Row)
 | .t (.c (.os k)) => qhd st k (.t (.c (.os 0)))
 | .tu (.c (.os k) :: l) => bif q1x l then qhd st k (.tu (.c (.os 0) :: l)) else none
 | _ => none
def qhe : Row → Prop
 | .gen _ _ l => ∀ e ∈ l, ∀ x ∈ e, ∃ y, x = .v y
 | .num _ _ _ => True
 | _ => False
def retKO (T : Tab) (fn : Func) (post : DV → Row → Prop) (st : DS) : Prop := match resE T st fn.results.toList with
 | some (d, p) => match ownOf st d with
  | some (r, R) => (match p with
   | none => post r R
   | some p => p ∧ post r R)
  | none => False
 | none => False
def evFnO (P : Program) (T : Tab) (S : Sum) (ann : Ann) (J : Inv) (fn : Func) (args : List DV) (post : DV → Row → Prop) : Prop := match fn.body with
 | some c => ev P T S ann J c 0 [] (retKO T fn post) (fun _ _ => False) (retKO T fn post) (start args fn.ntmps)
 | none => False
def qkE (P : Program) (T : Tab) (S : Sum) (ann : Ann) (J : Inv) (fn : Func) (post : DV → Row → Prop) : List Ent := match fn.body with
 | some c => loops P T S ann J c 0 (fun _ => retKO T fn post) (fun _ _ _ => False) (fun _ => retKO T fn post)
 | none => []
theorem qg6 {N N' : Nat → Prop} : ∀ {l : List CV} {vs : List Value}, (∀ x ∈ l, ∃ y, x = .v y) → All2 (RelF w N) l vs → All2 (RelF w N') l vs
 | [], [], _, _ => trivial
 | x :: l, v :: vs, h, g => by
  obtain ⟨y, rfl⟩ := h x (by simp)
  exact ⟨g.1, qg6 (fun z hz => h z (by simp [hz])) g.2⟩
 | [], _ :: _, _, g => g.elim
 | _ :: _, [], _, g => g.elim
theorem ownOf_rel {st : DS} (ha : Abs w0 N0 Z M st a w) {d r : DV} {R : Row} (h : ownOf st d = some (r, R)) (hp : qhe R) {v : Value} (hr : RelD (RelC w (fgn w0 N0 M) M) d v) : ∃ u, RelD (RelC w (fun _ => False) (own1 u)) r v ∧ RelR w w0.heap.size (fun _ => False) (own1 u) 0 R := by
 have row : ∀ {k : Nat} {r r' : DV} {R : Row}, qhd st k r = some (r', R) → qhe R → r = r' ∧ ∃ u, M k = some (.row u) ∧ RelR w w0.heap.size (fun _ => False) (own1 u) 0 R := by
  intro k r r' R h hp
  unfold qhd at h
  split at h
  ·rename_i ty sz l hrow
   cases h
   obtain ⟨v', xs, g1, g2, g3, g4⟩ := ha.row k _ hrow
   refine ⟨rfl, v', g1, v', xs, by simp [own1], g2, g3, qg6 (fun x hx => ?_) g4⟩
   obtain ⟨e, he, hx⟩ := List.mem_flatten.1 hx
   exact hp e he x hx
  ·rename_i ty kd l hrow
   cases h
   obtain ⟨v', g1, g2⟩ := ha.row k _ hrow
   exact ⟨rfl, v', g1, v', by simp [own1], g2⟩
  ·cases h
 unfold ownOf at h
 split at h
 ·rename_i k
  obtain ⟨rfl, u, hM, hR⟩ := row h hp
  have hr1 : M k = some (.row v) := hr.1
  rw [hM] at hr1; cases hr1
  exact ⟨_, ⟨by simp [own1], hr.2⟩, hR⟩
 ·rename_i k l
  cases hq : q1x l with
  | false => rw [hq] at h; cases h
  | true =>
   rw [hq] at h
   obtain ⟨rfl, u, hM, hR⟩ := row h hp
   obtain ⟨vs, e, g⟩ := hr
   match vs, g with
   | x :: vs, g =>
    have hr1 : M k = some (.row x) := g.1.1
    rw [hM] at hr1; cases hr1
    exact ⟨_, ⟨_ :: vs, e, ⟨by simp [own1], g.1.2⟩, qbf hq g.2⟩, hR⟩
   | [], g => exact g.elim
 ·cases h
theorem RelC_none {w : World} {N' : Nat → Prop} {M : Map} : ∀ {x : CV} {v : Value}, RelC w (fun _ => False) M x v → RelC w N' M x v
 | .v _, _, g => g
 | .sl .., _, g => RelF.all (x := .sl ..) g fun _ h => h.elim
 | .px .., _, g => RelF.all (x := .px ..) g fun _ h => h.elim
 | .er _, _, g => g
 | .any, _, g => g
 | .os _, _, g | .p _ _, _, g | .pe _ _ _ _, _, g | .ob _ _ _ _, _, g => g
theorem Ok.fnO {P : Program} {T : Tab} {S : Sum} (hm : P.follows .mixedOrders = true) (hT : TabOK P T) (hS : Valid P S) {ann : Ann} (hI : ValidIt P ann.it) {f : FuncId} {fn : Func} (hf : P.funcs[f]? = some fn) (hn : (fn.name == "runtime.NumGoroutine") = false) (hok : okFn ann fn = true) {F : Con}
  (h : ∀ args r pre fresh, F args = some (r, pre, fresh) → okP pre → ∃ R, fresh = .own R ∧ qhe R ∧ ∃ (J : Inv) (al : List DV), LeA args al ∧ al.length ≤ fn.ntmps ∧ evFnO P T S ann J fn al (fun r' R' => r' = r ∧ R' = R) ∧ AllG J (qkE P T S ann J fn (fun r' R' => r' = r ∧ R' = R))) : Ok P f F := by
 intro args r pre fresh h1 h2
 obtain ⟨R, rfl, hpl, J, al, g1, g2, g3, g4⟩ := h args r pre fresh h1 h2
 unfold okFn at hok
 unfold evFnO at g3
 unfold qkE at g4
 cases hb : fn.body with
 | none => rw [hb] at g3; exact g3.elim
 | some c =>
 rw [hb] at g3 g4 hok
 simp only at g3 g4
 simp only [Bool.and_eq_true] at hok
 refine ⟨Enters.of hf hn (by rw [hb]; rfl), fun W N vs hG hv => ?_⟩
 refine fn_core hm hT hS hI hf hb hok g3 g4 g2 W N vs hG (g1 W N vs hv) fun M' st' a' w' hk ha' => ?_
 unfold retKO at hk
 split at hk
 ·rename_i d p hres
  split at hk
  ·rename_i r' R' hown
   have hk' : okP p ∧ r' = r ∧ R' = R := by
    cases p with
    | none => exact ⟨trivial, hk⟩
    | some p => exact hk
   obtain ⟨hp, rfl, rfl⟩ := hk'
   obtain ⟨v, e1, e2⟩ := qbm hT ha' hres hp
   exact ⟨v, e1, v, rfl, by obtain ⟨u, k1, k2⟩ := ownOf_rel ha' hown hpl e2; exact ⟨u, RelD.mono (fun x y g => RelC_none g) k1, k2⟩, ha'.below⟩
  ·exact hk.elim
 ·exact hk.elim
end Go.Proofs.YtfadkjcfjkmalaaGreatDoor.Ev
namespace Go.Proofs.YtfadkjcfjkmalaaGreatDoor
open Go.RowKit
section
variable {P : Program} {ops : Array Oper} {md : Region.Mode} {C : World → Prop}
def q5p (o : Oper) : Bool :=
 match o.op with
 | .move _ | .assign _ | .pick .. | .binOp .. | .unOp .. | .slice .. | .indexAddr .. | .fieldAddr .. | .extract .. | .field .. | .index .. | .build .. => true
 | _ => false
theorem q7x {P : Program} {w w1 : World} {n : Next} (s : Sem Value) (h : ((do let x ← s; pure (.value x) : Sem Next)).run P w = .ok n w1) : ∃ v, n = .value v := by
 rw [Sem.run_bind] at h
 cases hs : s.run P w with
 | ok x w2 => rw [hs] at h; simp only [Result.andThen_ok, Sem.run_pure] at h; cases h; exact ⟨_, rfl⟩
 | halt x w2 => rw [hs] at h; cases h
theorem value_of_bind' {P : Program} {α : Type} {w w1 : World} {n : Next} (s : Sem α) (f : α → Value) (h : ((do let x ← s; pure (.value (f x)) : Sem Next)).run P w = .ok n w1) : ∃ v, n = .value v := by
 rw [Sem.run_bind] at h
 cases hs : s.run P w with
 | ok x w2 => rw [hs] at h; simp only [Result.andThen_ok, Sem.run_pure] at h; cases h; exact ⟨_, rfl⟩
 | halt x w2 => rw [hs] at h; cases h
theorem q6D {o : Oper} (h : q5p o = true) {ρ : Operand → Value} {w w1 : World} {n : Next} (hr : (execOp ρ o).run P w = .ok n w1) : ∃ v, n = .value v := by
 unfold q5p at h
 unfold execOp at hr
 split at h
 all_goals first
  | (rename_i e; rw [e] at hr; simp only [Sem.run_pure] at hr; cases hr; exact ⟨_, rfl⟩)
  | (rename_i e; rw [e] at hr; exact q7x _ hr)
  | (rename_i e; rw [e] at hr; exact value_of_bind' _ _ hr)
  | cases h
theorem qg7 {i : Nat} {o : Oper} {a : Act} {K : Act → Prop} (hi : ops[i]? = some o) (hs : q5p o = true) (h : qOp P ops (fun _ => True) i K a) : ∃ v, Yields P ops o v a ∧ K (a.put o.dst v) := by
 obtain ⟨v, hy, hK⟩ := yieldsIn_of_qOp hi h
 refine ⟨v, ?_, hK⟩
 rcases hy with ⟨hw, hy⟩ | ⟨hw, rfl⟩
 ·refine Or.inl ⟨hw, fun w => ?_⟩
  have h1 := hy w trivial
  unfold Oper.quietAt at h1
  generalize hr : (execOp a.eval o).run P w = r at h1
  cases r with
  | ok n w' =>
   obtain ⟨u, rfl⟩ := q6D hs hr
   simp only [Oper.quietUpon] at h1
   rw [h1.1, h1.2]
  | halt x w' => simp only [Oper.quietUpon] at h1
 ·exact Or.inr ⟨hw, rfl⟩
structure MidInv (md : Region.Mode) (ops : Array Oper) (n : Nat) (l0 listed : Array Bool) : Prop where
 size : listed.size = ops.size
 closed : ∀ j oj, ops[j]? = some oj → listed.getD j false = true → ∀ e ∈ oj.after, Region.binds md e = true → listed.getD e.on false = true
 tail : ∀ t, n ≤ t → t < ops.size → listed.getD t true = false
 start : ∀ j, l0.getD j false = true → listed.getD j false = true
theorem MidInv.set {n i : Nat} {l0 listed : Array Bool} (inv : MidInv md ops n l0 listed) (hi : i ∈ Region.ready md ops listed) (hin : i < n) : MidInv md ops n l0 (listed.setIfInBounds i true) := by
 obtain ⟨hun, oi, hoi, hall⟩ := mem_ready.1 hi
 refine ⟨by simp [inv.size], fun j oj hj hl e he hb => ?_, fun t ht ht' => ?_, fun j hj => getD_set_true (inv.start j hj)⟩
 ·by_cases hij : i = j
  ·subst hij
   have : oj = oi := Option.some.inj (hj.symm.trans hoi)
   subst this
   exact getD_set_true (hall e he hb)
  ·rw [getD_set_ne false hij] at hl
   exact getD_set_true (inv.closed j oj hj hl e he hb)
 ·rw [getD_set_ne true (by omega)]; exact inv.tail t ht ht'
def pick (l : List Oper) : List Nat → List Oper
 | [] => []
 | i :: p => (l.drop i).head?.toList ++ pick l p
theorem q2O {l : List Oper} {i : Nat} {p : List Nat} {o : Oper} (h : l[i]? = some o) : pick l (i :: p) = o :: pick l p := by
 simp [pick, List.head?_drop, h]
def noPan (Q : Exit → Act → World → Prop) : Exit → Act → World → Prop
 | .panic _, _, _ => False
 | e, a, w => Q e a w
end
theorem q3S {P : Program} {o : Oper} {a : Act} {C : World → Prop} {K : Act → Prop} (hs : q5p o = true) (h : o.quiet P a (fun _ => True) K) : o.quiet P a C K := by
 obtain ⟨v, hv, hK⟩ := h
 refine ⟨v, fun w _ => ?_, hK⟩
 have h1 := hv w trivial
 unfold Oper.quietAt at *
 generalize hr : (execOp a.eval o).run P w = r at h1
 cases r with
 | ok n w' =>
  obtain ⟨u, rfl⟩ := q6D hs hr
  exact h1
 | halt x w' => exact h1
theorem qix {P : Program} {o : Oper} {a : Act} {C : World → Prop} {K : Act → Prop} (v : Value) (h : ∀ w, C w → (execOp a.eval o).run P w = .ok (.value v) w) (hK : K (a.put o.dst v)) : o.quiet P a C K :=
 ⟨v, fun w hw => by unfold Oper.quietAt; rw [h w hw]; exact ⟨rfl, rfl⟩, hK⟩
def Elem (P : Program) (t e : TypeId) (sz bytes : Nat) : Prop := ∃ i z, P.underlying t = some (.slice e) ∧ P.info? e = some i ∧ i.zero = some z ∧ i.size = sz ∧ i.bytes = bytes ∧ z.cells.size = sz ∧ 0 < sz
theorem Elem.mk {P : Program} {t e : TypeId} {z : Value} {sz bytes : Nat} (ht : P.underlying t = some (.slice e)) (hi : (P.info? e).map (fun i => (i.zero, i.size, i.bytes)) = some (some z, sz, bytes)) (hz : z.cells.size = sz) (hs : 0 < sz) : Elem P t e sz bytes := by
 obtain ⟨i, h1, h2, h3, h4⟩ := info_parts hi
 exact ⟨i, z, ht, h1, h2, h3, h4, hz, hs⟩
structure Pushed (base : Nat) (w w' : World) (v v' : Value) : Prop where
 below : Below base w w'
 other : ∀ k, k < w.heap.size → some k ≠ v.ownBlock → w'.heap[k]? = w.heap[k]?
 lies : v'.ownBlock = v.ownBlock ∨ v'.ownBlock = some w.heap.size
end Go.Proofs.YtfadkjcfjkmalaaGreatDoor
namespace Go.Proofs.YtfadkjcfjkmalaaGreatDoor
open Go.RowKit
section
variable {P : Program} {md : Region.Mode}
end
end Go.Proofs.YtfadkjcfjkmalaaGreatDoor
namespace Go.Proofs.YtfadkjcfjkmalaaGreatDoor
open Go.RowKit
section
variable {P : Program} {md : Region.Mode}
inductive Stp where
 | q (ks : List Nat)
 | f (ks : List Nat)
 | p (i j : Nat)
def q1G (K : Act → World → Prop) : Exit → Act → World → Prop
 | .normal, a, w => K a w
 | _, _, _ => False
theorem wp_F {ops : Array Oper} {Q : Exit → Act → World → Prop} {X K : Act → World → Prop} {o : Oper} {a : Act} {w : World} (hh : o.wp P a w K (q1G X)) : o.wp P a w K Q := by
 unfold Oper.wp at *
 generalize (execOp a.eval o).run P w = r at *
 cases r with
 | ok n w' =>
  cases n <;> simp only [Oper.upon] at hh ⊢ <;>
   first
    | exact hh
    | exact Calls.mono hh (fun e w'' he => by
      cases e with
      | returned v => exact he
      | panicked c => exact (he : False).elim
      | outgrown => obtain ⟨a, w, h⟩ := he; exact (h : False).elim)
 | halt x w' => cases x <;> simp only [Oper.upon] at hh ⊢ <;> first | exact hh | exact (hh : False).elim
theorem qag {ops : Array Oper} {Q : Exit → Act → World → Prop} {X K : Act → World → Prop} {i : Nat} {a : Act} {w : World} (hh : wpOp P ops (q1G X) i K a w) : wpOp P ops Q i K a w := by
 unfold wpOp at *
 split
 ·simpa [*] using hh
 ·rename_i o ho
  simp only [ho] at hh
  split
  ·rename_i hw
   simp only [hw, if_true] at hh
   rcases hh with h | ⟨_, a, w, h⟩
   ·exact Or.inl (wp_F (ops := ops) h)
   ·exact (h : False).elim
  ·rename_i hw; simp only [hw] at hh; exact hh
def q1b (L : Array Bool) (ks : List Nat) : Array Bool := ks.foldl (fun L k => L.setIfInBounds k true) L
def qB (md : Region.Mode) (ops : Array Oper) : List Nat → Array Bool → Bool
 | [], _ => true
 | k :: p, L => ((ops[k]?).map q5p).getD false && (Region.ready md ops L).contains k && Region.free md ops L k && qB md ops p (L.setIfInBounds k true)
def fB (md : Region.Mode) (ops : Array Oper) : List Nat → Array Bool → Bool
 | [], _ => true
 | k :: p, L => decide (Region.ready md ops L = [k]) && (ops[k]?).isSome && fB md ops p (L.setIfInBounds k true)
def mixB (md : Region.Mode) (ops : Array Oper) : List Stp → Array Bool → Bool
 | [], L => (Region.ready md ops L).isEmpty
 | .q ks :: s, L => qB md ops ks L && mixB md ops s (q1b L ks)
 | .f ks :: s, L => fB md ops ks L && mixB md ops s (q1b L ks)
 | .p i j :: s, L => decide (Region.ready md ops L = [i, j]) && fB md ops [j] (q1b L [i]) && fB md ops [i] (q1b L [j]) && (ops[i]?).isSome && (ops[j]?).isSome && (q1b L [j, i] == q1b L [i, j]) && mixB md ops s (q1b L [i, j])
def lenS : List Stp → Nat
 | [] => 0
 | .q ks :: s => ks.length + lenS s
 | .f ks :: s => ks.length + lenS s
 | .p _ _ :: s => 2 + lenS s
def q1H (P : Program) (l : List Oper) (Q : Exit → Act → World → Prop) : List Stp → Act → World → Prop
 | [], a, w => Q .normal a w
 | .q ks :: s, a, w => wpQuiet P l.toArray (fun _ => True) (fun a' => q1H P l Q s a' w) (pick l ks) a
 | .f ks :: s, a, w => wpList P l.toArray (q1G (q1H P l Q s)) (pick l ks) a w
 | .p i j :: s, a, w => wpList P l.toArray (q1G (q1H P l Q s)) (pick l [i, j]) a w ∧ wpList P l.toArray (q1G (q1H P l Q s)) (pick l [j, i]) a w
theorem wpAny_q {l : List Oper} {Q : Exit → Act → World → Prop} (hQ : ∀ c a a' w, Q (.panic c) a w → Q (.panic c) a' w) (hsel : Region.noSelect l.toArray = true) {X : Act → World → Prop} {n : Nat} :
  ∀ (p : List Nat) (L : Array Bool) (a : Act) (w : World), qB md l.toArray p L = true → (∀ a', X a' w → wpAny P md l.toArray Q n (q1b L p) a' w) → wpQuiet P l.toArray (fun _ => True) (fun a' => X a' w) (pick l p) a →
   wpAny P md l.toArray Q (p.length + n) L a w := by
 intro p
 induction p with
 | nil => intro L a w hB h hx; rw [List.length_nil, Nat.zero_add]; exact h a hx
 | cons i p ih =>
  intro L a w hB h hx
  simp only [qB, Bool.and_eq_true] at hB
  obtain ⟨⟨⟨ho, hr⟩, hf⟩, hB'⟩ := hB
  cases ho2 : l.toArray[i]? with
  | none => rw [ho2] at ho; cases ho
  | some o =>
   rw [ho2] at ho
   have hs1 : q5p o = true := by simpa using ho
   have ho' : l[i]? = some o := by simpa using ho2
   rw [q2O ho'] at hx
   have hr' : i ∈ Region.ready md l.toArray L := by simpa using hr
   have hq : qOp P l.toArray (fun _ => True) i (wpQuiet P l.toArray (fun _ => True) (fun a' => X a' w) (pick l p)) a := by unfold qOp; simp only [ho2]; exact hx
   obtain ⟨v, hy, hK⟩ := qg7 ho2 hs1 hq
   rw [List.length_cons, show p.length + 1 + n = (p.length + n) + 1 from by omega]
   exact wpAny_first ho2 (Region.noSelect_spec hsel) (fun c a w h => hQ c _ _ w h) _ L a w (Region.free_spec ho2 hf) hr' hy (ih _ _ _ hB' h hK)
theorem qhr {l : List Oper} {Q : Exit → Act → World → Prop} {X : Act → World → Prop} {n : Nat} :
  ∀ (p : List Nat) (L : Array Bool) (a : Act) (w : World), fB md l.toArray p L = true → (∀ a' w', X a' w' → wpAny P md l.toArray Q n (q1b L p) a' w') → wpList P l.toArray (q1G X) (pick l p) a w →
   wpAny P md l.toArray Q (p.length + n) L a w := by
 intro p
 induction p with
 | nil => intro L a w hB h hx; rw [List.length_nil, Nat.zero_add]; exact h a w hx
 | cons k p ih =>
  intro L a w hB h hx
  simp only [fB, Bool.and_eq_true, decide_eq_true_eq] at hB
  obtain ⟨⟨hr, ho⟩, hB'⟩ := hB
  obtain ⟨o, ho⟩ := Option.isSome_iff_exists.1 ho
  have ho' : l[k]? = some o := by simpa using ho
  rw [q2O ho'] at hx
  rw [List.length_cons, show p.length + 1 + n = (p.length + n) + 1 from by omega]
  refine ⟨fun h1 => (by rw [hr] at h1; cases h1), fun i hi => ?_⟩
  rw [hr] at hi
  have hik : i = k := by simpa using hi
  subst hik
  have hw : wpOp P l.toArray (q1G X) i (wpList P l.toArray (q1G X) (pick l p)) a w := by unfold wpOp; simp only [ho]; exact hx
  exact wpOp_mono (fun a' w' h' => ih _ _ _ hB' h h') (qag hw)
theorem wpAny_mix {l : List Oper} {Q : Exit → Act → World → Prop} (hQ : ∀ c a a' w, Q (.panic c) a w → Q (.panic c) a' w) (hsel : Region.noSelect l.toArray = true) :
  ∀ (s : List Stp) (L : Array Bool) (a : Act) (w : World), mixB md l.toArray s L = true → q1H P l Q s a w → wpAny P md l.toArray Q (lenS s) L a w := by
 intro s
 induction s with
 | nil => intro L a w hB h; exact ⟨by simpa [mixB] using hB, h⟩
 | cons st s ih =>
  intro L a w hB h
  cases st with
  | q ks =>
   simp only [mixB, Bool.and_eq_true] at hB
   exact wpAny_q hQ hsel (X := q1H P l Q s) ks L a w hB.1 (fun a' h' => ih _ _ _ hB.2 h') h
  | f ks =>
   simp only [mixB, Bool.and_eq_true] at hB
   exact qhr ks L a w hB.1 (fun a' w' h' => ih _ _ _ hB.2 h') h
  | p i j =>
   simp only [mixB, Bool.and_eq_true, decide_eq_true_eq, beq_iff_eq] at hB
   obtain ⟨⟨⟨⟨⟨⟨hr, h1⟩, h2⟩, hi⟩, hj⟩, he⟩, hB'⟩ := hB
   obtain ⟨ha, hb⟩ := h
   show wpAny P md l.toArray Q (2 + lenS s) L a w
   rw [show 2 + lenS s = (1 + lenS s) + 1 from by omega]
   refine ⟨fun h1 => (by rw [hr] at h1; cases h1), fun k hk => ?_⟩
   rw [hr] at hk
   rcases (by simpa using hk : k = i ∨ k = j) with rfl | rfl
   ·obtain ⟨o, ho⟩ := Option.isSome_iff_exists.1 hi
    have ho' : l[k]? = some o := by simpa using ho
    rw [q2O ho'] at ha
    have hw : wpOp P l.toArray (q1G (q1H P l Q s)) k (wpList P l.toArray (q1G (q1H P l Q s)) (pick l [j])) a w := by unfold wpOp; simp only [ho]; exact ha
    exact wpOp_mono (fun a' w' h' => qhr [j] _ a' w' h1 (fun a'' w'' h'' => ih _ _ _ hB' h'') h') (qag hw)
   ·obtain ⟨o, ho⟩ := Option.isSome_iff_exists.1 hj
    have ho' : l[k]? = some o := by simpa using ho
    rw [q2O ho'] at hb
    have hw : wpOp P l.toArray (q1G (q1H P l Q s)) k (wpList P l.toArray (q1G (q1H P l Q s)) (pick l [i])) a w := by unfold wpOp; simp only [ho]; exact hb
    refine wpOp_mono (fun a' w' h' => qhr [i] _ a' w' h2 (fun a'' w'' h'' => ?_) h') (qag hw)
    have := ih _ _ _ hB' h''
    rw [← he] at this
    exact this
end
end Go.Proofs.YtfadkjcfjkmalaaGreatDoor
namespace Go.Proofs.YtfadkjcfjkmalaaGreatDoor
open Go.RowKit
section
variable {P : Program} {md : Region.Mode} {ops : Array Oper} {Q : Exit → Act → World → Prop} {C : World → Prop}
def stillB : Callee → Bool
 | .builtin .len | .builtin .max | .builtin .min | .builtin .cap => true
 | _ => false
def qb6 (o : Oper) : Bool := q5p o || (match o.op with | .load .. => true | .call c => stillB c.callee | _ => false)
theorem qiT {o : Oper} (h : qb6 o = true) {ρ : Operand → Value} {w w1 : World} {n : Next} (hr : (execOp ρ o).run P w = .ok n w1) : ∃ v, n = .value v := by
 unfold qb6 at h
 rw [Bool.or_eq_true] at h
 rcases h with h | h
 ·exact q6D h hr
 ·split at h
  ·rename_i e
   unfold execOp at hr
   rw [e] at hr
   exact q7x _ hr
  ·rename_i c e
   unfold execOp at hr
   rw [e] at hr
   unfold stillB at h
   split at h
   all_goals first
    | (rename_i e2; simp only [resolve, e2, Sem.run_bind, Sem.run_pure, Result.andThen_ok, invoke, builtin] at hr; exact q7x _ (by simpa only [Sem.run_bind, Sem.run_pure] using hr))
    | cases h
  ·cases h
def YieldsX (P : Program) (ops : Array Oper) (C : World → Prop) (o : Oper) (v : Value) (a : Act) : Prop :=
 (Region.wanted o (yielded ops a.tmps) = true ∧ ∀ w, C w → (execOp a.eval o).run P w = .ok (.value v) w) ∨ (Region.wanted o (yielded ops a.tmps) = false ∧ v = undef)
theorem qf4 {i : Nat} {o : Oper} {a : Act} {K : Act → Prop} (hi : ops[i]? = some o) (hs : qb6 o = true) (h : qOp P ops C i K a) : ∃ v, YieldsX P ops C o v a ∧ K (a.put o.dst v) := by
 obtain ⟨v, hy, hK⟩ := yieldsIn_of_qOp hi h
 refine ⟨v, ?_, hK⟩
 rcases hy with ⟨hw, hy⟩ | ⟨hw, rfl⟩
 ·refine Or.inl ⟨hw, fun w hC => ?_⟩
  have h1 := hy w hC
  unfold Oper.quietAt at h1
  generalize hr : (execOp a.eval o).run P w = r at h1
  cases r with
  | ok n w' =>
   obtain ⟨u, rfl⟩ := qiT hs hr
   simp only [Oper.quietUpon] at h1
   rw [h1.1, h1.2]
  | halt x w' => simp only [Oper.quietUpon] at h1
 ·exact Or.inr ⟨hw, rfl⟩
theorem YieldsX.wpOp {i : Nat} {o : Oper} {v : Value} {a : Act} (hi : ops[i]? = some o) (hy : YieldsX P ops C o v a) {K : Act → World → Prop} {w : World} (hC : C w) (h : K (a.put o.dst v) w) : wpOp P ops Q i K a w := by
 unfold Go.wpOp
 simp only [hi]
 rcases hy with ⟨hw, hv⟩ | ⟨hw, rfl⟩
 ·simp only [hw, if_true, Oper.wp, hv w hC, Oper.upon]; exact .inl h
 ·simp only [hw, Bool.false_eq_true, if_false]; exact h
theorem YieldsX.of_same {o : Oper} {v : Value} {a a' : Act} (hy : YieldsX P ops C o v a) (he : execOp a'.eval o = execOp a.eval o)
  (hw : Region.wanted o (yielded ops a'.tmps) = Region.wanted o (yielded ops a.tmps)) : YieldsX P ops C o v a' := by
 unfold YieldsX at *
 rw [he, hw]
 exact hy
theorem wpOp_putX {j : Nat} {oi oj : Oper} {v : Value} (hj : ops[j]? = some oj) (hap : oi.apart ops oj = true)
  (hsi : ∀ cs b, oi.op ≠ .select cs b) (hsj : ∀ cs b, oj.op ≠ .select cs b)
  (hQ : ∀ c a w, Q (.panic c) (a.put oi.dst v) w → Q (.panic c) a w) {K : Act → World → Prop} {a : Act} {w : World}
  (hy : YieldsX P ops C oi v a) (h : wpOp P ops Q j K (a.put oi.dst v) w) :
  wpOp P ops Q j (fun a' w' => YieldsX P ops C oi v a' ∧ K (a'.put oi.dst v) w') a w := by
 obtain ⟨h1, h2, h3⟩ := Oper.apart_spec hap
 have keep : ∀ (a : Act), YieldsX P ops C oi v a → ∀ u, YieldsX P ops C oi v (a.put oj.dst u) := fun a hy u =>
  hy.of_same (execOp_put oi hsi a oj.dst u h3) (wanted_put oi a oj.dst u h3)
 have keepD : ∀ d, YieldsX P ops C oi v { a with defers := d :: a.defers } := fun d => hy.of_same rfl rfl
 unfold wpOp at *
 simp only [hj] at *
 rw [wanted_put oj a oi.dst v h1] at h
 split
 ·rename_i hw
  simp only [hw, if_true] at h
  rcases h with h | ⟨hasks, hlets⟩
  case inr => exact .inr ⟨by unfold Oper.asks at *; rw [execOp_put oj hsj a oi.dst v h1] at hasks; exact hasks, hlets⟩
  refine .inl ?_
  unfold Oper.wp at *
  rw [execOp_put oj hsj a oi.dst v h1] at h
  generalize (execOp a.eval oj).run P w = r at *
  cases r with
  | ok n w' =>
   cases n <;> simp only [Oper.upon] at h ⊢
   case value u => exact ⟨keep a hy u, by rw [← Act.put_comm a v u h2]; exact h⟩
   case skip => exact ⟨keep a hy _, by rw [← Act.put_comm a v undef h2]; exact h⟩
   case defer d =>
    refine ⟨keep _ (keepD d) _, ?_⟩
    rw [← Act.put_comm _ v undef h2, ← Act.put_defers]
    exact h
   case enter f args =>
    refine Calls.mono h fun e w'' he => ?_
    cases e with
    | returned u => exact ⟨keep a hy u, by rw [← Act.put_comm a v u h2]; exact he⟩
    | panicked c => exact hQ _ _ _ he
    | outgrown => exact he
   case row row args => exact Rows.mono h fun u w'' he => ⟨keep a hy u, by rw [← Act.put_comm a v u h2]; exact he⟩
  | halt x w' =>
   cases x <;> simp only [Oper.upon] at h ⊢
   case panic u => exact hQ _ _ _ h
 ·rename_i hw
  simp only [hw] at h
  exact ⟨keep a hy _, by rw [← Act.put_comm a v undef h2]; exact h⟩
def q4S (P : Program) (md : Region.Mode) (ops : Array Oper) (C : World → Prop) (Q : Exit → Act → World → Prop) (n1 m : Nat) : Nat → Array Bool → Act → World → Prop
 | 0, listed, a, w => (∀ j, j < n1 → listed.getD j true = true) ∧ wpAny P md ops Q m listed a w
 | fuel + 1, listed, a, w => Region.ready md ops listed ≠ [] ∧ ∀ i ∈ Region.ready md ops listed, wpOp P ops Q i (fun a' w' => C w' ∧ q4S P md ops C Q n1 m fuel (listed.setIfInBounds i true) a' w') a w
theorem qmj {n1 m : Nat} : ∀ (f : Nat) (listed : Array Bool) (a : Act) (w : World), q4S P md ops C Q n1 m f listed a w → wpAny P md ops Q (f + m) listed a w := by
 intro f
 induction f with
 | zero => intro listed a w h; rw [Nat.zero_add]; exact h.2
 | succ f ih =>
  intro listed a w h
  rw [show f + 1 + m = (f + m) + 1 by omega]
  exact ⟨fun h0 => absurd h0 h.1, fun i hi => wpOp_mono (fun _ _ h' => ih _ _ _ h'.2) (h.2 i hi)⟩
def qdI (md : Region.Mode) (ops : Array Oper) (n1 : Nat) : Bool :=
 (List.range ops.size).all fun j => decide (j < n1) || (List.range n1).all fun i => Region.waitsFor md ops j i
theorem qkP {n1 i j : Nat} {listed : Array Bool} (hp : qdI md ops n1 = true) (hi : i < n1) (hun : listed.getD i true = false) (hj : j ∈ Region.ready md ops listed) : j < n1 := by
 obtain ⟨_, oj, hoj, hall⟩ := mem_ready.1 hj
 have hlt : j < ops.size := (Array.getElem?_eq_some_iff.1 hoj).1
 have h1 := List.all_eq_true.1 hp j (List.mem_range.2 hlt)
 simp only [Bool.or_eq_true, decide_eq_true_eq] at h1
 rcases h1 with h1 | h1
 ·exact h1
 ·obtain ⟨o', ho', e, he, hb, hon⟩ := Region.waitsFor_spec (List.all_eq_true.1 h1 i (List.mem_range.2 hi))
  have : o' = oj := Option.some.inj (ho'.symm.trans hoj)
  subst this
  have h2 := hall e he hb
  rw [hon, getD_both hun] at h2
  cases h2
theorem qjV {n1 m i : Nat} {oi : Oper} {v : Value} (hp : qdI md ops n1 = true) (hin : i < n1) (hi : ops[i]? = some oi) (hsel : ∀ (j : Nat) (o : Oper) cs b, ops[j]? = some o → o.op ≠ .select cs b)
  (hQ : ∀ c a w, Q (.panic c) (a.put oi.dst v) w → Q (.panic c) a w) :
  ∀ (fuel : Nat) (listed : Array Bool) (a : Act) (w : World), C w →
   (∀ j oj, ops[j]? = some oj → j ≠ i → listed.getD j true = false → (∀ e ∈ oj.after, Region.binds md e = true → e.on ≠ i) → oi.apart ops oj = true) →
   i ∈ Region.ready md ops listed → YieldsX P ops C oi v a →
   q4S P md ops C Q n1 m fuel (listed.setIfInBounds i true) (a.put oi.dst v) w → q4S P md ops C Q n1 m (fuel + 1) listed a w := by
 intro fuel
 induction fuel with
 | zero =>
  intro listed a w hC _ hr hy H
  refine ⟨fun h => (by rw [h] at hr; cases hr), fun j hj => ?_⟩
  by_cases hji : j = i
  ·subst hji; exact hy.wpOp hi hC ⟨hC, H⟩
  ·have hjn := qkP hp hin (mem_ready.1 hr).1 hj
   have h1 := H.1 j hjn
   rw [getD_set_ne true (Ne.symm hji), (mem_ready.1 hj).1] at h1
   cases h1
 | succ fuel ih =>
  intro listed a w hC hfree hr hy H
  refine ⟨fun h => (by rw [h] at hr; cases hr), fun j hj => ?_⟩
  by_cases hji : j = i
  ·subst hji; exact hy.wpOp hi hC ⟨hC, H⟩
  ·have h1 := H.2 j (ready_mono hj hji)
   obtain ⟨hjun, oj, hoj, hall⟩ := mem_ready.1 hj
   have hnot : ∀ e ∈ oj.after, Region.binds md e = true → e.on ≠ i := fun e he hb heq => by
    have h1 := hall e he hb
    have h0 := (mem_ready.1 hr).1
    rw [heq] at h1
    rcases Nat.lt_or_ge i listed.size with h' | h'
    ·simp [h'] at h0 h1; rw [h0] at h1; cases h1
    ·simp [Array.getElem?_eq_none h'] at h1
   have h2 := wpOp_putX hoj (hfree j oj hoj hji hjun hnot) (fun cs b => hsel i oi cs b hi) (fun cs b => hsel j oj cs b hoj) hQ hy h1
   have hfree' : ∀ k ok, ops[k]? = some ok → k ≠ i → (listed.setIfInBounds j true).getD k true = false →
     (∀ e ∈ ok.after, Region.binds md e = true → e.on ≠ i) → oi.apart ops ok = true := fun k ok hk hki hun hno => by
    refine hfree k ok hk hki ?_ hno
    by_cases hjk : j = k
    ·subst hjk; exact hjun
    ·rw [getD_set_ne true hjk] at hun; exact hun
   refine wpOp_mono (fun a' w' h3 => ⟨h3.2.1, ih (listed.setIfInBounds j true) a' w' h3.2.1 hfree' (ready_mono hr (Ne.symm hji)) h3.1 ?_⟩) h2
   rw [Array.setIfInBounds_comm _ _ hji]
   exact h3.2.2
def qcB (md : Region.Mode) (ops : Array Oper) (n1 : Nat) : List Nat → Array Bool → Bool
 | [], _ => true
 | k :: p, L => decide (k < n1) && ((ops[k]?).map qb6).getD false && (Region.ready md ops L).contains k && Region.free md ops L k && qcB md ops n1 p (L.setIfInBounds k true)
def q8c (md : Region.Mode) (ops : Array Oper) (n1 : Nat) (s2 : List Stp) : List Stp → Array Bool → Bool
 | [], L => (List.range n1).all (fun j => L.getD j true) && mixB md ops s2 L
 | .q ks :: s, L => qcB md ops n1 ks L && q8c md ops n1 s2 s (q1b L ks)
 | .f ks :: s, L => fB md ops ks L && q8c md ops n1 s2 s (q1b L ks)
 | .p i j :: s, L => decide (Region.ready md ops L = [i, j]) && fB md ops [j] (q1b L [i]) && fB md ops [i] (q1b L [j]) && (ops[i]?).isSome && (ops[j]?).isSome && (q1b L [j, i] == q1b L [i, j]) && q8c md ops n1 s2 s (q1b L [i, j])
def q0N (P : Program) (ops : Array Oper) (C : World → Prop) (X : Act → World → Prop) : List Oper → Act → World → Prop
 | [], a, w => X a w
 | o :: rest, a, w => wpList P ops (q1G fun a' w' => C w' ∧ q0N P ops C X rest a' w') [o] a w
def q0J (P : Program) (l : List Oper) (C : World → Prop) (Q : Exit → Act → World → Prop) (s2 : List Stp) : List Stp → Act → World → Prop
 | [], a, w => q1H P l Q s2 a w
 | .q ks :: s, a, w => wpQuiet P l.toArray C (fun a' => q0J P l C Q s2 s a' w) (pick l ks) a
 | .f ks :: s, a, w => q0N P l.toArray C (q0J P l C Q s2 s) (pick l ks) a w
 | .p i j :: s, a, w => q0N P l.toArray C (q0J P l C Q s2 s) (pick l [i, j]) a w ∧ q0N P l.toArray C (q0J P l C Q s2 s) (pick l [j, i]) a w
theorem wpAnyC_q {l : List Oper} {Q : Exit → Act → World → Prop} {n1 m : Nat} (hp : qdI md l.toArray n1 = true) (hQ : ∀ c a a' w, Q (.panic c) a w → Q (.panic c) a' w) (hsel : Region.noSelect l.toArray = true) {X : Act → World → Prop} {n : Nat} :
  ∀ (p : List Nat) (L : Array Bool) (a : Act) (w : World), C w → qcB md l.toArray n1 p L = true → (∀ a', X a' w → q4S P md l.toArray C Q n1 m n (q1b L p) a' w) → wpQuiet P l.toArray C (fun a' => X a' w) (pick l p) a →
   q4S P md l.toArray C Q n1 m (p.length + n) L a w := by
 intro p
 induction p with
 | nil => intro L a w hC hB h hx; rw [List.length_nil, Nat.zero_add]; exact h a hx
 | cons i p ih =>
  intro L a w hC hB h hx
  simp only [qcB, Bool.and_eq_true, decide_eq_true_eq] at hB
  obtain ⟨⟨⟨⟨hin, ho⟩, hr⟩, hf⟩, hB'⟩ := hB
  cases ho2 : l.toArray[i]? with
  | none => rw [ho2] at ho; cases ho
  | some o =>
   rw [ho2] at ho
   have hs1 : qb6 o = true := by simpa using ho
   have ho' : l[i]? = some o := by simpa using ho2
   rw [q2O ho'] at hx
   have hr' : i ∈ Region.ready md l.toArray L := by simpa using hr
   have hq : qOp P l.toArray C i (wpQuiet P l.toArray C (fun a' => X a' w) (pick l p)) a := by unfold qOp; simp only [ho2]; exact hx
   obtain ⟨v, hy, hK⟩ := qf4 ho2 hs1 hq
   rw [List.length_cons, show p.length + 1 + n = (p.length + n) + 1 from by omega]
   exact qjV hp hin ho2 (Region.noSelect_spec hsel) (fun c a w h => hQ c _ _ w h) _ L a w hC (Region.free_spec ho2 hf) hr' hy (ih _ _ _ hC hB' h hK)
theorem qf5 {l : List Oper} {Q : Exit → Act → World → Prop} {X : Act → World → Prop} {n n1 m : Nat} :
  ∀ (p : List Nat) (L : Array Bool) (a : Act) (w : World), C w → fB md l.toArray p L = true → (∀ a' w', C w' → X a' w' → q4S P md l.toArray C Q n1 m n (q1b L p) a' w') → q0N P l.toArray C X (pick l p) a w →
   q4S P md l.toArray C Q n1 m (p.length + n) L a w := by
 intro p
 induction p with
 | nil => intro L a w hC hB h hx; rw [List.length_nil, Nat.zero_add]; exact h a w hC hx
 | cons k p ih =>
  intro L a w hC hB h hx
  simp only [fB, Bool.and_eq_true, decide_eq_true_eq] at hB
  obtain ⟨⟨hr, ho⟩, hB'⟩ := hB
  obtain ⟨o, ho⟩ := Option.isSome_iff_exists.1 ho
  have ho' : l[k]? = some o := by simpa using ho
  rw [q2O ho'] at hx
  rw [List.length_cons, show p.length + 1 + n = (p.length + n) + 1 from by omega]
  refine ⟨fun h1 => (by rw [hr] at h1; cases h1), fun i hi => ?_⟩
  rw [hr] at hi
  have hik : i = k := by simpa using hi
  subst hik
  rw [q0N] at hx
  have hw : wpOp P l.toArray (q1G fun a' w' => C w' ∧ q0N P l.toArray C X (pick l p) a' w') i (fun a' w' => C w' ∧ q0N P l.toArray C X (pick l p) a' w') a w := by
   unfold wpOp; simp only [ho]; exact hx
  exact wpOp_mono (fun a' w' h' => ⟨h'.1, ih _ _ _ h'.1 hB' h h'.2⟩) (qag hw)
theorem qmk {l : List Oper} {Q : Exit → Act → World → Prop} {n1 : Nat} {s2 : List Stp} (hp : qdI md l.toArray n1 = true) (hQ : ∀ c a a' w, Q (.panic c) a w → Q (.panic c) a' w) (hsel : Region.noSelect l.toArray = true) :
  ∀ (s : List Stp) (L : Array Bool) (a : Act) (w : World), C w → q8c md l.toArray n1 s2 s L = true → q0J P l C Q s2 s a w → q4S P md l.toArray C Q n1 (lenS s2) (lenS s) L a w := by
 intro s
 induction s with
 | nil =>
  intro L a w hC hB h
  simp only [q8c, Bool.and_eq_true] at hB
  exact ⟨fun j hj => List.all_eq_true.1 hB.1 j (List.mem_range.2 hj), wpAny_mix hQ hsel s2 L a w hB.2 h⟩
 | cons st s ih =>
  intro L a w hC hB h
  cases st with
  | q ks =>
   simp only [q8c, Bool.and_eq_true] at hB
   exact wpAnyC_q hp hQ hsel (X := q0J P l C Q s2 s) ks L a w hC hB.1 (fun a' h' => ih _ _ _ hC hB.2 h') h
  | f ks =>
   simp only [q8c, Bool.and_eq_true] at hB
   exact qf5 ks L a w hC hB.1 (fun a' w' hC' h' => ih _ _ _ hC' hB.2 h') h
  | p i j =>
   simp only [q8c, Bool.and_eq_true, decide_eq_true_eq, beq_iff_eq] at hB
   obtain ⟨⟨⟨⟨⟨⟨hr, h1⟩, h2⟩, hi⟩, hj⟩, he⟩, hB'⟩ := hB
   obtain ⟨ha, hb⟩ := h
   show q4S P md l.toArray C Q n1 (lenS s2) (2 + lenS s) L a w
   rw [show 2 + lenS s = (1 + lenS s) + 1 from by omega]
   refine ⟨fun h1 => (by rw [hr] at h1; cases h1), fun k hk => ?_⟩
   rw [hr] at hk
   rcases (by simpa using hk : k = i ∨ k = j) with rfl | rfl
   ·obtain ⟨o, ho⟩ := Option.isSome_iff_exists.1 hi
    have ho' : l[k]? = some o := by simpa using ho
    rw [q2O ho', q0N] at ha
    have hw : wpOp P l.toArray (q1G fun a' w' => C w' ∧ q0N P l.toArray C (q0J P l C Q s2 s) (pick l [j]) a' w') k (fun a' w' => C w' ∧ q0N P l.toArray C (q0J P l C Q s2 s) (pick l [j]) a' w') a w := by
     unfold wpOp; simp only [ho]; exact ha
    exact wpOp_mono (fun a' w' h' => ⟨h'.1, qf5 [j] _ a' w' h'.1 h1 (fun a'' w'' hC'' h'' => ih _ _ _ hC'' hB' h'') h'.2⟩) (qag hw)
   ·obtain ⟨o, ho⟩ := Option.isSome_iff_exists.1 hj
    have ho' : l[k]? = some o := by simpa using ho
    rw [q2O ho', q0N] at hb
    have hw : wpOp P l.toArray (q1G fun a' w' => C w' ∧ q0N P l.toArray C (q0J P l C Q s2 s) (pick l [i]) a' w') k (fun a' w' => C w' ∧ q0N P l.toArray C (q0J P l C Q s2 s) (pick l [i]) a' w') a w := by
     unfold wpOp; simp only [ho]; exact hb
    refine wpOp_mono (fun a' w' h' => ⟨h'.1, qf5 [i] _ a' w' h'.1 h2 (fun a'' w'' hC'' h'' => ?_) h'.2⟩) (qag hw)
    have := ih _ _ _ hC'' hB' h''
    rw [← he] at this
    exact this
def qkF (l : List Oper) (n1 : Nat) (s s2 : List Stp) : Bool :=
 Region.noSelect l.toArray && qdI .any l.toArray n1 && decide (lenS s + lenS s2 = l.length) && q8c .any l.toArray n1 s2 s (Array.replicate l.length false)
theorem qdM (C : World → Prop) {id : Nat} {a : Act} {w : World} {l : List Oper} (n1 : Nat) (s s2 : List Stp) (hm : P.follows .mixedOrders = true) (hB : qkF l n1 s s2 = true) (hC : C w.drew)
  (h : ∀ Q' : Exit → Act → World → Prop, (∀ a w, Q .normal a w → Q' .normal a w) → q0J P l C Q' s2 s a w.drew) :
  (Code.region id l.toArray true).wp P Q a w := by
 simp only [qkF, Bool.and_eq_true, decide_eq_true_eq] at hB
 obtain ⟨⟨⟨hsel, hp⟩, hlen⟩, hB⟩ := hB
 refine Code.wp_mono (Q := noPan Q) (fun e a w hq => by cases e <;> first | exact hq | exact (hq : False).elim) ?_
 refine wp_region_any hm ?_
 have := qmj (C := C) _ _ _ _ (qmk (md := .any) (Q := noPan Q) hp (fun c a a' w hq => hq) hsel s (Array.replicate l.length false) a w.drew hC hB (h (noPan Q) fun _ _ h => h))
 rw [show lenS s + lenS s2 = l.toArray.size from by simp; omega] at this
 simpa using this
end
theorem qiU {P : Program} {o : Oper} {a : Act} {w : World} {ty : TypeId} {x : Operand} {p : Addr} {v : Value} (ho : o.op = .load ty x) (hx : a.eval x = .pointer (some p)) (hd : ∀ w, (isAgg ty).run P w = .ok false w) (hc : w.cell? p = some v) :
  (execOp a.eval o).run P w = .ok (.value v) w := by
 unfold execOp
 simp only [ho, hx]
 simp [go_sem, hc, hd]
def aggB (P : Program) (ty : TypeId) : Bool := match P.underlying ty with | some (.struct _) | some (.array _ _) | none => true | _ => false
theorem isAgg_no {P : Program} {ty : TypeId} (h : aggB P ty = false) (w : World) : (isAgg ty).run P w = .ok false w := by
 unfold aggB at h
 cases e : P.underlying ty with
 | none => rw [e] at h; cases h
 | some d =>
  rw [e] at h
  simp only [isAgg, Sem.run_bind, run_underlying e, Result.andThen_ok]
  split
  ·cases h
  ·cases h
  ·rfl
theorem q9N {P : Program} {o : Oper} {a : Act} {B : Nat} {w0 : World} {K : Act → Prop} {ty : TypeId} {x : Operand} {b off : Nat} {v : Value} (ho : o.op = .load ty x) (hx : a.eval x = .pointer (some ⟨b, off, none⟩)) (hd : aggB P ty = false)
  (hc : w0.cell? ⟨b, off, none⟩ = some v) (hb : b < B) (hK : K (a.put o.dst v)) : o.quiet P a (fun w' => Below B w0 w') K :=
 qix v (fun w hw => qiU ho hx (isAgg_no hd) ((hw.cell (p := ⟨b, off, none⟩) hb).trans hc)) hK
end Go.Proofs.YtfadkjcfjkmalaaGreatDoor
namespace Go.Proofs.YtfadkjcfjkmalaaGreatDoor
open Go.RowKit
theorem add_plain' (g i j : Nat) : (⟨g, i, none⟩ : Addr).add j = ⟨g, i + j, none⟩ := by unfold Addr.add; split <;> simp_all
def flat (n sz : Nat) (c : Nat → Nat → Value) : List Value := (List.range (n * sz)).map fun q => c (q / sz) (q % sz)
theorem flat_at {n sz : Nat} {c : Nat → Nat → Value} {q : Nat} {u : Value} (h : (flat n sz c)[q]? = some u) : q < n * sz ∧ u = c (q / sz) (q % sz) := by
 have hq : q < n * sz := by have := (List.getElem?_eq_some_iff.1 h).1; simpa [flat] using this
 refine ⟨hq, ?_⟩
 simp [flat, hq] at h
 exact h.symm
theorem flat_ints (l : List Int) : flat l.length 1 (fun i _ => .int .i64 (nth l i)) = l.map (Value.int .i64) := by
 apply List.ext_getElem (by simp [flat])
 intro i h1 h2
 have h3 : i < l.length := by simpa using h2
 simp [flat, nth, List.getD, h3]
theorem SlAt.src {w : World} {v : Value} {n sz : Nat} {c : Nat → Nat → Value} (h : SlAt w v n sz c) : ∃ ao cap, v = .slice ao n cap ∧ n ≤ cap ∧ cap ≤ maxLen ∧
  ∀ W : World, Below w.heap.size w W → ((ao = none ∧ n = 0 ∧ cap = 0) ∨ ∃ ad, ao = some ad ∧ ∀ q u, (flat n sz c)[q]? = some u → W.cell? (ad.add q) = some u) := by
 obtain ⟨ao, cap, rfl, h1, h2, h3, h4⟩ := h
 refine ⟨ao, cap, rfl, h1, h2, fun W hW => ?_⟩
 by_cases hn : 0 < n
 ·obtain ⟨b, off, e, hlt, hc⟩ := h3 hn
  refine Or.inr ⟨_, e, fun q u hq => ?_⟩
  obtain ⟨hq1, rfl⟩ := flat_at hq
  have hs : 0 < sz := Nat.pos_of_ne_zero (by rintro rfl; simp at hq1)
  have hi : q / sz < n := Nat.div_lt_of_lt_mul (by rwa [Nat.mul_comm])
  rw [add_plain', ← hc (q / sz) (q % sz) hi (Nat.mod_lt _ hs), show off + q / sz * sz + q % sz = off + q from by rw [Nat.add_assoc, Nat.mul_comm, Nat.div_add_mod]]
  exact hW.cell (p := ⟨b, off + q, none⟩) hlt
 ·have hn0 : n = 0 := by omega
  subst hn0
  cases ao with
  | none => exact Or.inl ⟨rfl, rfl, h4 rfl⟩
  | some ad => exact Or.inr ⟨ad, rfl, fun q u hq => absurd (flat_at hq).1 (by omega)⟩
theorem IntsAt.src {w : World} {v : Value} {l : List Int} (h : IntsAt w v l) : ∃ ao cap, v = .slice ao l.length cap ∧ l.length ≤ cap ∧ cap ≤ maxLen ∧
  ∀ W : World, Below w.heap.size w W → ((ao = none ∧ l.length = 0 ∧ cap = 0) ∨ ∃ ad, ao = some ad ∧ ∀ q u, (l.map (Value.int .i64))[q]? = some u → W.cell? (ad.add q) = some u) := by
 have := SlAt.src h
 rwa [show flat l.length 1 (fun i _ => Value.int .i64 (l.getD i 0)) = l.map (Value.int .i64) from flat_ints l] at this
theorem qcP {w : World} {g : Nat} {x y : Value} {t : TypeId} (h : w.heap[g]? = some (.cells #[x, y] t (0, 0))) :
  w.cell? ⟨g, 0, none⟩ = some x ∧ w.cell? ⟨g, 1, none⟩ = some y ∧ w.frozen? ⟨g, 0, none⟩ = false ∧ w.frozen? ⟨g, 1, none⟩ = false ∧ g < w.heap.size := by
 refine ⟨?_, ?_, frozen_of_row w g 0 _ t h, frozen_of_row w g 1 _ t h, (Array.getElem?_eq_some_iff.1 h).1⟩
 ·rw [cell_of_row w g 0 _ t (0, 0) h]; rfl
 ·rw [cell_of_row w g 1 _ t (0, 0) h]; rfl
def SlIn (w : World) (v : Value) (n sz : Nat) (c : Nat → Nat → Value) (N : Nat → Prop) : Prop :=
 ∃ ao cap, v = .slice ao n cap ∧ n ≤ cap ∧ cap ≤ maxLen ∧
  (0 < n → ∃ b off, ao = some ⟨b, off, none⟩ ∧ b < w.heap.size ∧ N b ∧ ∀ i j, i < n → j < sz → w.cell? ⟨b, off + i * sz + j, none⟩ = some (c i j)) ∧ (ao = none → cap = 0)
theorem SlIn.sl {w : World} {v : Value} {n sz : Nat} {c : Nat → Nat → Value} {N : Nat → Prop} (h : SlIn w v n sz c N) : SlAt w v n sz c := by
 obtain ⟨ao, cap, rfl, h1, h2, h3, h4⟩ := h
 refine ⟨ao, cap, rfl, h1, h2, fun h0 => ?_, h4⟩
 obtain ⟨b, off, e, hlt, _, hc⟩ := h3 h0
 exact ⟨b, off, e, hlt, hc⟩
theorem qjW {w w' : World} {b o : Nat} (h : w'.heap[b]? = w.heap[b]?) : w'.cell? ⟨b, o, none⟩ = w.cell? ⟨b, o, none⟩ := by
 simp only [World.cell?, h]
theorem SlIn.keep {w w' : World} {v : Value} {n sz : Nat} {c : Nat → Nat → Value} {N N' : Nat → Prop} (h : SlIn w v n sz c N) (hs : w.heap.size ≤ w'.heap.size) (hk : ∀ b, b < w.heap.size → N b → w'.heap[b]? = w.heap[b]? ∧ N' b) : SlIn w' v n sz c N' := by
 obtain ⟨ao, cap, rfl, h1, h2, h3, h4⟩ := h
 refine ⟨ao, cap, rfl, h1, h2, fun h0 => ?_, h4⟩
 obtain ⟨b, off, e, hlt, hN, hc⟩ := h3 h0
 obtain ⟨h5, h6⟩ := hk b hlt hN
 exact ⟨b, off, e, Nat.lt_of_lt_of_le hlt hs, h6, fun i j hi hj => (qjW h5).trans (hc i j hi hj)⟩
def Pair2 (w : World) (b : Nat) (x y : Value) : Prop := b < w.heap.size ∧ w.cell? ⟨b, 0, none⟩ = some x ∧ w.cell? ⟨b, 1, none⟩ = some y
theorem Pair2.below {w w' : World} {b : Nat} {x y : Value} (h : Pair2 w b x y) (hb : Below w.heap.size w w') : Pair2 w' b x y :=
 ⟨Nat.lt_of_lt_of_le h.1 hb.size, (hb.cell (p := ⟨b, 0, none⟩) h.1).trans h.2.1, (hb.cell (p := ⟨b, 1, none⟩) h.1).trans h.2.2⟩
def Quad (w : World) (b : Nat) (x y z u : Value) : Prop := b < w.heap.size ∧ w.cell? ⟨b, 0, none⟩ = some x ∧ w.cell? ⟨b, 1, none⟩ = some y ∧ w.cell? ⟨b, 2, none⟩ = some z ∧ w.cell? ⟨b, 3, none⟩ = some u
theorem Quad.below {w w' : World} {b : Nat} {x y z u : Value} (h : Quad w b x y z u) (hb : Below w.heap.size w w') : Quad w' b x y z u :=
 ⟨Nat.lt_of_lt_of_le h.1 hb.size, (hb.cell (p := ⟨b, 0, none⟩) h.1).trans h.2.1, (hb.cell (p := ⟨b, 1, none⟩) h.1).trans h.2.2.1, (hb.cell (p := ⟨b, 2, none⟩) h.1).trans h.2.2.2.1, (hb.cell (p := ⟨b, 3, none⟩) h.1).trans h.2.2.2.2⟩
def scan (f : Nat → Int) (n : Nat) : Int := qd ((List.range n).map f)
theorem q3T {f : Nat → Int} {n : Nat} (h : ∀ j, j < n → f j = 0) : scan f n = 0 := by
 unfold scan
 rw [qcD]
 intro x hx
 obtain ⟨j, hj, rfl⟩ := List.mem_map.1 hx
 exact h j (List.mem_range.1 hj)
theorem qiy {f : Nat → Int} {n : Nat} (h : scan f n = 0) : ∀ j, j < n → f j = 0 := by
 unfold scan at h
 rw [qcD] at h
 exact fun j hj => h _ (List.mem_map.2 ⟨j, List.mem_range.2 hj, rfl⟩)
theorem q8d {f : Nat → Int} {n k : Nat} (h : ∀ j, j < k → f j = 0) (hk : k < n) (hne : f k ≠ 0) : scan f n = f k := by
 unfold scan
 obtain ⟨m, rfl⟩ : ∃ m, n = k + (m + 1) := ⟨n - k - 1, by omega⟩
 rw [List.range_add, List.map_append, qc7]
 ·rw [List.range_succ_eq_map]
  simp [qd, hne]
 ·intro x hx
  obtain ⟨j, hj, rfl⟩ := List.mem_map.1 hx
  exact h j (List.mem_range.1 hj)
def qc3 (f : Nat → Int) (n : Nat) : Int := (((List.range n).find? (fun i => f i != 0)).getD 0 : Nat)
theorem qiz {f : Nat → Int} {n : Nat} (h : ∀ j, j < n → f j = 0) : qc3 f n = 0 := by
 unfold qc3
 rw [List.find?_eq_none.2]
 ·rfl
 ·intro x hx; rw [h x (List.mem_range.1 hx)]; simp
theorem qf6 {f : Nat → Int} {n k : Nat} (h : ∀ j, j < k → f j = 0) (hk : k < n) (hne : f k ≠ 0) : qc3 f n = k := by
 unfold qc3
 obtain ⟨m, rfl⟩ : ∃ m, n = k + (m + 1) := ⟨n - k - 1, by omega⟩
 rw [List.range_add, List.find?_append, List.find?_eq_none.2, List.range_succ_eq_map]
 ·simp [hne]
 ·intro x hx; rw [h x (List.mem_range.1 hx)]; simp
section
variable {H : Type} {enc : TypeId × Value → H} {P : Program} {w : World} {base : Nat} {spare : Nat → Bool} {held : Bool}
theorem cell_lt {w : World} {a : Addr} {v : Value} (h : w.cell? a = some v) : a.block < w.heap.size := by
 unfold World.cell? at h
 cases e : w.heap[a.block]? with
 | none => simp [e] at h
 | some o => exact (Array.getElem?_eq_some_iff.1 e).1
theorem list_of {α : Type} (d : α) : ∀ (n : Nat) {R : Nat → α → Prop}, (∀ i, i < n → ∃ x, R i x) → ∃ l : List α, l.length = n ∧ ∀ i, i < n → R i (l.getD i d) := by
 intro n
 induction n with
 | zero => intro R _; exact ⟨[], rfl, fun i hi => absurd hi (by omega)⟩
 | succ n ih =>
  intro R h
  obtain ⟨l, hl, hr⟩ := ih (fun i hi => h i (by omega))
  obtain ⟨x, hx⟩ := h n (by omega)
  refine ⟨l ++ [x], by simp [hl], fun i hi => ?_⟩
  rcases Nat.lt_or_ge i n with h1 | h1
  ·have : (l ++ [x]).getD i d = l.getD i d := by simp [List.getD, List.getElem?_append_left (show i < l.length by omega)]
   rw [this]; exact hr i h1
  ·have e : i = n := by omega
   subst e
   have : (l ++ [x]).getD i d = x := by rw [← hl]; simp [List.getD]
   rw [this]; exact hx
theorem SlAt.congr {w : World} {v : Value} {n sz : Nat} {c d : Nat → Nat → Value} (h : SlAt w v n sz c) (e : ∀ i j, i < n → j < sz → c i j = d i j) : SlAt w v n sz d := by
 obtain ⟨ao, cap, rfl, h1, h2, h3, h4⟩ := h
 refine ⟨ao, cap, rfl, h1, h2, fun h0 => ?_, h4⟩
 obtain ⟨b, off, e1, hlt, hc⟩ := h3 h0
 exact ⟨b, off, e1, hlt, fun i j hi hj => by rw [hc i j hi hj, e i j hi hj]⟩
theorem qjX {t e : TypeId} {sz fuel : Nat} {v : Value} {x : DataW H × List MemPlace} (ht : P.underlying t = some (.slice e)) (hc : P.cellsOf e = sz) (hsz : 0 < sz)
  (h : DataW.trod enc P w base spare held fuel t [v] = some x) :
  ∃ (n : Nat) (css : Nat → List Value), SlAt w v n sz (fun i j => (css i).getD j undef) ∧ ∀ i, i < n → (css i).length = sz ∧ ∃ m y, DataW.trod enc P w base spare held m e (css i) = some y := by
 rcases DataW.trod_slice ht h with ⟨h0, _⟩ | ⟨a, len, cap, elems, rest, m, _, h0, _, hb, hl, hm, hlen, hel, _, _⟩
 ·obtain rfl : v = .slice none 0 0 := by simpa using h0
  exact ⟨0, fun _ => [], ⟨none, 0, rfl, by simp, by simp, fun h => absurd h (by omega), fun _ => rfl⟩, fun i hi => absurd hi (by omega)⟩
 ·obtain rfl : v = .slice (some a) len cap := by simpa using h0
  have each : ∀ i, i < len → ∃ cs : List Value, w.cells? base (a.add (i * sz)) sz = some cs ∧ ∃ y, DataW.trod enc P w base spare held m e cs = some y := by
   intro i hi
   have h1 := hel i hi
   rw [hc] at h1
   have h2 : elems[i]? = some elems[i] := by simp
   rw [h2, Option.bind_eq_some_iff] at h1
   obtain ⟨cs, h3, h4⟩ := h1
   exact ⟨cs, h3, _, h4⟩
  obtain ⟨css, hcl, hcs⟩ := list_of ([] : List Value) len each
  have hcell : ∀ i j, i < len → j < sz → w.cell? ((a.add (i * sz)).add j) = some ((css.getD i []).getD j undef) := by
   intro i j hi hj
   obtain ⟨_, h2, h3⟩ := World.cells?_some (hcs i hi).1
   rw [h3 j hj]
   generalize css.getD i [] = c at h2 ⊢
   rw [List.getElem?_eq_getElem (by omega)]
   simp [List.getD, List.getElem?_eq_getElem (show j < c.length by omega)]
  refine ⟨len, fun i => css.getD i [], ⟨some a, cap, rfl, hl, hm, fun hp => ?_, fun h => by cases h⟩, fun i hi => ⟨(World.cells?_some (hcs i hi).1).2.1, m, (hcs i hi).2⟩⟩
  obtain ⟨b, off, spot⟩ := a
  have hspot : spot = none := by simpa [Addr.add] using World.cell?_spot (hcell 0 0 hp hsz)
  subst hspot
  refine ⟨b, off, rfl, by simpa [Addr.add] using cell_lt (hcell 0 0 hp hsz), fun i j hi hj => ?_⟩
  have := hcell i j hi hj
  rw [add_plain', add_plain'] at this
  exact this
end
end Go.Proofs.YtfadkjcfjkmalaaGreatDoor
namespace Go.Proofs.YtfadkjcfjkmalaaGreatDoor.Ev
open Go.RowKit
inductive CK where
 | int (k : IntKind)
 | bool
 | str
 | sl (e : TypeId)
def findF (P : Program) (go : TypeId → Nat → Option CK) (j : Nat) : List Field → Option CK
 | [] => none
 | f :: l => bif Nat.ble f.offset j && Nat.blt j (f.offset + P.cellsOf f.type) then go f.type (j - f.offset) else findF P go j l
def q0x (P : Program) : Nat → TypeId → Nat → Option CK
 | 0, _, _ => none
 | k + 1, t, j => match P.underlying t with
  | some (.int ik) => bif Nat.beq j 0 then some (.int ik) else none
  | some .bool => bif Nat.beq j 0 then some .bool else none
  | some .string => bif Nat.beq j 0 then some .str else none
  | some (.slice e) => bif Nat.beq j 0 then some (.sl e) else none
  | some (.array n e) => bif Nat.blt j (n * P.cellsOf e) then q0x P k e (j % P.cellsOf e) else none
  | some (.struct fs) => findF P (q0x P k) j fs.toList
  | _ => none
def kindB (P : Program) : Nat → TypeId → Bool
 | 0, _ => false
 | d + 1, t => (List.range (P.cellsOf t)).all fun j => match q0x P 20 t j with
  | some (.sl e) => Nat.blt 0 (P.cellsOf e) && kindB P d e
  | some _ => true
  | none => false
def okK (P : Program) : Nat → CK → CV → Prop
 | _, .int ik, c => ∃ n, c = .v (.int ik n) ∧ (Lit.int ik n).wf = true
 | _, .bool, c => ∃ b, c = .v (.bool b)
 | _, .str, c => ∃ s, c = .v (.string s) ∧ s.size ≤ maxLen
 | 0, .sl e, c => False
 | d + 1, .sl e, c => ∃ n cc, c = .sl (P.cellsOf e) n cc ∧ n ≤ maxLen ∧ ∀ i j, i < n → j < P.cellsOf e → ∃ κ, q0x P 20 e j = some κ ∧ okK P d κ (cc i j)
section
variable {H : Type} {enc : TypeId × Value → H} {P : Program} {w : World} {base : Nat} {spare : Nat → Bool} {held : Bool}
def leaf (H : Type) (enc : TypeId × Value → H) (P : Program) (w : World) (base : Nat) (spare : Nat → Bool) (held : Bool) : CK → Value → Prop
 | .int ik, u => ∃ n, u = .int ik n ∧ (Lit.int ik n).wf = true
 | .bool, u => ∃ b, u = .bool b
 | .str, u => ∃ s : ByteArray, u = .string s ∧ s.size ≤ maxLen
 | .sl e, u => ∃ t m y, P.underlying t = some (.slice e) ∧ DataW.trod enc P w base spare held m t [u] = some y
theorem leaf_of : ∀ (k : Nat) (t : TypeId) (fuel : Nat) (cs : List Value) (x : DataW H × List MemPlace) (j : Nat) (κ : CK), q0x P k t j = some κ → DataW.trod enc P w base spare held fuel t cs = some x → ∃ u, cs[j]? = some u ∧ leaf H enc P w base spare held κ u := by
 intro k
 induction k with
 | zero => intro t fuel cs x j κ h; cases h
 | succ k ih =>
  intro t fuel cs x j κ hk h
  unfold q0x at hk
  have zero : ∀ {κ' : CK}, (bif Nat.beq j 0 then some κ' else none) = some κ → j = 0 ∧ κ' = κ := by
   intro κ' e
   cases hb : Nat.beq j 0 with
   | false => rw [hb] at e; cases e
   | true => rw [hb] at e; cases e; exact ⟨Nat.eq_of_beq_eq_true hb, rfl⟩
  split at hk
  ·rename_i ik ht
   obtain ⟨rfl, rfl⟩ := zero hk
   obtain ⟨n, rfl, _, h2⟩ := DataW.trod_int ht h
   exact ⟨_, rfl, n, rfl, h2⟩
  ·rename_i ht
   obtain ⟨rfl, rfl⟩ := zero hk
   obtain ⟨b, rfl, _⟩ := DataW.trod_bool ht h
   exact ⟨_, rfl, b, rfl⟩
  ·rename_i ht
   obtain ⟨rfl, rfl⟩ := zero hk
   obtain ⟨s, rfl, _, h2⟩ := DataW.trod_string ht h
   exact ⟨_, rfl, s, rfl, h2⟩
  ·rename_i e ht
   obtain ⟨rfl, rfl⟩ := zero hk
   rcases DataW.trod_slice ht h with ⟨rfl, _⟩ | ⟨a, len, cap, elems, rest, m, _, rfl, _⟩
   ·exact ⟨_, rfl, t, fuel, x, ht, h⟩
   ·exact ⟨_, rfl, t, fuel, x, ht, h⟩
  ·rename_i n e ht
   cases hb : Nat.blt j (n * P.cellsOf e) with
   | false => rw [hb] at hk; cases hk
   | true =>
    rw [hb] at hk
    simp only [cond_true] at hk
    have hj : j < n * P.cellsOf e := Nat.le_of_ble_eq_true hb
    have hpos : 0 < P.cellsOf e := by
     rcases Nat.eq_zero_or_pos (P.cellsOf e) with q | q
     ·rw [q, Nat.mul_zero] at hj; omega
     ·exact q
    obtain ⟨xs, m, _, _, hl, hxs, hf⟩ := DataW.trod_array ht h
    have hi : j / P.cellsOf e < n := Nat.div_lt_of_lt_mul (by rwa [Nat.mul_comm])
    have h5 := hf _ hi
    rw [show xs[j / P.cellsOf e]? = some xs[j / P.cellsOf e] from List.getElem?_eq_getElem (by omega)] at h5
    obtain ⟨u, h6, h7⟩ := ih e _ _ _ _ _ hk h5
    refine ⟨u, ?_, h7⟩
    rw [List.getElem?_take, if_pos (Nat.mod_lt _ hpos), List.getElem?_drop] at h6
    rwa [Nat.div_add_mod' j (P.cellsOf e)] at h6
  ·rename_i fs ht
   obtain ⟨xs, m, _, _, hl, hxs, hf⟩ := DataW.trod_struct ht h
   have find : ∀ l : List Field, (∀ f ∈ l, ∃ i : Nat, fs[i]? = some f) → findF P (q0x P k) j l = some κ → ∃ (f : Field) (i : Nat), fs[i]? = some f ∧ f.offset ≤ j ∧ j < f.offset + P.cellsOf f.type ∧ q0x P k f.type (j - f.offset) = some κ := by
    intro l
    induction l with
    | nil => intro _ h; cases h
    | cons f l ihl =>
     intro hm h
     unfold findF at h
     cases hb : (Nat.ble f.offset j && Nat.blt j (f.offset + P.cellsOf f.type)) with
     | false => rw [hb] at h; exact ihl (fun g hg => hm g (by simp [hg])) h
     | true =>
      rw [hb] at h
      simp only [Bool.and_eq_true] at hb
      obtain ⟨i, hi⟩ := hm f (by simp)
      exact ⟨f, i, hi, Nat.le_of_ble_eq_true hb.1, Nat.le_of_ble_eq_true hb.2, h⟩
   obtain ⟨f, i, hi, h1, h2, h3⟩ := find fs.toList (fun f hf => by
    obtain ⟨i, hi, e⟩ := List.getElem_of_mem hf
    exact ⟨i, by rw [← e]; simp at hi ⊢⟩) hk
   have h5 := hf i f hi
   have hlt : i < fs.size := by
    rcases Nat.lt_or_ge i fs.size with q | q
    ·exact q
    ·rw [Array.getElem?_eq_none q] at hi; cases hi
   rw [show xs[i]? = some xs[i] from List.getElem?_eq_getElem (by omega)] at h5
   obtain ⟨u, h6, h7⟩ := ih _ _ _ _ _ _ h3 h5
   refine ⟨u, ?_, h7⟩
   rw [List.getElem?_take, if_pos (by omega), List.getElem?_drop] at h6
   rwa [show f.offset + (j - f.offset) = j by omega] at h6
  ·cases hk
theorem open_cell : ∀ (d : Nat) (t : TypeId) (fuel : Nat) (cs : List Value) (x : DataW H × List MemPlace), kindB P d t = true → DataW.trod enc P w base spare held fuel t cs = some x → ∀ j, j < P.cellsOf t → ∃ κ c u, q0x P 20 t j = some κ ∧ cs[j]? = some u ∧ RelF w (fun _ => True) c u ∧ okK P d κ c := by
 intro d
 induction d with
 | zero => intro t fuel cs x h; cases h
 | succ d ih =>
  intro t fuel cs x hB h j hj
  have hB' := hB
  unfold kindB at hB
  have h1 := List.all_eq_true.1 hB j (List.mem_range.2 hj)
  cases hk : q0x P 20 t j with
  | none => rw [hk] at h1; cases h1
  | some κ =>
   rw [hk] at h1
   obtain ⟨u, h2, h3⟩ := leaf_of 20 t fuel cs x j κ hk h
   cases κ with
   | int ik =>
    obtain ⟨n, rfl, hw⟩ := h3
    exact ⟨_, .v (.int ik n), _, rfl, h2, ⟨rfl, rfl⟩, by simp only [okK]; exact ⟨n, rfl, hw⟩⟩
   | bool =>
    obtain ⟨b, rfl⟩ := h3
    exact ⟨_, .v (.bool b), _, rfl, h2, ⟨rfl, rfl⟩, by simp only [okK]; exact ⟨b, rfl⟩⟩
   | str =>
    obtain ⟨s, rfl, hs⟩ := h3
    exact ⟨_, .v (.string s), _, rfl, h2, ⟨rfl, rfl⟩, by simp only [okK]; exact ⟨s, rfl, hs⟩⟩
   | sl e =>
    simp only [Bool.and_eq_true] at h1
    have hpos : 0 < P.cellsOf e := Nat.le_of_ble_eq_true h1.1
    obtain ⟨t', m, y, ht, hy⟩ := h3
    obtain ⟨n, css, ⟨ao, cap, rfl, g1, g2, g3, g4⟩, hel⟩ := qjX ht rfl hpos hy
    have each : ∀ i j, i < n → j < P.cellsOf e → ∃ c : CV, ∃ κ u, q0x P 20 e j = some κ ∧ (css i)[j]? = some u ∧ RelF w (fun _ => True) c u ∧ okK P d κ c := by
     intro i j hi hj
     obtain ⟨_, m', y', h6⟩ := hel i hi
     obtain ⟨κ, c, u, q⟩ := ih e m' (css i) y' h1.2 h6 j hj
     exact ⟨c, κ, u, q⟩
    classical
    let cc : Nat → Nat → CV := fun i j => if h : i < n ∧ j < P.cellsOf e then Classical.choose (each i j h.1 h.2) else .v (.bool false)
    have hcc : ∀ i j, i < n → j < P.cellsOf e → ∃ κ u, q0x P 20 e j = some κ ∧ (css i)[j]? = some u ∧ RelF w (fun _ => True) (cc i j) u ∧ okK P d κ (cc i j) := by
     intro i j hi hj
     have : cc i j = Classical.choose (each i j hi hj) := dif_pos ⟨hi, hj⟩
     rw [this]
     exact Classical.choose_spec (each i j hi hj)
    refine ⟨_, .sl (P.cellsOf e) n cc, _, rfl, h2, ⟨ao, cap, rfl, g1, g2, g4, fun h0 => ?_⟩, by
     simp only [okK]
     exact ⟨n, cc, rfl, Nat.le_trans g1 g2, fun i j hi hj => by obtain ⟨κ, u, q1, _, _, q4⟩ := hcc i j hi hj; exact ⟨κ, q1, q4⟩⟩⟩
    obtain ⟨b, off, e1, hlt, hc⟩ := g3 h0
    refine ⟨b, off, e1, hlt, trivial, fun i j hi hj => ?_⟩
    obtain ⟨κ, u, q1, q2, q3, _⟩ := hcc i j hi hj
    refine ⟨u, ?_, q3⟩
    rw [hc i j hi hj]
    simp [List.getD, q2]
theorem qml {d : Nat} {t : TypeId} {fuel : Nat} {cs : List Value} {x : DataW H × List MemPlace} (hB : kindB P d t = true) (hl : cs.length = P.cellsOf t) (h : DataW.trod enc P w base spare held fuel t cs = some x) :
  ∃ l : List CV, l.length = P.cellsOf t ∧ All2 (RelF w (fun _ => True)) l cs ∧ ∀ j, j < P.cellsOf t → ∃ κ, q0x P 20 t j = some κ ∧ okK P d κ (l.getD j (.v (.bool false))) := by
 have each := open_cell d t fuel cs x hB h
 obtain ⟨l, h1, h2⟩ := list_of (CV.v (.bool false)) (P.cellsOf t) (R := fun j c => ∃ κ u, q0x P 20 t j = some κ ∧ cs[j]? = some u ∧ RelF w (fun _ => True) c u ∧ okK P d κ c) (fun j hj => by obtain ⟨κ, c, u, q⟩ := each j hj; exact ⟨c, κ, u, q⟩)
 refine ⟨l, h1, All2.of_get (by omega) fun i a b ha hb => ?_, fun j hj => ?_⟩
 ·have hi : i < P.cellsOf t := by
   rcases Nat.lt_or_ge i l.length with q | q
   ·omega
   ·rw [List.getElem?_eq_none q] at ha; cases ha
  obtain ⟨κ, u, _, q2, q3, _⟩ := h2 i hi
  rw [hb] at q2
  cases q2
  rw [show l.getD i (.v (.bool false)) = a by simp [List.getD, ha]] at q3
  exact q3
 ·obtain ⟨κ, u, q1, _, _, q4⟩ := h2 j hj
  exact ⟨κ, q1, q4⟩
theorem qf7 {d : Nat} {t : TypeId} {cs : Array Value} {y : DataW H} {ps : List MemPlace} (hB : kindB P d t = true) (hl : cs.size = P.cellsOf t) (h : DataW.Trod enc P w base spare held t (.agg cs) y ps) :
  ∃ l : List CV, l.length = P.cellsOf t ∧ All2 (RelF w (fun _ => True)) l cs.toList ∧ ∀ j, j < P.cellsOf t → ∃ κ, q0x P 20 t j = some κ ∧ okK P d κ (l.getD j (.v (.bool false))) := by
 obtain ⟨fuel, hf⟩ := h
 exact qml hB (by simpa using hl) (by simpa [Value.cells] using hf)
end
theorem q0j {P : Program} {d : Nat} {t : TypeId} {j : Nat} {c : CV} (hk : q0x P 20 t j = some (.int .i64)) (h : ∃ κ, q0x P 20 t j = some κ ∧ okK P d κ c) : ∃ n : Int, c = .v (.int .i64 n) ∧ -9223372036854775808 ≤ n ∧ n ≤ 9223372036854775807 := by
 obtain ⟨κ, h1, h2⟩ := h
 rw [hk] at h1
 cases h1
 have h3 : ∃ n, c = .v (.int .i64 n) ∧ (Lit.int .i64 n).wf = true := by cases d <;> exact h2
 obtain ⟨n, e, hw⟩ := h3
 have := bounds_i64 hw
 exact ⟨n, e, this.1, this.2⟩
theorem open_sl {P : Program} {d : Nat} {t e : TypeId} {j : Nat} {c : CV} (hk : q0x P 20 t j = some (.sl e)) (h : ∃ κ, q0x P 20 t j = some κ ∧ okK P (d + 1) κ c) : ∃ n cc, c = .sl (P.cellsOf e) n cc ∧ n ≤ maxLen ∧ ∀ i j, i < n → j < P.cellsOf e → ∃ κ, q0x P 20 e j = some κ ∧ okK P d κ (cc i j) := by
 obtain ⟨κ, h1, h2⟩ := h
 rw [hk] at h1
 cases h1
 exact h2
def allI (P : Program) (e : TypeId) : Bool := (List.range (P.cellsOf e)).all fun j => match q0x P 20 e j with
 | some (.int .i64) => true
 | _ => false
theorem nums_of {P : Program} {d : Nat} {e : TypeId} {n : Nat} {cc : Nat → Nat → CV} (hk : allI P e = true) (h : ∀ i j, i < n → j < P.cellsOf e → ∃ κ, q0x P 20 e j = some κ ∧ okK P d κ (cc i j)) : qj (P.cellsOf e) n cc := by
 intro i j hi hj
 have h1 := List.all_eq_true.1 hk j (List.mem_range.2 hj)
 split at h1
 ·rename_i hq
  obtain ⟨m, e1, _⟩ := q0j hq (h i j hi hj)
  rw [e1]; rfl
 ·cases h1
end Go.Proofs.YtfadkjcfjkmalaaGreatDoor.Ev
