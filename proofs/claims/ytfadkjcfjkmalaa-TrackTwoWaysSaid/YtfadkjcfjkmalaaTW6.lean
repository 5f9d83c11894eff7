/- Texts of this claim, together. -/
import Derived.Test.YtfadkjcfjkmalaaTW5
import Derived.Test.YtfadkjcfjkmalaaProg
import Derived.Test.YtfadkjcfjkmalaaTW1
import Derived.StillTail
import Derived.Deep.AppendLies
import Derived.Laws.AppendOwnNone

set_option linter.unusedVariables false
set_option linter.unusedSimpArgs false
namespace Go.Proofs.Ytfadkjcfjkmalaa.Ev
open Go.RowKit
variable {P : Program} {T : Tab} {S : Sum} {ann : Ann} {J : Inv} {l0 n : Nat} {y : Nat → List TV} {keep : List (Nat × DV)} {wc W : World} {N : Nat → Prop} {J0 : Nat → World → Prop} {Jx : Unit → World → Prop} {ov : Nat → Value}
def YA (keep : List (Nat × DV)) (wc W : World) (N : Nat → Prop) (J0 : Nat → World → Prop) (Jx : Unit → World → Prop) (ov : Nat → Value) (st : DS) (a : Act) (w : World) (g : Option Nat) : Prop :=
 a.defers = [] ∧ (∀ i d, findK i keep = some d → a.tmps[i]? = some (ov i)) ∧ ∃ w0 N0 M, Abs w0 N0 noPins M st a w ∧ (match g with
  | some i => J0 i w0 ∧ W.heap.size ≤ w0.heap.size ∧ ∀ b, b < wc.heap.size → N b → w0.heap[b]? = W.heap[b]?
  | none => Jx () w0)
structure YC (P : Program) (l0 n : Nat) (y : Nat → List TV) (keep : List (Nat × DV)) (wc W : World) (N : Nat → Prop) (J0 : Nat → World → Prop) (Jx : Unit → World → Prop) (ov : Nat → Value) : Prop where
 hb : Below wc.heap.size wc W
 hJ : AbidesFrom W.heap.size J0
 hgJ : ∀ i W, J0 i W → Gd W
 hgX : ∀ W, Jx () W → Gd W
 hY : ∀ i W1, i < n → J0 i W1 → YieldAt Fence.wide 0 P l0 ((y i).map tvVal).toArray W1 fun e W' => (e = .returned (.bool true) ∧ J0 (i + 1) W' ∧ W1.heap.size ≤ W'.heap.size ∧ ∀ b, b < wc.heap.size → N b → W'.heap[b]? = W1.heap[b]?) ∨ (e = .returned (.bool false) ∧ Jx () W')
 hk : ∀ i d, findK i keep = some d → RelD (RelF wc N) d (ov i)
theorem below_grown {w w' : World} (h : Below w.heap.size w w') : w.grownBy w' none := ⟨h.os, h.tape, h.output, h.size, fun k hk _ => h.block k hk⟩
theorem flatT_val {w : World} {N : Nat → Prop} {M : Map} : ∀ {x : TV} {v : Value}, flatY x = true → RelT (RelC w N M) x v → v = tvVal x
 | .c (.v x), v, _, g => g.1
 | .c (.sl ..), _, h, _ | .c (.px ..), _, h, _ | .c (.os _), _, h, _ | .c (.p ..), _, h, _ | .c (.pe ..), _, h, _ | .c (.ob ..), _, h, _ | .c (.er _), _, h, _ | .c .any, _, h, _ => by cases h
 | .a l, v, h, g => by
  obtain ⟨vs, rfl, g⟩ := g
  have : ∀ {l : List CV} {vs : List Value}, flatCs l = true → All2 (RelC w N M) l vs → vs = l.map cvVal := by
   intro l
   induction l with
   | nil => intro vs _ g; cases vs with
    | nil => rfl
    | cons _ _ => exact g.elim
   | cons x l ih =>
    intro vs h g
    cases vs with
    | nil => exact g.elim
    | cons v vs =>
     simp only [flatCs, Bool.and_eq_true] at h
     have e : v = cvVal x := by
      cases x with
      | v z => exact g.1.1
      | _ => simp [flatC] at h
     rw [e, ih h.2 g.2]; rfl
  rw [this h g]; rfl
 | .fn f l, v, h, g => by cases h
 | .fb f l, v, h, g => by cases h
theorem flatTs_val {w : World} {N : Nat → Prop} {M : Map} : ∀ {l : List TV} {vs : List Value}, flatYs l = true → All2 (RelT (RelC w N M)) l vs → vs = l.map tvVal
 | [], [], _, _ => rfl
 | x :: l, v :: vs, h, g => by
  simp only [flatYs, Bool.and_eq_true] at h
  rw [flatT_val h.1 g.1, flatTs_val h.2 g.2]; rfl
 | [], _ :: _, _, g => g.elim
 | _ :: _, [], _, g => g.elim
theorem tts_rel {R : CV → Value → Prop} : ∀ {ds : List DV} {l : List TV} {vs : List Value}, tts ds = some l → All2 (RelD R) ds vs → All2 (RelT R) l vs
 | [], l, [], h, _ => by cases h; trivial
 | .t x :: ds, l, v :: vs, h, g => by
  simp only [tts, Option.map_eq_some_iff] at h
  obtain ⟨l', h1, rfl⟩ := h
  exact ⟨g.1, tts_rel h1 g.2⟩
 | .tu _ :: _, l, _ :: _, h, _ => by simp [tts] at h
 | [], _, _ :: _, _, g => g.elim
 | _ :: _, _, [], _, g => g.elim
theorem rebT_get (keep : List (Nat × DV)) : ∀ (l : List (Option DV)) (k i : Nat), ((rebT keep k l)[i]?).join = if i < l.length then (match findK (k + i) keep with | some d => some d | none => match (l[i]?).join with | some d => bif flatD d then some d else none | none => none) else none
 | [], k, i => by simp [rebT]
 | x :: l, k, 0 => by
  simp only [rebT, List.getElem?_cons_zero, Nat.add_zero, List.length_cons, Nat.zero_lt_succ, if_true]
  cases findK k keep with
  | some d => rfl
  | none => cases x with
   | none => rfl
   | some d => rfl
 | x :: l, k, i + 1 => by
  simp only [rebT, List.getElem?_cons_succ, rebT_get keep l (k + 1) i, List.length_cons, Nat.add_lt_add_iff_right]
  rw [show k + 1 + i = k + (i + 1) by omega]
theorem rebT_len (keep : List (Nat × DV)) : ∀ (l : List (Option DV)) (k : Nat), (rebT keep k l).length = l.length
 | [], k => rfl
 | x :: l, k => by simp [rebT, rebT_len keep l]
theorem flat_cv {w w' : World} {N N' : Nat → Prop} {M M' : Map} {x : CV} {v : Value} (h : flatC x = true) (g : RelC w N M x v) : RelC w' N' M' x v := by
 cases x with
 | v y => exact g
 | _ => cases h
theorem flat_cvs {w w' : World} {N N' : Nat → Prop} {M M' : Map} : ∀ {l : List CV} {vs : List Value}, flatCs l = true → All2 (RelC w N M) l vs → All2 (RelC w' N' M') l vs
 | [], [], _, _ => trivial
 | x :: l, v :: vs, h, g => by
  simp only [flatCs, Bool.and_eq_true] at h
  exact ⟨flat_cv h.1 g.1, flat_cvs h.2 g.2⟩
 | [], _ :: _, _, g => g.elim
 | _ :: _, [], _, g => g.elim
theorem flat_tv {w w' : World} {N N' : Nat → Prop} {M M' : Map} {x : TV} {v : Value} (h : flatT x = true) (g : RelT (RelC w N M) x v) : RelT (RelC w' N' M') x v := by
 cases x with
 | c x => exact flat_cv h g
 | a l => obtain ⟨vs, e, g⟩ := g; exact ⟨vs, e, flat_cvs h g⟩
 | fn f l => obtain ⟨vs, e, g⟩ := g; exact ⟨vs, e, flat_cvs h g⟩
 | fb f l => obtain ⟨vs, e, g⟩ := g; exact ⟨vs, e, flat_cvs h g⟩
theorem flat_tvs {w w' : World} {N N' : Nat → Prop} {M M' : Map} : ∀ {l : List TV} {vs : List Value}, flatTs l = true → All2 (RelT (RelC w N M)) l vs → All2 (RelT (RelC w' N' M')) l vs
 | [], [], _, _ => trivial
 | x :: l, v :: vs, h, g => by
  simp only [flatTs, Bool.and_eq_true] at h
  exact ⟨flat_tv h.1 g.1, flat_tvs h.2 g.2⟩
 | [], _ :: _, _, g => g.elim
 | _ :: _, [], _, g => g.elim
theorem flat_up {w w' : World} {N N' : Nat → Prop} {M M' : Map} {x : DV} {v : Value} (h : flatD x = true) (g : RelD (RelC w N M) x v) : RelD (RelC w' N' M') x v := by
 cases x with
 | t x => exact flat_tv h g
 | tu l => obtain ⟨vs, e, g⟩ := g; exact ⟨vs, e, flat_tvs h g⟩
theorem Abs.reb {w0 : World} {N0 : Nat → Prop} {M : Map} {st : DS} {a : Act} {w w' : World} (ha : Abs w0 N0 noPins M st a w) (hd : a.defers = []) (hG : Gd w') (hk : ∀ i d, findK i keep = some d → a.tmps[i]? = some (ov i) ∧ RelD (RelF w' N) d (ov i)) : Abs w' N noPins (fun _ => none) (rebS keep st) a w' := by
 refine ⟨Below.refl _ _, by simp [rebS, rebT_len, ha.fits], by rw [hd]; exact Marks.nil hG, fun i dv h => ?_, fun k r h => ?_, fun _ _ => rfl, (fun k l b h _ => by cases h), (fun k k' r r' l l' b _ _ _ _ h _ _ _ => by cases h), (fun _ _ h => h.elim), (fun _ h => h.elim), (fun _ _ h => by cases h), (fun _ _ _ _ => Nat.zero_le _)⟩
 ·unfold DS.tm rebS at h
  simp only at h
  rw [rebT_get] at h
  split at h
  ·rename_i hlt
   simp only [Nat.zero_add] at h
   cases e : findK i keep with
   | some d =>
    obtain ⟨h1, h2⟩ := hk i d e
    rw [e] at h
    cases h
    exact ⟨_, h1, RelD.mono (fun x v g => RelC.ofF (RelF.mono (Nat.le_refl _) (fun _ _ _ _ => rfl) (fun b hb _ => ⟨fun _ => hb, fun _ _ h => by cases h⟩) x g)) h2⟩
   | none =>
    rw [e] at h
    simp only at h
    cases e2 : (st.t[i]?).join with
    | none => rw [e2] at h; cases h
    | some d =>
     rw [e2] at h
     simp only at h
     cases e3 : flatD d with
     | false => rw [e3] at h; cases h
     | true =>
      obtain ⟨v, h1, h2⟩ := ha.tmp i d e2
      rw [e3] at h
      cases h
      exact ⟨v, h1, flat_up e3 h2⟩
  ·cases h
 ·unfold DS.at rebS at h
  simp only [List.getElem?_replicate] at h
  split at h <;> cases h
theorem run_yldC {a : Act} {w : World} {o : Oper} {c : Call} (ho : o.op = .call c) {f : Operand} (hc : c.callee = .value f) {l : Nat} (hg : a.eval f = .func (.yield l) #[] #[]) {args : List Value} (hargs : c.args.toList.map a.eval = args) {X : Result Next} (hX : (Instr.yield l args.toArray).run P w = X) : (execOp a.eval o).run P w = X := by
 have : c.args.map a.eval = args.toArray := by
  apply Array.toList_inj.1; simpa using hargs
 unfold execOp
 simp only [ho, resolve, hc, hg, Deferred.ofValue, Sem.run_bind, Sem.run_pure, Result.andThen_ok, invoke, Array.empty_append, this]
 simpa using hX
theorem evOpsY_sound (hT : TabOK P T) (hS : Valid P S) (C : YC P l0 n y keep wc W N J0 Jx ov) {ops : Array Oper} {Q : Exit → Act → World → Prop} {k : Option Nat → DS → Prop} (hQ : ∀ g st' a' w', k g st' → YA keep wc W N J0 Jx ov st' a' w' g → Q .normal a' w') : ∀ (l : List Oper), (∀ o ∈ l, okKeep keep o = true) → ∀ {st : DS} {a : Act} {w : World} {g : Option Nat}, YA keep wc W N J0 Jx ov st a w g → evOpsY P T S l0 n y keep ops.toList l st g k → wpListIn Fence.wide 0 P ops Q l a w
  | [], _, st, a, w, g, ha, h => hQ _ _ _ _ h ha
  | o :: l, hk, st, a, w, g, ha, h => by
    have hko := hk o (by simp)
    have hrest : ∀ o' ∈ l, okKeep keep o' = true := fun o' ho' => hk o' (by simp [ho'])
    have hdst : ∀ i d, findK i keep = some d → o.dst ≠ some i := by
      intro i d hf e
      unfold okKeep at hko
      rw [e] at hko
      simp [hf] at hko
    have hnd : ∀ c, o.op ≠ .defer c := by
      unfold okKeep at hko
      simp only [Bool.and_eq_true] at hko
      exact ndef_ok hko.1
    have normal : evOp P T S ops.toList noForb o st (fun st' => evOpsY P T S l0 n y keep ops.toList l st' g k) → wpListIn Fence.wide 0 P ops Q (o :: l) a w := by
      intro h
      rw [evOp_iff] at h
      obtain ⟨p, st', h1, h2, h3⟩ := h
      obtain ⟨hd, hov, w0, N0, M, hA, hg⟩ := ha
      have := step_fr hT hS hA h1 h2 (l := [o]) (by simp) (K := fun a' w' => wpListIn Fence.wide 0 P ops Q l a' w') (Q := Q) (fun M' a' w' hA' hfr => evOpsY_sound hT hS C hQ l hrest ⟨hfr.2.trans hd, fun i d hf => (hfr.1 i (by simpa using hdst i d hf)).trans (hov i d hf), w0, N0, M', hA', hg⟩ h3)
      exact this
    simp only [evOpsY] at h
    split at h
    · rename_i c l' hy hw
      obtain ⟨hd, hov, w0, N0, M, hA, hg⟩ := ha
      have hwant := want_ok hA hw
      unfold yldE at h
      split at h
      · rename_i i ls hds
        cases hfl : flatYs ls with
        | false => rw [hfl] at h; exact h.elim
        | true =>
        rw [hfl] at h
        simp only [Bool.not_true, cond_false] at h
        obtain ⟨⟨hl0, hi, hls⟩, hT', hF'⟩ := h
        simp only [Option.bind_eq_some_iff] at hds
        obtain ⟨ds, hds1, hds2⟩ := hds
        unfold yldC at hy
        split at hy
        case h_2 => cases hy
        rename_i c' hop
        split at hy
        case h_2 => cases hy
        rename_i f hcal
        split at hy
        case h_2 => cases hy
        rename_i d hf
        simp only [Option.map_eq_some_iff, Prod.mk.injEq] at hy
        obtain ⟨l2, hl2, rfl, rfl⟩ := hy
        have hgv : a.eval f = .func (.yield l0) #[] #[] := by
          have g1 := opv_rel hA hf
          rw [← hl0]
          unfold isYld at hl2
          split at hl2
          · cases hl2; exact g1.1
          · cases hl2
        have hvals := flatTs_val hfl (tts_rel hds2 (opvs_rel hA hds1))
        have hJw : J0 i w := C.hJ i w0 w none hg.1 (below_grown hA.below) (fun r e => by cases e)
        obtain ⟨fn, tmps, assign, body, hrun, hround⟩ := C.hY i w hi hJw
        rw [← hls] at hrun
        have hx := run_yldC (P := P) hop hcal hgv hvals hrun
        show if _ then _ else _
        rw [hwant, if_pos rfl]
        unfold Oper.wpIn
        refine ⟨fun f _ => trivial, ?_⟩
        rw [Oper.semAt_eq _ _ _ hnd, hx]
        refine ⟨(fun h => by cases h), hround.mono ?_⟩
        have hsz := hg.2.1
        have hsw : wc.heap.size ≤ w0.heap.size := Nat.le_trans C.hb.size hsz
        have hsA := hA.below.size
        have hov' : ∀ (v : Value) i d, findK i keep = some d → (a.put o.dst v).tmps[i]? = some (ov i) := fun v i d hf => by
          rw [put_get, if_neg (fun h => hdst i d hf h.1)]; exact hov i d hf
        rintro e w' (⟨rfl, hj, hs2, hkp⟩ | ⟨rfl, hj⟩)
        · have hkn : ∀ b, b < wc.heap.size → N b → w'.heap[b]? = W.heap[b]? := fun b hb hN => by
            rw [hkp b hb hN, hA.below.block b (by omega)]; exact hg.2.2 b hb hN
          have hreb := hA.reb (keep := keep) (ov := ov) (w' := w') (N := fun b => b < wc.heap.size ∧ N b) hd (C.hgJ _ _ hj) fun i d hf => ⟨hov i d hf, RelD.mono (fun x v g => RelF.mono (w := wc) (N := N) (by omega) (fun b hN hb off => by
                have e1 : w'.heap[b]? = wc.heap[b]? := (hkn b hb hN).trans (C.hb.block b hb)
                exact World.cell?_of_block (w := wc) (a := ⟨b, off, none⟩) e1) (fun b hN hb => ⟨hb, hN⟩) x g) (C.hk i d hf)⟩
          refine evOpsY_sound hT hS C hQ l hrest (g := some (i + 1)) ⟨by rw [put_defs]; exact hd, hov' _, w', _, _, hreb.putV o.dst (x := .t (.c (.v (.bool true)))) ⟨rfl, rfl⟩, hj, by omega, hkn⟩ hT'
        · have hreb := hA.reb (keep := []) (ov := ov) (w' := w') (N := fun _ => True) hd (C.hgX _ hj) fun i d hf => by cases hf
          refine evOpsY_sound hT hS C hQ l hrest (g := none) ⟨by rw [put_defs]; exact hd, hov' _, w', _, _, hreb.putV o.dst (x := .t (.c (.v (.bool false)))) ⟨rfl, rfl⟩, hj⟩ hF'
      · exact h.elim
    · exact normal h
theorem YA.tidyB {st st' : DS} {a : Act} {w : World} {g : Option Nat} (ha : YA keep wc W N J0 Jx ov st a w g) {hd : Hd} {bx : List Bx} (h : tidyB hd bx st = some st') : YA keep wc W N J0 Jx ov st' a w g := by
 obtain ⟨hd', hov, w0, N0, M, hA, hg⟩ := ha
 obtain ⟨M', hA'⟩ := hA.tidyB (by intro k l h; cases h) h
 exact ⟨hd', hov, w0, N0, M', hA', hg⟩
theorem YA.eval {st : DS} {a : Act} {w : World} {g : Option Nat} (ha : YA keep wc W N J0 Jx ov st a w g) {c : Operand} {t : Bool} (h : opv st c = some (.t (.c (.v (.bool t))))) : a.eval c = .bool t := by
 obtain ⟨hd', hov, w0, N0, M, hA, hg⟩ := ha
 exact (opv_rel hA h).1
theorem evY_sound (hT : TabOK P T) (hS : Valid P S) (C : YC P l0 n y keep wc W N J0 Jx ov) : ∀ (c : Code) {b : Nat} {F : List Nat} {kn : Option Nat → DS → Prop} {ke : Nat → Option Nat → DS → Prop} {kr : Option Nat → DS → Prop} {Kn : List Nat → Option Nat → DS → Prop} {Ke : List Nat → Nat → Option Nat → DS → Prop} {Kr : List Nat → Option Nat → DS → Prop} {Q : Exit → Act → World → Prop} {st : DS} {a : Act} {w : World} {g : Option Nat},
  okY ann keep c b = true → AllY J (loopsY P T S ann J l0 n y keep c b Kn Ke Kr) → Kn F = kn → Ke F = ke → Kr F = kr → YA keep wc W N J0 Jx ov st a w g →
  (∀ g st' a' w', kn g st' → YA keep wc W N J0 Jx ov st' a' w' g → Q .normal a' w') → (∀ i g st' a' w', ke i g st' → YA keep wc W N J0 Jx ov st' a' w' g → Q (.exit i) a' w') → (∀ g st' a' w', kr g st' → YA keep wc W N J0 Jx ov st' a' w' g → Q .ret a' w') →
  evY P T S ann J l0 n y keep c b F kn ke kr g st → c.wpIn Fence.wide 0 P Q a w
 | .skip, b, F, kn, ke, kr, Kn, Ke, Kr, Q, st, a, w, g, hok, hL, e1, e2, e3, ha, hn, he, hr, h => wpIn_skip (hn _ _ _ _ h ha)
 | .exit i, b, F, kn, ke, kr, Kn, Ke, Kr, Q, st, a, w, g, hok, hL, e1, e2, e3, ha, hn, he, hr, h => wpIn_exit (he i _ _ _ _ h ha)
 | .ret, b, F, kn, ke, kr, Kn, Ke, Kr, Q, st, a, w, g, hok, hL, e1, e2, e3, ha, hn, he, hr, h => wpIn_ret (hr _ _ _ _ h ha)
 | .region id ops draw, b, F, kn, ke, kr, Kn, Ke, Kr, Q, st, a, w, g, hok, hL, e1, e2, e3, ha, hn, he, hr, h => by
  simp only [okY, Bool.and_eq_true, Bool.not_eq_true'] at hok
  obtain ⟨hk, rfl⟩ := hok
  exact wpIn_region_list (evOpsY_sound hT hS C hn ops.toList (fun o ho => List.all_eq_true.1 hk o ho) ha h)
 | .seq x z, b, F, kn, ke, kr, Kn, Ke, Kr, Q, st, a, w, g, hok, hL, e1, e2, e3, ha, hn, he, hr, h => by
  simp only [okY, Bool.and_eq_true] at hok
  simp only [loopsY, AllY_append] at hL
  refine wpIn_seq (evY_sound hT hS C x (b := b) (F := F) hok.1 hL.1 (by rw [e1, e2, e3]) e2 e3 ha (fun g st' a' w' h' ha' => ?_) (fun i g st' a' w' h' ha' => he i _ _ _ _ h' ha') (fun g st' a' w' h' ha' => hr _ _ _ _ h' ha') h)
  exact evY_sound hT hS C z hok.2 hL.2 e1 e2 e3 ha' hn he hr h'
 | .cond c x z, b, F, kn, ke, kr, Kn, Ke, Kr, Q, st, a, w, g, hok, hL, e1, e2, e3, ha, hn, he, hr, h => by
  simp only [okY, Bool.and_eq_true] at hok
  simp only [loopsY, AllY_append] at hL
  simp only [evY] at h
  split at h
  ·rename_i t hc
   have hv := ha.eval hc
   cases t with
   | true => exact wpIn_cond_true hv (evY_sound hT hS C x hok.1 hL.1 e1 e2 e3 ha hn he hr h)
   | false => exact wpIn_cond_false hv (evY_sound hT hS C z hok.2 hL.2 e1 e2 e3 ha hn he hr h)
  ·exact h.elim
 | .block id x, b, F, kn, ke, kr, Kn, Ke, Kr, Q, st, a, w, g, hok, hL, e1, e2, e3, ha, hn, he, hr, h => by
  simp only [okY] at hok
  simp only [evY] at h
  simp only [loopsY] at hL
  refine wpIn_block (evY_sound hT hS C x (b := id) (F := F) hok hL e1 (by rw [e1, e2]) e3 ha (fun g st' a' w' h' ha' => hn _ _ _ _ h' ha') (fun i g st' a' w' h' ha' => ?_) (fun g st' a' w' h' ha' => hr _ _ _ _ h' ha') h)
  simp only [Exit.inBlock]
  cases e : Nat.beq i id with
  | true =>
   rw [e] at h'
   rw [if_pos (Nat.eq_of_beq_eq_true e)]
   exact hn _ _ _ _ h' ha'
  | false =>
   rw [e] at h'
   rw [if_neg (fun h2 => by rw [h2, Nat.beq_refl] at e; cases e)]
   exact he i _ _ _ _ h' ha'
 | .loop x, b, F, kn, ke, kr, Kn, Ke, Kr, Q, st, a, w, g, hok, hL, e1, e2, e3, ha, hn, he, hr, h => by
  simp only [okY, Bool.and_eq_true] at hok
  simp only [evY] at h
  split at h
  ·rename_i hd c hl
   simp only [loopsY, hl, AllY] at hL
   obtain ⟨⟨hz, hs⟩, hin⟩ := hL
   split at h
   ·rename_i s hts
    obtain ⟨m, hJ⟩ := h
    have key : ∀ (m : Nat) {c : Nat} {st : DS} {a : Act} {w : World}, YA keep wc W N J0 Jx ov st a w (some c) → J b (c :: m :: F) st → Code.roundsIn Fence.wide 0 P x Q m a w := by
     intro m
     induction m with
     | zero => intro c st a w ha h; exact (hz c F st h).elim
     | succ m ih =>
      intro c st a w ha h
      have h1 := hs c m F st h
      simp only [List.tail_cons] at h1
      rw [roundsIn_succ]
      rw [e2, e3] at h1
      refine evY_sound hT hS C x (F := m :: F) hok.2 hin rfl (by simpa using e2) (by simpa using e3) ha (fun g st' a' w' h' ha' => ?_) (fun i g st' a' w' h' ha' => he i _ _ _ _ h' ha') (fun g st' a' w' h' ha' => hr _ _ _ _ h' ha') h1
      unfold againY at h'
      split at h'
      ·rename_i c' s2 hs2
       exact ih (ha'.tidyB hs2) h'
      ·exact h'.elim
    exact wpIn_loop_rounds m (key m (ha.tidyB hts) hJ)
   ·exact h.elim
  ·exact h.elim
 | .rangeFunc .., _, _, _, _, _, _, _, _, _, _, _, _, _, _, _, _, _, _, _, _, _, _, h | .scope _, _, _, _, _, _, _, _, _, _, _, _, _, _, _, _, _, _, _, _, _, _, _, h | .label _, _, _, _, _, _, _, _, _, _, _, _, _, _, _, _, _, _, _, _, _, _, _, h
 | .goto _, _, _, _, _, _, _, _, _, _, _, _, _, _, _, _, _, _, _, _, _, _, _, h | .refuse _, _, _, _, _, _, _, _, _, _, _, _, _, _, _, _, _, _, _, _, _, _, _, h => h.elim
def endY (n : Nat) (g : Option Nat) (_ : DS) : Prop := match g with
 | some i => i = n
 | none => True
def evIt (P : Program) (T : Tab) (S : Sum) (ann : Ann) (J : Inv) (l0 n : Nat) (y : Nat → List TV) (keep : List (Nat × DV)) (fn : Func) (caps : List DV) : Prop := match fn.body with
 | some c => evY P T S ann J l0 n y keep c 0 [] (endY n) (fun _ _ _ => False) (endY n) (some 0) (start (.t (.c (.v (.func (.yield l0) #[] #[]))) :: caps) fn.ntmps)
 | none => False
def loopsIt (P : Program) (T : Tab) (S : Sum) (ann : Ann) (J : Inv) (l0 n : Nat) (y : Nat → List TV) (keep : List (Nat × DV)) (fn : Func) : List (Nat × (Nat → List Nat → DS → Prop)) := match fn.body with
 | some c => loopsY P T S ann J l0 n y keep c 0 (fun _ => endY n) (fun _ _ _ _ => False) (fun _ => endY n)
 | none => []
def roundIt (P : Program) (T : Tab) (S : Sum) (ann : Ann) (J : Inv) (l0 n : Nat) (y : Nat → List TV) (keep : List (Nat × DV)) (fn : Func) (i c : Nat) (F : List Nat) (s : DS) : Prop := match (loopsIt P T S ann J l0 n y keep fn)[i]? with
 | some (_, G) => G c F s
 | none => True
def okIt (ann : Ann) (keep : List (Nat × DV)) (fn : Func) : Bool := fn.results.toList.isEmpty && (match fn.body with
 | some c => okY ann keep c 0
 | none => false)
end Go.Proofs.Ytfadkjcfjkmalaa.Ev
set_option linter.unusedVariables false
set_option linter.unusedSimpArgs false
namespace Go.Proofs.Ytfadkjcfjkmalaa.Ev
open Go.RowKit
def keepOf : Nat → List CV → List (Nat × DV)
 | _, [] => []
 | i, x :: l => (i, .t (.c x)) :: keepOf (i + 1) l
theorem keepOf_get : ∀ {l : List CV} {k i : Nat} {d : DV}, findK i (keepOf k l) = some d → ∃ x, k ≤ i ∧ l[i - k]? = some x ∧ d = .t (.c x)
 | [], k, i, d, h => by cases h
 | x :: l, k, i, d, h => by
  simp only [keepOf, findK] at h
  cases e : Nat.beq i k with
  | true =>
   rw [e] at h
   cases h
   have := Nat.eq_of_beq_eq_true e
   subst this
   exact ⟨x, Nat.le_refl _, by simp, rfl⟩
  | false =>
   rw [e] at h
   obtain ⟨z, h1, h2, h3⟩ := keepOf_get (l := l) h
   refine ⟨z, by omega, ?_, h3⟩
   rw [show i - k = (i - (k + 1)) + 1 by omega]
   simpa using h2
theorem all2_caps {w : World} {N : Nat → Prop} : ∀ {l : List CV} {vs : List Value}, All2 (RelF w N) l vs → All2 (RelD (RelF w N)) (l.map fun x => DV.t (.c x)) vs
 | [], [], _ => trivial
 | x :: l, v :: vs, h => ⟨h.1, all2_caps h.2⟩
 | [], _ :: _, h => h.elim
 | _ :: _, [], h => h.elim
theorem it_sound {P : Program} {T : Tab} {S : Sum} (hT : TabOK P T) (hS : Valid P S) {ann : Ann} {f : FuncId} {fn : Func} (hf : P.funcs[f]? = some fn) {n : Nat} {y : Nat → List TV} {l : List CV} (hok : okIt ann (keepOf 1 l) fn = true) (hlen : l.length + 1 ≤ fn.ntmps)
  (h : ∀ l0, ∃ J : Inv, evIt P T S ann J l0 n y (keepOf 1 l) fn (l.map fun x => .t (.c x)) ∧ AllY J (loopsIt P T S ann J l0 n y (keepOf 1 l) fn))
  (w : World) (N : Nat → Prop) (vs : List Value) (hargs : All2 (RelF w N) l vs) : SeqIt P f #[] vs.toArray n (fun i => ((y i).map tvVal).toArray) (fun A B => A.heap.size ≤ B.heap.size ∧ ∀ b, b < w.heap.size → N b → B.heap[b]? = A.heap[b]?) w := by
 intro l0 J0 Jx W hb hJ hJx hgJ hgX hY h0
 obtain ⟨J, h, hL⟩ := h l0
 have hvl := hargs.length
 have hW := hb.size
 unfold okIt at hok
 unfold evIt at h
 unfold loopsIt at hL
 simp only [Bool.and_eq_true] at hok
 obtain ⟨hres, hok⟩ := hok
 cases hbd : fn.body with
 | none => rw [hbd] at h; exact h.elim
 | some c =>
 rw [hbd] at h hL hok
 simp only at h hL hok
 let ov : Nat → Value := fun i => (vs[i - 1]?).getD undef
 have hC : YC P l0 n y (keepOf 1 l) w W N J0 Jx ov := by
  refine ⟨hb, hJ, hgJ, hgX, hY, fun i d hd => ?_⟩
  obtain ⟨x, h1, h2, rfl⟩ := keepOf_get hd
  obtain ⟨v, e1, e2⟩ := hargs.get h2
  show RelF w N x ((vs[i - 1]?).getD undef)
  rw [e1]; exact e2
 have hargs2 : All2 (RelD (RelF W fun b => b < w.heap.size ∧ N b)) (.t (.c (.v (.func (.yield l0) #[] #[]))) :: l.map fun x => DV.t (.c x)) (.func (.yield l0) #[] #[] :: vs) :=
  ⟨⟨rfl, rfl⟩, all2_caps (hargs.mono fun x v g => RelF.mono (w := w) (N := N) hW (fun b _ hlt off => World.cell?_of_block (w := w) (a := ⟨b, off, none⟩) (hb.block b hlt)) (fun b hN hlt => ⟨hlt, hN⟩) x g)⟩
 obtain ⟨aL, has⟩ : ∃ aL : List DV, aL = .t (.c (.v (.func (.yield l0) #[] #[]))) :: l.map fun x => DV.t (.c x) := ⟨_, rfl⟩
 obtain ⟨us, hus⟩ : ∃ us : List Value, us = .func (.yield l0) #[] #[] :: vs := ⟨_, rfl⟩
 rw [← has, ← hus] at hargs2
 rw [← has] at h
 have hvl2 := hargs2.length
 have hla : aL.length = l.length + 1 := by rw [has]; simp
 have hstart : Abs W (fun b => b < w.heap.size ∧ N b) noPins (fun _ => none) (start aL fn.ntmps) { tmps := us.toArray ++ Array.replicate (fn.ntmps - us.toArray.size) undef, defers := [] } W := by
  refine ⟨Below.refl _ _, by simp [start, hvl2], Marks.nil (hgJ 0 W h0), fun i dv hi => ?_, fun k r hr => ?_, fun _ _ => rfl, (fun k l b h1 _ => by cases h1), (fun k k' r r' l l' b _ _ _ _ h1 _ _ _ => by cases h1), (fun _ _ h => h.elim), (fun _ h => h.elim), (fun _ _ h => by cases h), (fun _ _ _ _ => Nat.zero_le _)⟩
  ·unfold DS.tm start at hi
   simp only at hi
   by_cases hlt : i < aL.length
   ·rw [List.getElem?_append_left (by simpa using hlt), List.getElem?_map] at hi
    have e1 : aL[i]? = some dv := by
     cases e : aL[i]? with
     | none => rw [e] at hi; cases hi
     | some x => rw [e] at hi; simpa using hi
    obtain ⟨v, e2, e3⟩ := hargs2.get e1
    refine ⟨v, ?_, RelD.mono (fun x u g => RelC.ofF (RelF.mono (Nat.le_refl _) (fun _ _ _ _ => rfl) (fun b hb hl => ⟨fun _ => hb, fun k l h => by cases h⟩) x g)) e3⟩
    rw [Array.getElem?_append_left (by simp; omega)]
    simpa using e2
   ·rw [List.getElem?_append_right (by simpa using hlt), List.getElem?_replicate] at hi
    split at hi
    ·rename_i h2
     simp only [Option.join_some, Option.some.injEq] at hi
     subst hi
     simp only [List.length_map] at h2
     refine ⟨undef, ?_, [], rfl, trivial⟩
     rw [Array.getElem?_append_right (by simp; omega), Array.getElem?_replicate, if_pos (by simp; omega)]
    ·cases hi
  ·unfold DS.at start at hr
   simp only [List.getElem?_replicate] at hr
   split at hr <;> cases hr
 have hYA : YA (keepOf 1 l) w W N J0 Jx ov (start aL fn.ntmps) { tmps := us.toArray ++ Array.replicate (fn.ntmps - us.toArray.size) undef, defers := [] } W (some 0) := by
  refine ⟨rfl, fun i d hd => ?_, W, _, _, hstart, h0, Nat.le_refl _, fun _ _ _ => rfl⟩
  obtain ⟨x, h1, h2, rfl⟩ := keepOf_get hd
  obtain ⟨v, e1, e2⟩ := hargs.get h2
  have hlt : i - 1 < vs.length := (List.getElem?_eq_some_iff.1 e1).1
  show _ = some ((vs[i - 1]?).getD undef)
  rw [e1, Array.getElem?_append_left (by rw [hus]; simp; omega), hus]
  obtain ⟨j, rfl⟩ : ∃ j, i = j + 1 := ⟨i - 1, by omega⟩
  simpa using e1
 have hfin : ∀ (g : Option Nat) (st' : DS) (a' : Act) (w' : World), endY n g st' → YA (keepOf 1 l) w W N J0 Jx ov st' a' w' g → LeavesInM Fence.wide 0 P fn a'.tmps (fun e W' => (∃ v, e = .returned v) ∧ (J0 n W' ∨ Jx () W')) a'.defers .returning w' := by
  rintro g st' a' w' hg ⟨hd, _, w1, N1, M1, hA, hgg⟩
  rw [hd]
  have hr : (results fn a'.tmps).run P w' = .ok (.tuple #[]) w' := by
   have h1 : results fn a'.tmps = (do
    let vs ← fn.results.mapM (resS a'.tmps)
    pure (if h : vs.size = 1 then vs[0] else .tuple vs)) := rfl
   have h2 : fn.results = #[] := by
    apply Array.toList_inj.1
    simpa using hres
   rw [h1, h2]
   simp
  refine ⟨_, hr, ⟨_, rfl⟩, ?_⟩
  cases g with
  | none => exact Or.inr (hJx () w1 w' none hgg (below_grown hA.below) (fun r e => by cases e))
  | some i =>
   have : i = n := hg
   subst this
   exact Or.inl (hJ i w1 w' none hgg.1 (below_grown hA.below) (fun r e => by cases e))
 have hcalls : CallsIn Fence.wide 0 P f us.toArray W fun e W' => (∃ v, e = .returned v) ∧ (J0 n W' ∨ Jx () W') := by
  refine callsIn_of_wp_marks hf hbd trivial ?_
  refine evY_sound hT hS hC c hok hL rfl rfl rfl hYA (fun g st' a' w' hk ha' => ?_) (fun i g st' a' w' hk _ => hk.elim) (fun g st' a' w' hk ha' => ?_) h
  ·exact hfin g st' a' w' hk ha'
  ·exact hfin g st' a' w' hk ha'
 have e : us.toArray = #[] ++ #[.func (.yield l0) #[] #[]] ++ vs.toArray := by rw [hus]; simp
 rw [← e]
 exact hcalls
def LeC (al bs : List CV) : Prop := ∀ w N vs, All2 (RelF w N) al vs → All2 (RelF w N) bs vs
theorem LeC.refl (al : List CV) : LeC al al := fun _ _ _ h => h
def okB1 : CV → Bool
 | .v x => x.oneCell'
 | _ => false
def okBs : List CV → Bool
 | [] => true
 | x :: l => okB1 x && okBs l
def okBT : TV → Bool
 | .c x => okB1 x
 | .a l => okBs l
 | .fn _ _ => false
 | .fb _ _ => false
def okBTs : List TV → Bool
 | [] => true
 | x :: l => okBT x && okBTs l
theorem okB1_rel {w : World} {N : Nat → Prop} {x : CV} (h : okB1 x = true) : RelF w N x (cvVal x) := by
 cases x with
 | v y => exact ⟨rfl, h⟩
 | _ => cases h
theorem okBs_rel {w : World} {N : Nat → Prop} : ∀ {l : List CV}, okBs l = true → All2 (RelF w N) l (l.map cvVal)
 | [], _ => trivial
 | x :: l, h => by
  simp only [okBs, Bool.and_eq_true] at h
  exact ⟨okB1_rel h.1, okBs_rel h.2⟩
theorem okBT_rel {w : World} {N : Nat → Prop} {x : TV} (h : okBT x = true) : RelT (RelF w N) x (tvVal x) := by
 cases x with
 | c y => exact okB1_rel h
 | a l => exact ⟨_, rfl, okBs_rel h⟩
 | fn f l => cases h
 | fb f l => cases h
theorem okBTs_rel {w : World} {N : Nat → Prop} : ∀ {l : List TV}, okBTs l = true → All2 (RelT (RelF w N)) l (l.map tvVal)
 | [], _ => trivial
 | x :: l, h => by
  simp only [okBTs, Bool.and_eq_true] at h
  exact ⟨okBT_rel h.1, okBTs_rel h.2⟩
@[reducible] def ItC := List CV → Option ItR
def OkIt (P : Program) (f : FuncId) (F : ItC) : Prop := ∀ l R, F l = some R → okP R.pre → Enters P f ∧ (∀ i, i < R.n → (R.y i).length = R.m ∧ okBTs (R.y i) = true) ∧
 ∀ (w : World) (N : Nat → Prop) (vs : List Value), All2 (RelF w N) l vs → SeqIt P f (fbA R.bd vs) (lbA R.bd vs) R.n (fun i => ((R.y i).map tvVal).toArray) (KpI w N R.ty) w
def addI (it : It) (f : FuncId) (F : ItC) : It := fun g l => bif Nat.beq g f then (F l).map (fun R => { R with mu := none }) else it g l
theorem ItOk.eq {P : Program} {F G : List CV → Option ItR} {gf : FuncId} {l : List CV} {R : ItR} (h : ItOk P F gf l R) (e : F = G) : ItOk P G gf l R := e ▸ h
theorem ValidIt.add {P : Program} {it : It} {f : FuncId} {F : ItC} (h : ValidIt P it) (hF : OkIt P f F) : ValidIt P (addI it f F) := by
 intro g l R h1 h2
 cases e : Nat.beq g f with
 | true =>
  have h1 : (F l).map (fun R => { R with mu := none }) = some R := by unfold addI at h1; rw [e] at h1; exact h1
  rw [Nat.eq_of_beq_eq_true e]
  simp only [Option.map_eq_some_iff] at h1
  obtain ⟨R0, h3, rfl⟩ := h1
  obtain ⟨g1, g2, g3⟩ := hF l R0 h3 h2
  exact ⟨g1, fun i hi => ⟨(g2 i hi).1, fun w N => okBTs_rel (g2 i hi).2⟩, g3⟩
 | false =>
  have e2 : it g = addI it f F g := by funext l; unfold addI; rw [e]; rfl
  obtain ⟨g1, g2⟩ := h g l R (by rw [e2]; exact h1) h2
  exact ⟨g1, g2.eq e2⟩
theorem OkIt.it {P : Program} {T : Tab} {S : Sum} (hT : TabOK P T) (hS : Valid P S) {ann : Ann} {f : FuncId} {fn : Func} (hf : P.funcs[f]? = some fn) (hn : (fn.name == "runtime.NumGoroutine") = false) {F : ItC}
  (h : ∀ l R, F l = some R → okP R.pre → ∃ al, R.bd = false ∧ LeC l al ∧ okIt ann (keepOf 1 al) fn = true ∧ al.length + 1 ≤ fn.ntmps ∧ (∀ i, (R.y i).length = R.m ∧ okBTs (R.y i) = true) ∧ ∀ l0, ∃ J : Inv, evIt P T S ann J l0 R.n R.y (keepOf 1 al) fn (al.map fun x => .t (.c x)) ∧ AllY J (loopsIt P T S ann J l0 R.n R.y (keepOf 1 al) fn)) : OkIt P f F := by
 intro l R h1 h2
 obtain ⟨al, g0, g1, g2, g3, g4, g5⟩ := h l R h1 h2
 have hb : fn.body.isNone = false := by
  unfold okIt at g2
  simp only [Bool.and_eq_true] at g2
  cases e : fn.body with
  | none => rw [e] at g2; cases g2.2
  | some c => rfl
 exact ⟨Enters.of hf hn hb, fun i _ => g4 i, fun w N vs hv => by rw [g0]; exact (it_sound hT hS hf g2 g3 g5 w N vs (g1 w N vs hv)).weak fun A B h => h.1⟩
def numsB : Nat → (Nat → CV) → Bool
 | 0, _ => true
 | n + 1, c => (match c n with
  | .v (.int .i64 _) => true
  | _ => false) && numsB n c
theorem numsB_get : ∀ {n : Nat} {c : Nat → CV}, numsB n c = true → ∀ j, j < n → c j = .v (.int .i64 (cvInt (c j)))
 | 0, _, _, j, hj => absurd hj (Nat.not_lt_zero _)
 | n + 1, c, h, j, hj => by
  simp only [numsB, Bool.and_eq_true] at h
  by_cases e : j = n
  ·subst e
   have h1 := h.1
   split at h1
   ·rename_i x hx
    rw [hx]; rfl
   ·cases h1
  ·exact numsB_get h.2 j (by omega)
theorem RelF.px_eq {w : World} {N : Nat → Prop} {n off : Nat} {c c' : Nat → CV} {v : Value} (hc : ∀ j, j < n → c j = c' j) (h : RelF w N (.px n off c) v) : RelF w N (.px n off c') v := by
 obtain ⟨b, o, g1, g2, g3, g4⟩ := h
 refine ⟨b, o, g1, g2, g3, fun j hj => ?_⟩
 obtain ⟨x, e1, e2⟩ := g4 j hj
 exact ⟨x, e1, by rw [← hc j hj]; exact e2⟩
@[reducible] def pxL (n : Nat) (c : Nat → CV) : List CV := (List.range n).map fun j => .v (.int .i64 (cvInt (c j)))
theorem leC_px {n : Nat} {c : Nat → CV} (hq : numsB n c = true) (w : World) (N : Nat → Prop) (v : Value) (h : RelF w N (.px n 0 c) v) : RelF w N (.px n 0 (boxC (pxL n c))) v := by
 refine RelF.px_eq (fun j hj => ?_) h
 rw [numsB_get hq j hj]
 simp [boxC, pxL, hj, cvInt]
theorem leC_cons {a b : CV} {al bs : List CV} (h : ∀ w N v, RelF w N a v → RelF w N b v) (h2 : LeC al bs) : LeC (a :: al) (b :: bs) := by
 intro w N vs g
 match vs, g with
 | v :: vs, g => exact ⟨h w N v g.1, h2 w N vs g.2⟩
 | [], g => exact g.elim
end Go.Proofs.Ytfadkjcfjkmalaa.Ev
set_option linter.unusedVariables false
set_option linter.unusedSimpArgs false
namespace Go.Proofs.Ytfadkjcfjkmalaa.Ev
open Go.RowKit
def cvLen : CV → Nat
 | .sl _ n _ => n
 | _ => 0
def cvCells : CV → Nat → Nat → CV
 | .sl _ _ c => c
 | _ => fun _ _ => .v (.bool false)
def slP (sz : Nat) (x : CV) : Prop := x = .sl sz (cvLen x) (cvCells x)
def LeC1 (a b : CV) : Prop := ∀ w N v, RelF w N a v → RelF w N b v
def LeCs : List CV → List CV → Prop
 | [], [] => True
 | a :: l, b :: m => LeC1 a b ∧ LeCs l m
 | _, _ => False
theorem LeCs.all {w : World} {N : Nat → Prop} : ∀ {l m : List CV} {vs : List Value}, LeCs l m → All2 (RelF w N) l vs → All2 (RelF w N) m vs
 | [], [], _, _, h => h
 | _ :: _, _ :: _, v :: vs, g, h => ⟨g.1 w N v h.1, LeCs.all g.2 h.2⟩
 | [], _ :: _, _, g, _ => g.elim
 | _ :: _, [], _, g, _ => g.elim
 | _ :: _, _ :: _, [], _, h => h.elim
theorem LeCs.nil : LeCs [] [] := trivial
theorem LeCs.cons {a b : CV} {l m : List CV} (h : LeC1 a b) (g : LeCs l m) : LeCs (a :: l) (b :: m) := ⟨h, g⟩
theorem LeC1.refl (a : CV) : LeC1 a a := fun _ _ _ h => h
theorem leT_a {l m : List CV} (h : LeCs l m) : LeD (.t (.a l)) (.t (.a m)) := by
 rintro w N v ⟨vs, e, g⟩
 exact ⟨vs, e, h.all g⟩
theorem leT_f {f : FuncId} {l m : List CV} (h : LeCs l m) : LeD (.t (.fn f l)) (.t (.fn f m)) := by
 rintro w N v ⟨vs, e, g⟩
 exact ⟨vs, e, h.all g⟩
theorem leT_c {a b : CV} (h : LeC1 a b) : LeD (.t (.c a)) (.t (.c b)) := fun w N v g => h w N v g
theorem leC_i {a : CV} (h : a = .v (.int .i64 (cvInt a))) : LeC1 a (.v (.int .i64 (cvInt a))) := by rw [← h]; exact LeC1.refl a
theorem leC_s {sz : Nat} {a b : CV} (h : slP sz a) (g : LeD (.t (.c (.sl sz (cvLen a) (cvCells a)))) (.t (.c b))) : LeC1 a b := by
 intro w N v k
 refine g w N v ?_
 rw [h] at k
 exact k
theorem LeCs.get : ∀ {l m : List CV} {j : Nat} {a : CV}, LeCs l m → l[j]? = some a → ∃ b, m[j]? = some b ∧ LeC1 a b
 | a :: l, b :: m, 0, x, h, e => by
  simp at e; subst e; exact ⟨b, by simp, h.1⟩
 | a :: l, b :: m, j + 1, x, h, e => by
  simp at e
  obtain ⟨y, h1, h2⟩ := LeCs.get h.2 e
  exact ⟨y, by simpa using h1, h2⟩
 | [], [], _, _, _, e => by simp at e
 | [], _ :: _, _, _, h, _ => h.elim
 | _ :: _, [], _, _, h, _ => h.elim
theorem leC_p {n : Nat} {c : Nat → CV} {l : List CV} (h : LeCs (fwd c 0 n) l) : LeC1 (.px n 0 c) (.px n 0 (boxC l)) := by
 rintro w N v ⟨b, o, g1, g2, g3, g4⟩
 refine ⟨b, o, g1, g2, g3, fun j hj => ?_⟩
 obtain ⟨x, e1, e2⟩ := g4 j hj
 refine ⟨x, e1, ?_⟩
 have e3 : (fwd c 0 n)[j]? = some (c j) := by rw [fwd_get, if_pos hj, Nat.zero_add]
 obtain ⟨y, k1, k2⟩ := h.get e3
 have e4 : boxC l j = y := by simp [boxC, List.getD, k1]
 rw [e4]
 exact k2 w N x e2
def intsB : List Nat → (Nat → CV) → Bool
 | [], _ => true
 | j :: l, c => (match c j with
  | .v (.int .i64 _) => true
  | _ => false) && intsB l c
theorem intsB_get : ∀ {l : List Nat} {c : Nat → CV}, intsB l c = true → ∀ j ∈ l, c j = .v (.int .i64 (cvInt (c j)))
 | k :: l, c, h, j, hj => by
  simp only [intsB, Bool.and_eq_true] at h
  rcases List.mem_cons.1 hj with e | e
  ·subst e
   have h1 := h.1
   split at h1
   ·rename_i x hx
    rw [hx]; rfl
   ·cases h1
  ·exact intsB_get h.2 j e
def addF (S : Sum) (f : FuncId) (F : Con) : Sum := fun g args => bif Nat.beq g f then (match F args with
 | some r => some r
 | none => S g args) else S g args
theorem Valid.addF {P : Program} {S : Sum} {f : FuncId} {F : Con} (h : Valid P S) (hF : Ok P f F) : Valid P (Ev.addF S f F) := by
 intro g args r pre fresh h1 h2
 unfold Ev.addF at h1
 cases e : Nat.beq g f with
 | true =>
  rw [e] at h1
  simp only [cond_true] at h1
  split at h1
  ·rename_i x hx
   cases h1
   rw [Nat.eq_of_beq_eq_true e]
   exact hF args r pre fresh hx h2
  ·exact h g args r pre fresh h1 h2
 | false => rw [e] at h1; exact h g args r pre fresh h1 h2
theorem leSl {sz n : Nat} {c c' : Nat → Nat → CV} (h : ∀ i j, i < n → j < sz → c i j = c' i j) : LeD (.t (.c (.sl sz n c))) (.t (.c (.sl sz n c'))) := fun w N v g => RelF.sl g h
end Go.Proofs.Ytfadkjcfjkmalaa.Ev
set_option linter.unusedVariables false
set_option linter.unusedSimpArgs false
namespace Go.Proofs.Ytfadkjcfjkmalaa.Ev
open Go.RowKit
variable {w0 : World} {N0 : Nat → Prop} {Z : Pins} {P : Program} {T : Tab} {S : Sum} {M : Map} {a : Act} {w : World}
end Go.Proofs.Ytfadkjcfjkmalaa.Ev
set_option linter.unusedVariables false
set_option linter.unusedSimpArgs false
namespace Go.Proofs.Ytfadkjcfjkmalaa.Ev
open Go.RowKit
variable {w0 : World} {N0 : Nat → Prop} {Z : Pins} {P : Program} {T : Tab} {S : Sum} {M : Map} {a : Act} {w : World}
def oneM (k B : Nat) : Map := fun j => bif Nat.beq j k then some (.box B) else none
theorem oneM_some {k B j : Nat} {l : Loc} (h : oneM k B j = some l) : j = k ∧ l = .box B := by
 unfold oneM at h
 cases e : Nat.beq j k with
 | true => rw [e] at h; cases h; exact ⟨Nat.eq_of_beq_eq_true e, rfl⟩
 | false => rw [e] at h; cases h
theorem oneM_k (k B : Nat) : oneM k B k = some (.box B) := by
 unfold oneM; rw [Nat.beq_refl]; rfl
def pinW (W : World) (k B : Nat) : Pins := ⟨fun b o => b ≠ B ∧ W.heap[b]? = some o, fun _ => False, oneM k B, W.heap.size⟩
def startW (args : List DV) (n k : Nat) (R : Row) : DS := ⟨args.map some ++ List.replicate (n - args.length) (some noV), (List.replicate n none).set k (some R)⟩
theorem fn_coreW (hm : P.follows .mixedOrders = true) (hT : TabOK P T) (hS : Valid P S) {ann : Ann} (hI : ValidIt P ann.it) {J : Inv} {f : FuncId} {fn : Func} (hf : P.funcs[f]? = some fn) {c : Code} (hb : fn.body = some c) {args : List DV} {k : Nat} {ks : List Nat} (hks : k ∈ ks) (hok : okCode ann c = true ∧ flatB ann true (some ks) c 0 = true) {ty : TypeId} {cs : List CV} {K : DS → Prop} (h : ev P T S ann J c 0 [] K (fun _ _ => False) K (startW args fn.ntmps k (.box ty cs))) (hlen : args.length ≤ fn.ntmps) (hk : k < fn.ntmps)
  (W : World) (N : Nat → Prop) (vs : List Value) (B : Nat) (hG : Gd (cutW W B)) (cells : Array Value) (hB : W.heap[B]? = some (.cells cells ty (0, 0))) (hcs : All2 (RelC W (fgn (cutW W B) N (oneM k B)) (oneM k B)) cs cells.toList) (hargs : All2 (RelD (RelC W (fgn (cutW W B) N (oneM k B)) (oneM k B))) args vs) {R : Ending → World → Prop}
  (hret : ∀ M' st' a' w', K st' → Abs (cutW W B) N (pinW W k B) M' st' a' w' → ∃ v, (results fn a'.tmps).run P w' = .ok v w' ∧ R (.returned v) w') : Calls P f vs.toArray W R := by
 have hvl := hargs.length
 have hBs : B < W.heap.size := (Array.getElem?_eq_some_iff.1 hB).1
 have hat : ∀ j r, (startW args fn.ntmps k (.box ty cs)).at j = some r → j = k ∧ r = .box ty cs := by
  intro j r hj
  unfold DS.at startW at hj
  simp only [List.getElem?_set] at hj
  by_cases e : k = j
  ·rw [if_pos e, if_pos (by simpa using hk)] at hj
   simp only [Option.join_some, Option.some.injEq] at hj
   exact ⟨e.symm, hj.symm⟩
  ·rw [if_neg e, List.getElem?_replicate] at hj
   split at hj <;> cases hj
 have hstart : Abs (cutW W B) N (pinW W k B) (oneM k B) (startW args fn.ntmps k (.box ty cs)) { tmps := vs.toArray ++ Array.replicate (fn.ntmps - vs.toArray.size) undef, defers := [] } W := by
  refine ⟨?_, by simp [startW, hvl], Marks.nil hG, fun i dv hi => ?_, fun j r hr => ?_, fun j hj => ?_, fun j l b h1 h2 => ?_, fun j j' r r' l l' b _ _ _ _ h1 h2 _ _ => ?_, fun b o hp => ?_, (fun _ h => h.elim), (fun _ _ h => h), (fun _ h => by cases h)⟩
  ·rw [cutW_size hBs]
   refine ⟨rfl, rfl, rfl, ?_, fun j hj => ?_⟩
   ·rw [cutW_size hBs]; omega
   ·simp only [cutW, Array.getElem?_extract]
    rw [if_pos (by omega)]; simp
  ·unfold DS.tm startW at hi
   simp only at hi
   by_cases hlt : i < args.length
   ·rw [List.getElem?_append_left (by simpa using hlt), List.getElem?_map] at hi
    have e1 : args[i]? = some dv := by
     cases e : args[i]? with
     | none => rw [e] at hi; cases hi
     | some x => rw [e] at hi; simpa using hi
    obtain ⟨v, e2, e3⟩ := hargs.get e1
    refine ⟨v, ?_, e3⟩
    rw [Array.getElem?_append_left (by simp; omega)]
    simpa using e2
   ·rw [List.getElem?_append_right (by simpa using hlt), List.getElem?_replicate] at hi
    split at hi
    ·rename_i h2
     simp only [Option.join_some, Option.some.injEq] at hi
     subst hi
     simp only [List.length_map] at h2
     refine ⟨undef, ?_, [], rfl, trivial⟩
     rw [Array.getElem?_append_right (by simp; omega), Array.getElem?_replicate, if_pos (by simp; omega)]
    ·cases hi
  ·obtain ⟨rfl, rfl⟩ := hat j r hr
   exact ⟨B, cells, oneM_k _ _, hB, hcs⟩
  ·unfold oneM
   cases e : Nat.beq j k with
   | false => rfl
   | true =>
    have e2 := Nat.eq_of_beq_eq_true e
    subst e2
    unfold DS.at startW at hj
    simp only [List.getElem?_set_self (show j < (List.replicate fn.ntmps (none : Option Row)).length by simpa using hk), Option.join_some] at hj
    cases hj
  ·obtain ⟨_, rfl⟩ := oneM_some h1
   cases h2
   rw [cutW_size hBs]; omega
  ·rw [(oneM_some h1).1, (oneM_some h2).1]
  ·refine ⟨hp.2, fun j l h1 h2 => ?_⟩
   obtain ⟨_, rfl⟩ := oneM_some h1
   cases h2
   exact hp.1 rfl
 have hleave : ∀ (ds : List Deferred) (M' : Map) (st' : DS) (a' : Act) (w' : World), a'.defers = ds → K st' → Abs (cutW W B) N (pinW W k B) M' st' a' w' → LeavesInM Fence.wide 0 P fn a'.tmps R ds .returning w' := by
  intro ds
  induction ds with
  | nil =>
   intro M' st' a' w' _ hk ha'
   exact hret M' st' a' w' hk ha'
  | cons d ds ih =>
   intro M' st' a' w' hd hk ha'
   obtain ⟨D, h1, h2, h3, h4⟩ := ha'.defs.1 d (by rw [hd]; simp)
   have h5 : W.heap.size ≤ D := ha'.lim d (by rw [hd]; simp) D h1
   refine ⟨by simp, Or.inl ⟨D, _, by rw [h1], run_takeDeferred h3, ?_⟩⟩
   have hm2 := ha'.defs
   rw [hd] at hm2
   have ha2 : Abs (cutW W B) N (pinW W k B) M' st' { a' with defers := ds } w' := ⟨ha'.below, ha'.fits, ⟨fun d' hd' => hm2.1 d' (by simp [hd']), (List.pairwise_cons.1 hm2.2.1).2, hm2.2.2⟩, ha'.tmp, ha'.row, ha'.dom, ha'.own, ha'.apart, ha'.pinB, ha'.pinN, ha'.pinK, fun d' hd' => ha'.lim d' (by rw [hd]; exact List.mem_cons_of_mem _ hd')⟩
   refine ih M' st' { a' with defers := ds } _ rfl hk (ha2.grownN (grownBy_putObj' w' D _) fun r e => ?_)
   cases e
   exact ⟨h2, ⟨_, h3, rfl⟩, fun o ho => by have := (Array.getElem?_eq_some_iff.1 ho.2).1; omega, fun d' hd' e => (List.pairwise_cons.1 hm2.2.1).1 d' hd' (by rw [e, h1])⟩
 refine (callsIn_wide (n := 0)).1 (callsIn_of_wp_marks hf hb trivial ?_)
 refine ev_sound hm hT hS hI c (ro := none) (q := some ks) (u := true) (Kn := fun _ => K) (Ke := fun _ _ _ => False) (Kr := fun _ => K) ⟨(fun h => by cases h), fun _ h _ j lo hj => by cases h; rw [(oneM_some hj).1]; exact hks⟩ hok.1 hok.2 (Or.inl rfl) hstart (fun M' st' a' w' hk ha' => ?_) (fun i M' st' a' w' hk _ => hk.elim) (fun M' st' a' w' hk ha' => ?_) h
 ·exact hleave _ M' st' a' w' rfl hk ha'
 ·exact hleave _ M' st' a' w' rfl hk ha'
theorem flatT_F {w w' : World} {N N' : Nat → Prop} {M : Map} : ∀ {x : TV} {v : Value}, flatT x = true → RelT (RelC w N M) x v → RelT (RelF w' N') x v
 | .c x, _, h, g => flatC_F h g
 | .a l, _, h, ⟨vs, e, g⟩ => ⟨vs, e, flatCs_F h g⟩
 | .fn f l, _, h, ⟨vs, e, g⟩ => ⟨vs, e, flatCs_F h g⟩
 | .fb f l, _, h, ⟨vs, e, g⟩ => ⟨vs, e, flatCs_F h g⟩
theorem flatTs_F {w w' : World} {N N' : Nat → Prop} {M : Map} : ∀ {l : List TV} {vs : List Value}, flatTs l = true → All2 (RelT (RelC w N M)) l vs → All2 (RelT (RelF w' N')) l vs
 | [], [], _, _ => trivial
 | x :: l, v :: vs, h, g => by
  simp only [flatTs, Bool.and_eq_true] at h
  exact ⟨flatT_F h.1 g.1, flatTs_F h.2 g.2⟩
 | [], _ :: _, _, g => g.elim
 | _ :: _, [], _, g => g.elim
theorem flatD_F {w w' : World} {N N' : Nat → Prop} {M : Map} {x : DV} {v : Value} (h : flatD x = true) (g : RelD (RelC w N M) x v) : RelD (RelF w' N') x v := by
 cases x with
 | t x => exact flatT_F h g
 | tu l => obtain ⟨vs, e, g⟩ := g; exact ⟨vs, e, flatTs_F h g⟩
def retKW (T : Tab) (fn : Func) (k ty : Nat) (post : DV → List CV → Prop) (st : DS) : Prop := match resE T st fn.results.toList with
 | some (d, p) => match st.at k with
  | some (.box ty' cs) => bif Nat.beq ty' ty && (flatD d && flatCs cs) then (match p with
   | none => post d cs
   | some p => p ∧ post d cs) else False
  | _ => False
 | none => False
def evFnW (P : Program) (T : Tab) (S : Sum) (ann : Ann) (J : Inv) (fn : Func) (args : List DV) (k ty : Nat) (cs : List CV) (post : DV → List CV → Prop) : Prop := match fn.body with
 | some c => ev P T S ann J c 0 [] (retKW T fn k ty post) (fun _ _ => False) (retKW T fn k ty post) (startW args fn.ntmps k (.box ty cs))
 | none => False
def okFnW (ann : Ann) (ks : List Nat) (fn : Func) : Bool := match fn.body with
 | some c => okCode ann c && flatB ann true (some ks) c 0
 | none => false
theorem fn_soundW (hm : P.follows .mixedOrders = true) (hT : TabOK P T) (hS : Valid P S) {ann : Ann} (hI : ValidIt P ann.it) {J : Inv} {f : FuncId} {fn : Func} (hf : P.funcs[f]? = some fn) {args : List DV} {k : Nat} {ks : List Nat} (hks : k ∈ ks) (hok : okFnW ann ks fn = true) {ty : TypeId} {cs : List CV} {post : DV → List CV → Prop} (h : evFnW P T S ann J fn args k ty cs post) (hlen : args.length ≤ fn.ntmps) (hk : k < fn.ntmps)
  (W : World) (N : Nat → Prop) (vs : List Value) (B : Nat) (hG : Gd (cutW W B)) (cells : Array Value) (hB : W.heap[B]? = some (.cells cells ty (0, 0))) (hcs : All2 (RelC W (fgn (cutW W B) N (oneM k B)) (oneM k B)) cs cells.toList) (hargs : All2 (RelD (RelC W (fgn (cutW W B) N (oneM k B)) (oneM k B))) args vs) :
  Calls P f vs.toArray W fun e w' => ∃ v r cs' cells', e = .returned v ∧ post r cs' ∧ flatD r = true ∧ flatCs cs' = true ∧ RelD (RelF w' (fun _ => False)) r v ∧ w'.heap[B]? = some (.cells cells' ty (0, 0)) ∧ All2 (RelF w' (fun _ => False)) cs' cells'.toList ∧ FrameB W B w' := by
 unfold evFnW at h
 unfold okFnW at hok
 have hBs : B < W.heap.size := (Array.getElem?_eq_some_iff.1 hB).1
 cases hb : fn.body with
 | none => rw [hb] at h; exact h.elim
 | some c =>
 rw [hb] at h hok
 simp only at h hok
 simp only [Bool.and_eq_true] at hok
 refine fn_coreW hm hT hS hI hf hb hks hok h hlen hk W N vs B hG cells hB hcs hargs fun M' st' a' w' hK ha' => ?_
 unfold retKW at hK
 split at hK
 rotate_left
 ·exact hK.elim
 rename_i d p hres
 split at hK
 rotate_left
 ·exact hK.elim
 rename_i ty' cs' hrow
 cases hq : (Nat.beq ty' ty && (flatD d && flatCs cs')) with
 | false => rw [hq] at hK; exact hK.elim
 | true =>
 rw [hq] at hK
 simp only [Bool.and_eq_true] at hq
 obtain ⟨q1, q2, q3⟩ := hq
 have q1 := Nat.eq_of_beq_eq_true q1
 subst q1
 have hK' : okP p ∧ post d cs' := by
  cases p with
  | none => exact ⟨trivial, hK⟩
  | some p => exact hK
 obtain ⟨v, g1, g2⟩ := resE_run hT ha' hres hK'.1
 obtain ⟨b, cells', e1, e2, e3⟩ := ha'.row k _ hrow
 have e4 : M' k = some (.box B) := ha'.pinK k _ (oneM_k k B)
 rw [e4] at e1
 cases e1
 have hpin : ∀ b, b < W.heap.size → b ≠ B → w'.heap[b]? = W.heap[b]? := fun b hb hn => by
  have e5 : W.heap[b]? = some W.heap[b] := Array.getElem?_eq_getElem hb
  rw [e5]; exact (ha'.pinB b _ ⟨hn, e5⟩).1
 have hBw : B < w'.heap.size := (Array.getElem?_eq_some_iff.1 e2).1
 refine ⟨v, g1, v, d, cs', cells', rfl, hK'.2, q2, q3, flatD_F q2 g2, e2, flatCs_F q3 e3, ha'.below.os, ha'.below.tape, ha'.below.output, ?_, hpin⟩
 by_cases e6 : W.heap.size - 1 = B
 ·omega
 ·have e7 : W.heap.size - 1 < W.heap.size := by omega
  have e8 := hpin _ e7 e6
  rw [Array.getElem?_eq_getElem e7] at e8
  have := (Array.getElem?_eq_some_iff.1 e8).1
  omega
theorem cells_get {W : World} {B : Nat} {cells : Array Value} {ty : TypeId} (h : W.heap[B]? = some (.cells cells ty (0, 0))) {i : Nat} {x : Value} (g : W.cell? ⟨B, i, none⟩ = some x) : cells[i]? = some x := by
 unfold World.cell? at g
 simp [h] at g
 exact g
theorem Ok.fnW (hm : P.follows .mixedOrders = true) (hT : TabOK P T) (hS : Valid P S) {ann : Ann} (hI : ValidIt P ann.it) {f : FuncId} {fn : Func} (hf : P.funcs[f]? = some fn) (hn : (fn.name == "runtime.NumGoroutine") = false) {ks : List Nat} (hok : okFnW ann ks fn = true) {F : Con}
  (h : ∀ args r pre fresh, F args = some (r, pre, fresh) → okP pre → ∃ j ty cs' n c, j ∈ ks ∧ fresh = .wr j ty cs' ∧ args[j]? = some (.t (.c (.px n 0 c))) ∧ flatCs ((List.range n).map c) = true ∧ j < fn.ntmps ∧ flatD r = true ∧
   ∃ (J : Inv) (al : List DV), al.length = args.length ∧ al[j]? = some (.t (.c (.p j 0))) ∧ (∀ i x y, i ≠ j → args[i]? = some x → al[i]? = some y → ∀ w N v, RelD (RelF w N) x v → RelD (RelF w N) y v) ∧ al.length ≤ fn.ntmps ∧ evFnW P T S ann J fn al j ty ((List.range n).map c) (fun r' cs => LeD r' r ∧ cs = cs')) : Ok P f F := by
 intro args r pre fresh h1 h2
 obtain ⟨j, ty, cs', n, c, hjk, rfl, hj, hfl, hjn, hfr, J, al, g1, g2, g3, g4, g5⟩ := h args r pre fresh h1 h2
 have hb : fn.body.isNone = false := by
  unfold okFnW at hok
  cases e : fn.body with
  | none => rw [e] at hok; cases hok
  | some c => rfl
 refine ⟨Enters.of hf hn hb, fun W N vs _ hv => ?_⟩
 obtain ⟨hall, B, cells, hvj, hB, ⟨c0, hc0⟩, hpt, hG⟩ := hv
 rw [hj] at hc0
 cases hc0
 have hall' := hall
 obtain ⟨v0, k1, k2⟩ := hall.get hj
 rw [hvj] at k1
 cases k1
 have hBs : B < W.heap.size := (Array.getElem?_eq_some_iff.1 hB).1
 have hcs : All2 (RelC W (fgn (cutW W B) N (oneM j B)) (oneM j B)) ((List.range cells.size).map c) cells.toList := by
  obtain ⟨b, o, e1, e2, e3, e4⟩ := k2
  simp only [Nat.add_zero, Value.pointer.injEq, Option.some.injEq, Addr.mk.injEq] at e1
  obtain ⟨rfl, rfl, _⟩ := e1
  have hfl' : ∀ i, i < cells.size → flatC (c i) = true := by
   have key : ∀ (l : List CV), flatCs l = true → ∀ x ∈ l, flatC x = true := by
    intro l
    induction l with
    | nil => intro _ x hx; simp at hx
    | cons y l ih =>
     intro hl x hx
     simp only [flatCs, Bool.and_eq_true] at hl
     rcases List.mem_cons.1 hx with rfl | hx
     ·exact hl.1
     ·exact ih hl.2 x hx
   intro i hi
   exact key _ hfl _ (List.mem_map.2 ⟨i, List.mem_range.2 hi, rfl⟩)
  refine All2.of_get (by simp) fun i a v ha hv => ?_
  have hi : i < cells.size := by
   have := (List.getElem?_eq_some_iff.1 hv).1; simpa using this
  rw [List.getElem?_map, List.getElem?_range hi] at ha
  simp only [Option.map_some, Option.some.injEq] at ha
  subst ha
  obtain ⟨x, f1, f2⟩ := e4 i hi
  have f3 := cells_get hB (by simpa using f1)
  have f4 : v = x := by
   rw [Array.getElem?_toList] at hv
   rw [hv] at f3
   exact Option.some.inj f3
  subst f4
  exact flatC_rel (hfl' i hi) f2
 have hargs : All2 (RelD (RelC W (fgn (cutW W B) N (oneM j B)) (oneM j B))) al vs := by
  refine All2.of_get (by rw [g1]; exact hall.length) fun i y v hy hv => ?_
  by_cases e : i = j
  ·subst e
   rw [g2] at hy
   cases hy
   rw [hvj] at hv
   cases hv
   exact ⟨B, oneM_k _ _, rfl⟩
  ·have hi : i < args.length := by rw [← g1]; exact (List.getElem?_eq_some_iff.1 hy).1
   have hx : args[i]? = some args[i] := List.getElem?_eq_getElem hi
   have hr := g3 i _ _ e hx hy _ _ _ (hpt i _ _ e hx hv)
   refine RelD.mono (fun x u g => RelC.ofF (g.all fun b hb => ⟨fun _ => hb.1, fun k l h3 h4 => ?_⟩)) hr
   obtain ⟨_, rfl⟩ := oneM_some h3
   cases h4
   exact hb.2 rfl
 refine Calls.mono (fn_soundW hm hT hS hI hf hjk hok g5 g4 hjn W N vs B hG cells hB hcs hargs) ?_
 rintro e w' ⟨v, r', cs2, cells', rfl, ⟨p1, rfl⟩, p2, p3, p4, p5, p6, p7⟩
 exact ⟨v, rfl, ⟨hfr, p3, p1 _ _ _ p4⟩, B, cells', hvj, p5, p6, p7⟩
end Go.Proofs.Ytfadkjcfjkmalaa.Ev
set_option linter.unusedVariables false
set_option linter.unusedSimpArgs false
namespace Go.Proofs.Ytfadkjcfjkmalaa.Ev
open Go.RowKit
variable {w0 : World} {N0 : Nat → Prop} {Z : Pins} {P : Program} {T : Tab} {S : Sum} {M : Map} {a : Act} {w : World}
end Go.Proofs.Ytfadkjcfjkmalaa.Ev
set_option linter.unusedVariables false
namespace Go.Proofs.Ytfadkjcfjkmalaa
open Go.RowKit Ev
def tabL : List (Nat × TyI) := [(3, ⟨.nm .i64, 1, 8, [.int .i64 0], true⟩),
 (4, ⟨.bl, 1, 1, [.bool false], true⟩),
 (22, ⟨.ar 3 3, 3, 24, [.int .i64 0, .int .i64 0, .int .i64 0], true⟩),
 (24, ⟨.st [(0, 3), (1, 3)], 2, 16, [.int .i64 0, .int .i64 0], true⟩),
 (26, ⟨.st [(0, 22), (3, 3), (4, 3), (5, 24), (7, 3), (8, 3), (9, 3), (10, 3), (11, 3)], 12, 96, [.int .i64 0, .int .i64 0, .int .i64 0, .int .i64 0, .int .i64 0, .int .i64 0, .int .i64 0, .int .i64 0, .int .i64 0, .int .i64 0, .int .i64 0, .int .i64 0], true⟩),
 (28, ⟨.st [(0, 22), (3, 22)], 6, 48, [.int .i64 0, .int .i64 0, .int .i64 0, .int .i64 0, .int .i64 0, .int .i64 0], true⟩),
 (29, ⟨.sl 111, 1, 24, [.slice none 0 0], false⟩),
 (31, ⟨.st [(0, 28), (6, 29)], 7, 72, [.int .i64 0, .int .i64 0, .int .i64 0, .int .i64 0, .int .i64 0, .int .i64 0, .slice none 0 0], false⟩),
 (34, ⟨.oth, 1, 8, [.nilFunc], false⟩),
 (35, ⟨.nm .i64, 1, 8, [.int .i64 0], true⟩),
 (39, ⟨.sl 22, 1, 24, [.slice none 0 0], false⟩),
 (56, ⟨.sl 28, 1, 24, [.slice none 0 0], false⟩),
 (61, ⟨.st [(0, 56), (1, 3)], 2, 32, [.slice none 0 0, .int .i64 0], false⟩),
 (65, ⟨.st [(0, 3), (1, 3)], 2, 16, [.int .i64 0, .int .i64 0], true⟩),
 (72, ⟨.st [(0, 26)], 12, 96, [.int .i64 0, .int .i64 0, .int .i64 0, .int .i64 0, .int .i64 0, .int .i64 0, .int .i64 0, .int .i64 0, .int .i64 0, .int .i64 0, .int .i64 0, .int .i64 0], true⟩),
 (75, ⟨.ar 3 3, 3, 24, [.int .i64 0, .int .i64 0, .int .i64 0], true⟩),
 (77, ⟨.st [(0, 75), (3, 3)], 4, 32, [.int .i64 0, .int .i64 0, .int .i64 0, .int .i64 0], true⟩),
 (79, ⟨.oth, 1, 8, [.pointer none], false⟩),
 (88, ⟨.oth, 1, 8, [.nilFunc], false⟩),
 (111, ⟨.st [(0, 22), (3, 3), (4, 3)], 5, 40, [.int .i64 0, .int .i64 0, .int .i64 0, .int .i64 0, .int .i64 0], true⟩),
 (113, ⟨.st [(0, 3), (1, 3)], 2, 16, [.int .i64 0, .int .i64 0], true⟩),
 (117, ⟨.ar 2 28, 12, 96, [.int .i64 0, .int .i64 0, .int .i64 0, .int .i64 0, .int .i64 0, .int .i64 0, .int .i64 0, .int .i64 0, .int .i64 0, .int .i64 0, .int .i64 0, .int .i64 0], true⟩),
 (120, ⟨.sl 3, 1, 24, [.slice none 0 0], false⟩),
 (121, ⟨.sl 35, 1, 24, [.slice none 0 0], false⟩),
 (134, ⟨.st [(0, 22), (3, 3)], 4, 32, [.int .i64 0, .int .i64 0, .int .i64 0, .int .i64 0], true⟩),
 (144, ⟨.nm .u64, 1, 8, [.int .u64 0], true⟩),
 (147, ⟨.ar 4 3, 4, 32, [.int .i64 0, .int .i64 0, .int .i64 0, .int .i64 0], true⟩)]
def tab : Tab := fun t => lookA t tabL
theorem ty3 : TyOK Try.prog 3 ⟨.nm .i64, 1, 8, [.int .i64 0], true⟩ := ⟨by kernel_rfl, by kernel_rfl, by kernel_rfl, fun _ => ⟨by kernel_rfl, by kernel_rfl, by kernel_rfl⟩⟩
theorem ty4 : TyOK Try.prog 4 ⟨.bl, 1, 1, [.bool false], true⟩ := ⟨by kernel_rfl, by kernel_rfl, by kernel_rfl, fun _ => ⟨by kernel_rfl, by kernel_rfl, by kernel_rfl⟩⟩
theorem ty22 : TyOK Try.prog 22 ⟨.ar 3 3, 3, 24, [.int .i64 0, .int .i64 0, .int .i64 0], true⟩ := ⟨by kernel_rfl, by kernel_rfl, by kernel_rfl, fun _ => ⟨by kernel_rfl, by kernel_rfl, by kernel_rfl⟩⟩
theorem ty24 : TyOK Try.prog 24 ⟨.st [(0, 3), (1, 3)], 2, 16, [.int .i64 0, .int .i64 0], true⟩ := ⟨by kernel_rfl, by kernel_rfl, by kernel_rfl, fun _ => ⟨by kernel_rfl, by kernel_rfl, by kernel_rfl⟩⟩
theorem ty26 : TyOK Try.prog 26 ⟨.st [(0, 22), (3, 3), (4, 3), (5, 24), (7, 3), (8, 3), (9, 3), (10, 3), (11, 3)], 12, 96, [.int .i64 0, .int .i64 0, .int .i64 0, .int .i64 0, .int .i64 0, .int .i64 0, .int .i64 0, .int .i64 0, .int .i64 0, .int .i64 0, .int .i64 0, .int .i64 0], true⟩ := ⟨by kernel_rfl, by kernel_rfl, by kernel_rfl, fun _ => ⟨by kernel_rfl, by kernel_rfl, by kernel_rfl⟩⟩
theorem ty28 : TyOK Try.prog 28 ⟨.st [(0, 22), (3, 22)], 6, 48, [.int .i64 0, .int .i64 0, .int .i64 0, .int .i64 0, .int .i64 0, .int .i64 0], true⟩ := ⟨by kernel_rfl, by kernel_rfl, by kernel_rfl, fun _ => ⟨by kernel_rfl, by kernel_rfl, by kernel_rfl⟩⟩
theorem ty29 : TyOK Try.prog 29 ⟨.sl 111, 1, 24, [.slice none 0 0], false⟩ := ⟨by kernel_rfl, by kernel_rfl, by kernel_rfl, fun h => by cases h⟩
theorem ty31 : TyOK Try.prog 31 ⟨.st [(0, 28), (6, 29)], 7, 72, [.int .i64 0, .int .i64 0, .int .i64 0, .int .i64 0, .int .i64 0, .int .i64 0, .slice none 0 0], false⟩ := ⟨by kernel_rfl, by kernel_rfl, by kernel_rfl, fun h => by cases h⟩
theorem ty34 : TyOK Try.prog 34 ⟨.oth, 1, 8, [.nilFunc], false⟩ := ⟨by kernel_rfl, by kernel_rfl, by kernel_rfl, fun h => by cases h⟩
theorem ty35 : TyOK Try.prog 35 ⟨.nm .i64, 1, 8, [.int .i64 0], true⟩ := ⟨by kernel_rfl, by kernel_rfl, by kernel_rfl, fun _ => ⟨by kernel_rfl, by kernel_rfl, by kernel_rfl⟩⟩
theorem ty39 : TyOK Try.prog 39 ⟨.sl 22, 1, 24, [.slice none 0 0], false⟩ := ⟨by kernel_rfl, by kernel_rfl, by kernel_rfl, fun h => by cases h⟩
theorem ty56 : TyOK Try.prog 56 ⟨.sl 28, 1, 24, [.slice none 0 0], false⟩ := ⟨by kernel_rfl, by kernel_rfl, by kernel_rfl, fun h => by cases h⟩
theorem ty61 : TyOK Try.prog 61 ⟨.st [(0, 56), (1, 3)], 2, 32, [.slice none 0 0, .int .i64 0], false⟩ := ⟨by kernel_rfl, by kernel_rfl, by kernel_rfl, fun h => by cases h⟩
theorem ty65 : TyOK Try.prog 65 ⟨.st [(0, 3), (1, 3)], 2, 16, [.int .i64 0, .int .i64 0], true⟩ := ⟨by kernel_rfl, by kernel_rfl, by kernel_rfl, fun _ => ⟨by kernel_rfl, by kernel_rfl, by kernel_rfl⟩⟩
theorem ty72 : TyOK Try.prog 72 ⟨.st [(0, 26)], 12, 96, [.int .i64 0, .int .i64 0, .int .i64 0, .int .i64 0, .int .i64 0, .int .i64 0, .int .i64 0, .int .i64 0, .int .i64 0, .int .i64 0, .int .i64 0, .int .i64 0], true⟩ := ⟨by kernel_rfl, by kernel_rfl, by kernel_rfl, fun _ => ⟨by kernel_rfl, by kernel_rfl, by kernel_rfl⟩⟩
theorem ty75 : TyOK Try.prog 75 ⟨.ar 3 3, 3, 24, [.int .i64 0, .int .i64 0, .int .i64 0], true⟩ := ⟨by kernel_rfl, by kernel_rfl, by kernel_rfl, fun _ => ⟨by kernel_rfl, by kernel_rfl, by kernel_rfl⟩⟩
theorem ty77 : TyOK Try.prog 77 ⟨.st [(0, 75), (3, 3)], 4, 32, [.int .i64 0, .int .i64 0, .int .i64 0, .int .i64 0], true⟩ := ⟨by kernel_rfl, by kernel_rfl, by kernel_rfl, fun _ => ⟨by kernel_rfl, by kernel_rfl, by kernel_rfl⟩⟩
theorem ty79 : TyOK Try.prog 79 ⟨.oth, 1, 8, [.pointer none], false⟩ := ⟨by kernel_rfl, by kernel_rfl, by kernel_rfl, fun h => by cases h⟩
theorem ty88 : TyOK Try.prog 88 ⟨.oth, 1, 8, [.nilFunc], false⟩ := ⟨by kernel_rfl, by kernel_rfl, by kernel_rfl, fun h => by cases h⟩
theorem ty111 : TyOK Try.prog 111 ⟨.st [(0, 22), (3, 3), (4, 3)], 5, 40, [.int .i64 0, .int .i64 0, .int .i64 0, .int .i64 0, .int .i64 0], true⟩ := ⟨by kernel_rfl, by kernel_rfl, by kernel_rfl, fun _ => ⟨by kernel_rfl, by kernel_rfl, by kernel_rfl⟩⟩
theorem ty113 : TyOK Try.prog 113 ⟨.st [(0, 3), (1, 3)], 2, 16, [.int .i64 0, .int .i64 0], true⟩ := ⟨by kernel_rfl, by kernel_rfl, by kernel_rfl, fun _ => ⟨by kernel_rfl, by kernel_rfl, by kernel_rfl⟩⟩
theorem ty117 : TyOK Try.prog 117 ⟨.ar 2 28, 12, 96, [.int .i64 0, .int .i64 0, .int .i64 0, .int .i64 0, .int .i64 0, .int .i64 0, .int .i64 0, .int .i64 0, .int .i64 0, .int .i64 0, .int .i64 0, .int .i64 0], true⟩ := ⟨by kernel_rfl, by kernel_rfl, by kernel_rfl, fun _ => ⟨by kernel_rfl, by kernel_rfl, by kernel_rfl⟩⟩
theorem ty120 : TyOK Try.prog 120 ⟨.sl 3, 1, 24, [.slice none 0 0], false⟩ := ⟨by kernel_rfl, by kernel_rfl, by kernel_rfl, fun h => by cases h⟩
theorem ty121 : TyOK Try.prog 121 ⟨.sl 35, 1, 24, [.slice none 0 0], false⟩ := ⟨by kernel_rfl, by kernel_rfl, by kernel_rfl, fun h => by cases h⟩
theorem ty134 : TyOK Try.prog 134 ⟨.st [(0, 22), (3, 3)], 4, 32, [.int .i64 0, .int .i64 0, .int .i64 0, .int .i64 0], true⟩ := ⟨by kernel_rfl, by kernel_rfl, by kernel_rfl, fun _ => ⟨by kernel_rfl, by kernel_rfl, by kernel_rfl⟩⟩
theorem ty144 : TyOK Try.prog 144 ⟨.nm .u64, 1, 8, [.int .u64 0], true⟩ := ⟨by kernel_rfl, by kernel_rfl, by kernel_rfl, fun _ => ⟨by kernel_rfl, by kernel_rfl, by kernel_rfl⟩⟩
theorem ty147 : TyOK Try.prog 147 ⟨.ar 4 3, 4, 32, [.int .i64 0, .int .i64 0, .int .i64 0, .int .i64 0], true⟩ := ⟨by kernel_rfl, by kernel_rfl, by kernel_rfl, fun _ => ⟨by kernel_rfl, by kernel_rfl, by kernel_rfl⟩⟩
set_option maxRecDepth 100000 in
theorem tabOK : TabOK Try.prog tab := by
 refine tab_of fun p hp => ?_
 simp only [tabL, List.mem_cons, List.not_mem_nil, or_false] at hp
 rcases hp with rfl | rfl | rfl | rfl | rfl | rfl | rfl | rfl | rfl | rfl | rfl | rfl | rfl | rfl | rfl | rfl | rfl | rfl | rfl | rfl | rfl | rfl | rfl | rfl | rfl | rfl | rfl
 ·exact ty3
 ·exact ty4
 ·exact ty22
 ·exact ty24
 ·exact ty26
 ·exact ty28
 ·exact ty29
 ·exact ty31
 ·exact ty34
 ·exact ty35
 ·exact ty39
 ·exact ty56
 ·exact ty61
 ·exact ty65
 ·exact ty72
 ·exact ty75
 ·exact ty77
 ·exact ty79
 ·exact ty88
 ·exact ty111
 ·exact ty113
 ·exact ty117
 ·exact ty120
 ·exact ty121
 ·exact ty134
 ·exact ty144
 ·exact ty147
theorem mixed : Try.prog.follows .mixedOrders = true := by kernel_rfl
end Go.Proofs.Ytfadkjcfjkmalaa
set_option linter.unusedVariables false
set_option linter.unusedSimpArgs false
namespace Go.Proofs.Ytfadkjcfjkmalaa
structure TMod where
 (px py pz tm tk lo hi li ea la no mi : Int)
structure V3 where
 (x y z : Int)
def V3.dot (a b : V3) : Int := a.x * b.x + a.y * b.y + a.z * b.z
def TMod.slow (m : TMod) : Int := m.li * m.tk * m.tk
def TMod.way (m : TMod) (s p : V3) (t : Int) : V3 := ⟨m.tk * (p.x - m.px) - (t - m.tm) * s.x, m.tk * (p.y - m.py) - (t - m.tm) * s.y, m.tk * (p.z - m.pz) - (t - m.tm) * s.z⟩
def reachB (a b c : Int) : Bool := decide (c = 0) || (decide (b ≤ 0) && decide (a * c ≤ b * b))
def TMod.reached (m : TMod) (s p : V3) (t : Int) : Bool := reachB (s.dot s - m.slow) ((m.way s p t).dot s) ((m.way s p t).dot (m.way s p t))
theorem sq_nn (a : Int) : 0 ≤ a * a := by have h : ((a.natAbs * a.natAbs : Nat) : Int) = a * a := Int.natAbs_mul_self; omega
theorem V3.dot_self (a : V3) : 0 ≤ a.dot a := by
 have h1 := sq_nn a.x 
 have h2 := sq_nn a.y
 have h3 := sq_nn a.z
 unfold V3.dot; omega
theorem V3.dot_zero {a : V3} (h : a.dot a = 0) : a.x = 0 ∧ a.y = 0 ∧ a.z = 0 := by
 have h1 := sq_nn a.x
 have h2 := sq_nn a.y
 have h3 := sq_nn a.z
 unfold V3.dot at h
 have e1 : a.x * a.x = 0 := by omega
 have e2 : a.y * a.y = 0 := by omega
 have e3 : a.z * a.z = 0 := by omega
 exact ⟨(Int.mul_eq_zero.1 e1).elim id id, (Int.mul_eq_zero.1 e2).elim id id, (Int.mul_eq_zero.1 e3).elim id id⟩
theorem reached_succ (m : TMod) (s p : V3) (t : Int) (hs : 0 ≤ m.slow) (ha : m.slow < s.dot s) (h : m.reached s p t = true) : m.reached s p (t + 1) = true := by
 obtain ⟨w, hw⟩ : ∃ w, w = m.way s p t := ⟨_, rfl⟩
 obtain ⟨w', hw'⟩ : ∃ w', w' = m.way s p (t + 1) := ⟨_, rfl⟩
 have ex : w'.x = w.x - s.x := by rw [hw, hw']; simp only [TMod.way]; grind
 have ey : w'.y = w.y - s.y := by rw [hw, hw']; simp only [TMod.way]; grind
 have ez : w'.z = w.z - s.z := by rw [hw, hw']; simp only [TMod.way]; grind
 unfold TMod.reached at *
 rw [← hw] at h
 rw [← hw']
 obtain ⟨S, hS⟩ : ∃ S, S = s.dot s := ⟨_, rfl⟩
 obtain ⟨b, hb⟩ : ∃ b, b = w.dot s := ⟨_, rfl⟩
 obtain ⟨c, hc⟩ : ∃ c, c = w.dot w := ⟨_, rfl⟩
 have eb : w'.dot s = b - S := by rw [hb, hS]; simp only [V3.dot, ex, ey, ez]; grind
 have ec : w'.dot w' = c - 2 * b + S := by rw [hc, hb, hS]; simp only [V3.dot, ex, ey, ez]; grind
 rw [eb, ec, ← hS]
 rw [← hb, ← hc, ← hS] at h
 rw [← hS] at ha
 have hc0 : 0 ≤ c := by rw [hc]; exact V3.dot_self w
 unfold reachB at *
 simp only [Bool.or_eq_true, Bool.and_eq_true, decide_eq_true_eq] at *
 right
 have hb0 : b ≤ 0 ∧ (S - m.slow) * c ≤ b * b := by
  rcases h with h | h
  ·have := V3.dot_zero (hc.symm.trans h)
   have e0 : b = 0 := by rw [hb]; simp only [V3.dot, this.1, this.2.1, this.2.2]; omega
   exact ⟨by omega, by rw [h, e0]; omega⟩
  ·exact h
 refine ⟨by omega, ?_⟩
 generalize m.slow = q at *
 have h1 := Int.mul_nonneg (show 0 ≤ -b by omega) hs
 have h2 := Int.mul_nonneg (show 0 ≤ S by omega) hs
 have e : (b - S) * (b - S) - (S - q) * (c - 2 * b + S) = (b * b - (S - q) * c) + 2 * (-b * q) + S * q := by grind
 omega
theorem reached_mono (m : TMod) (s p : V3) (hs : 0 ≤ m.slow) (ha : m.slow < s.dot s) {t u : Int} (htu : t ≤ u) (h : m.reached s p t = true) : m.reached s p u = true := by
 obtain ⟨k, rfl⟩ : ∃ k : Nat, u = t + k := ⟨(u - t).toNat, by omega⟩
 induction k with
 | zero => simpa using h
 | succ k ih =>
  have := reached_succ m s p (t + k) hs ha (ih (by omega))
  rwa [show t + (k : Int) + 1 = t + ((k + 1 : Nat) : Int) by push_cast; omega] at this
def fstN (f : Int → Bool) : Nat → Int → Int
 | 0, t => t
 | n + 1, t => if f t then t else fstN f n (t + 1)
theorem fstN_spec (f : Int → Bool) : ∀ (n : Nat) (t : Int), t ≤ fstN f n t ∧ fstN f n t ≤ t + n ∧ (∀ u, t ≤ u → u < fstN f n t → f u = false) ∧ (fstN f n t < t + n → f (fstN f n t) = true) := by
 intro n
 induction n with
 | zero => intro t; exact ⟨Int.le_refl _, by simp [fstN], fun u h1 h2 => by simp only [fstN] at h2; omega, fun h => by simp [fstN] at h⟩
 | succ n ih =>
  intro t
  unfold fstN
  split
  ·next h => exact ⟨Int.le_refl _, by omega, fun u h1 h2 => by omega, fun _ => h⟩
  ·next h =>
   obtain ⟨h1, h2, h3, h4⟩ := ih (t + 1)
   refine ⟨by omega, by push_cast; omega, fun u hu1 hu2 => ?_, fun hh => h4 (by push_cast at hh; omega)⟩
   rcases (by omega : u = t ∨ t + 1 ≤ u) with rfl | h5
   ·simpa using h
   ·exact h3 u h5 hu2
theorem fstN_eq {f : Int → Bool} {n : Nat} {t u : Int} (h1 : t ≤ u) (h2 : u ≤ t + n) (h3 : ∀ v, t ≤ v → v < u → f v = false) (h4 : u < t + n → f u = true) : fstN f n t = u := by
 obtain ⟨a1, a2, a3, a4⟩ := fstN_spec f n t
 rcases Int.lt_trichotomy (fstN f n t) u with h | h | h
 ·have := h3 _ a1 h; rw [a4 (by omega)] at this; cases this
 ·exact h
 ·have := a3 u h1 h; rw [h4 (by omega)] at this; cases this
def TMod.first (m : TMod) (s p : V3) : Int := fstN (m.reached s p) 2000002 (-1000001)
theorem first_spec (m : TMod) (s p : V3) (hs : 0 ≤ m.slow) (ha : m.slow < s.dot s) {u : Int} (h1 : -1000001 ≤ u) (h2 : u ≤ 1000000) : m.reached s p u = decide (m.first s p ≤ u) := by
 obtain ⟨a1, a2, a3, a4⟩ := fstN_spec (m.reached s p) 2000002 (-1000001)
 by_cases h : m.first s p ≤ u
 ·rw [decide_eq_true h]
  exact reached_mono m s p hs ha h (a4 (by unfold TMod.first at h; omega))
 ·rw [decide_eq_false h]
  exact a3 u h1 (by unfold TMod.first at h; omega)
theorem mul_sz {x y : Int} {A B : Nat} (hx : x.natAbs ≤ A) (hy : y.natAbs ≤ B) : (x * y).natAbs ≤ A * B := by
 rw [Int.natAbs_mul]; exact Nat.mul_le_mul hx hy
theorem mul_rg {x y A B C : Int} (hx : -A ≤ x ∧ x ≤ A) (hy : -B ≤ y ∧ y ≤ B) (hC : A * B ≤ C) : -C ≤ x * y ∧ x * y ≤ C := by
 have h := mul_sz (x := x) (y := y) (A := A.natAbs) (B := B.natAbs) (by omega) (by omega)
 have e : ((A.natAbs * B.natAbs : Nat) : Int) = A * B := by push_cast; congr 1 <;> omega
 omega
theorem reached_iff (m : TMod) (s p : V3) (hs : 0 ≤ m.slow) (ha : m.slow < s.dot s) {n : Int} (h1 : m.reached s p n = true) (h0 : m.reached s p (n - 1) = false) (u : Int) : m.reached s p u = decide (n ≤ u) := by
 by_cases h : n ≤ u
 ·rw [decide_eq_true h]; exact reached_mono m s p hs ha h h1
 ·rw [decide_eq_false h]
  cases e : m.reached s p u
  ·rfl
  ·rw [reached_mono m s p hs ha (show u ≤ n - 1 by omega) e] at h0; cases h0
theorem first_of (m : TMod) (s p : V3) {n : Int} (h : ∀ u, m.reached s p u = decide (n ≤ u)) (h1 : -1000001 ≤ n) (h2 : n ≤ 1000001) : m.first s p = n :=
 fstN_eq h1 (by omega) (fun v _ hv => by rw [h, decide_eq_false (by omega)]) (fun _ => by rw [h, decide_eq_true (Int.le_refl _)])
def V3.add (a b : V3) : V3 := ⟨a.x + b.x, a.y + b.y, a.z + b.z⟩
def TMod.pl (m : TMod) : V3 := ⟨m.px, m.py, m.pz⟩
def TMod.put (m : TMod) (p : V3) (t : Int) : TMod := { m with px := p.x, py := p.y, pz := p.z, tm := t }
structure TBox where
 (lo hi : V3)
structure Rg where
 (lo hi : Int)
def Rg.plus (r s : Rg) : Rg := ⟨r.lo + s.lo, r.hi + s.hi⟩
def mn4 (a b c d : Int) : Int := min (min (min a b) c) d
def mx4 (a b c d : Int) : Int := max (max (max a b) c) d
def Rg.times (r s : Rg) : Rg := ⟨mn4 (r.lo * s.lo) (r.lo * s.hi) (r.hi * s.lo) (r.hi * s.hi), mx4 (r.lo * s.lo) (r.lo * s.hi) (r.hi * s.lo) (r.hi * s.hi)⟩
def Rg.square (r : Rg) : Rg := if r.lo ≤ 0 ∧ 0 ≤ r.hi then ⟨0, max (r.lo * r.lo) (r.hi * r.hi)⟩ else ⟨min (r.lo * r.lo) (r.hi * r.hi), max (r.lo * r.lo) (r.hi * r.hi)⟩
def Rg.has (r : Rg) (n : Int) : Prop := r.lo ≤ n ∧ n ≤ r.hi
theorem Rg.plus_has {r s : Rg} {a b : Int} (h : r.has a) (g : s.has b) : (r.plus s).has (a + b) := by unfold Rg.has Rg.plus at *; simp only; omega
theorem mul_between {x lo hi : Int} (c : Int) (h : lo ≤ x ∧ x ≤ hi) : min (lo * c) (hi * c) ≤ x * c ∧ x * c ≤ max (lo * c) (hi * c) := by
 rcases Int.le_total 0 c with h0 | h0
 ·have h1 := Int.mul_le_mul_of_nonneg_right h.1 h0
  have h2 := Int.mul_le_mul_of_nonneg_right h.2 h0
  omega
 ·have h1 := Int.mul_le_mul_of_nonpos_right h.1 h0
  have h2 := Int.mul_le_mul_of_nonpos_right h.2 h0
  omega
theorem Rg.times_has {r s : Rg} {a b : Int} (h : r.has a) (g : s.has b) : (r.times s).has (a * b) := by
 obtain ⟨h1, h2⟩ := mul_between b h
 obtain ⟨h3, h4⟩ := mul_between r.lo g
 obtain ⟨h5, h6⟩ := mul_between r.hi g
 have e1 := Int.mul_comm b r.lo
 have e2 := Int.mul_comm b r.hi
 have e3 := Int.mul_comm s.lo r.lo
 have e4 := Int.mul_comm s.hi r.lo
 have e5 := Int.mul_comm s.lo r.hi
 have e6 := Int.mul_comm s.hi r.hi
 unfold Rg.has Rg.times mn4 mx4
 simp only
 omega
theorem sq_le {a b : Int} (h0 : 0 ≤ a) (h : a ≤ b) : a * a ≤ b * b := Int.mul_le_mul h h h0 (by omega)
theorem sq_le_neg {a b : Int} (h0 : b ≤ 0) (h : a ≤ b) : b * b ≤ a * a := by
 have := sq_le (a := -b) (b := -a) (by omega) (by omega)
 rwa [Int.neg_mul_neg, Int.neg_mul_neg] at this
theorem Rg.square_has {r : Rg} {a : Int} (h : r.has a) : r.square.has (a * a) := by
 obtain ⟨h1, h2⟩ := h
 have h0 : 0 ≤ a * a := by have h : ((a.natAbs * a.natAbs : Nat) : Int) = a * a := Int.natAbs_mul_self; omega
 have hp : 0 ≤ a → a * a ≤ r.hi * r.hi := fun h => sq_le h h2
 have hn : a ≤ 0 → a * a ≤ r.lo * r.lo := fun h => sq_le_neg h h1
 have hl : 0 ≤ r.lo → r.lo * r.lo ≤ a * a := fun h => sq_le h h1
 have hh : r.hi ≤ 0 → r.hi * r.hi ≤ a * a := fun h => sq_le_neg h h2
 unfold Rg.square Rg.has
 split <;> simp only <;> omega
def TBox.rx (b : TBox) : Rg := ⟨b.lo.x, b.hi.x⟩
def TBox.ry (b : TBox) : Rg := ⟨b.lo.y, b.hi.y⟩
def TBox.rz (b : TBox) : Rg := ⟨b.lo.z, b.hi.z⟩
def TBox.has (b : TBox) (s : V3) : Prop := b.rx.has s.x ∧ b.ry.has s.y ∧ b.rz.has s.z
def restR (tk : Int) (r : Rg) (d a : Int) : Rg := (r.times ⟨-a, -a⟩).plus ⟨tk * d, tk * d⟩
def TMod.prodR (m : TMod) (b : TBox) (p : V3) (t : Int) : Rg :=
 (((⟨0, 0⟩ : Rg).plus ((restR m.tk b.rx (p.x - m.px) (t - m.tm)).times b.rx)).plus ((restR m.tk b.ry (p.y - m.py) (t - m.tm)).times b.ry)).plus ((restR m.tk b.rz (p.z - m.pz) (t - m.tm)).times b.rz)
def TMod.leftR (m : TMod) (b : TBox) (p : V3) (t : Int) : Rg :=
 (((⟨0, 0⟩ : Rg).plus (restR m.tk b.rx (p.x - m.px) (t - m.tm)).square).plus (restR m.tk b.ry (p.y - m.py) (t - m.tm)).square).plus (restR m.tk b.rz (p.z - m.pz) (t - m.tm)).square
def TBox.squares (b : TBox) : Rg := (((⟨0, 0⟩ : Rg).plus b.rx.square).plus b.ry.square).plus b.rz.square
def TMod.fast (m : TMod) (b : TBox) : Rg := ⟨max b.squares.lo m.lo - m.slow, min b.squares.hi m.hi - m.slow⟩
def ansR (prod left fast : Rg) : Int :=
 if left.hi = 0 ∨ (prod.hi ≤ 0 ∧ fast.hi * left.hi ≤ prod.hi * prod.hi) then 2 else if 0 < left.lo ∧ (0 < prod.lo ∨ prod.lo * prod.lo < fast.lo * left.lo) then 0 else 1
def TMod.ans (m : TMod) (b : TBox) (p : V3) (t : Int) : Int := ansR (m.prodR b p t) (m.leftR b p t) (m.fast b)
def TMod.permit (m : TMod) (s : V3) : Prop := m.lo ≤ s.dot s ∧ s.dot s ≤ m.hi
theorem rest_has {tk d a x : Int} {r : Rg} (h : r.has x) : (restR tk r d a).has (tk * d - a * x) := by
 have h1 := Rg.plus_has (Rg.times_has h (s := ⟨-a, -a⟩) (b := -a) ⟨Int.le_refl _, Int.le_refl _⟩) (s := ⟨tk * d, tk * d⟩) (b := tk * d) ⟨Int.le_refl _, Int.le_refl _⟩
 rwa [show x * -a + tk * d = tk * d - a * x by grind] at h1
theorem zero_has : (⟨0, 0⟩ : Rg).has 0 := ⟨Int.le_refl _, Int.le_refl _⟩
theorem prod_has {m : TMod} {b : TBox} {s p : V3} {t : Int} (h : b.has s) : (m.prodR b p t).has ((m.way s p t).dot s) := by
 have := Rg.plus_has (Rg.plus_has (Rg.plus_has zero_has (Rg.times_has (rest_has (tk := m.tk) (d := p.x - m.px) (a := t - m.tm) h.1) h.1)) (Rg.times_has (rest_has (tk := m.tk) (d := p.y - m.py) (a := t - m.tm) h.2.1) h.2.1)) (Rg.times_has (rest_has (tk := m.tk) (d := p.z - m.pz) (a := t - m.tm) h.2.2) h.2.2)
 rw [Int.zero_add] at this
 exact this
theorem left_has {m : TMod} {b : TBox} {s p : V3} {t : Int} (h : b.has s) : (m.leftR b p t).has ((m.way s p t).dot (m.way s p t)) := by
 have := Rg.plus_has (Rg.plus_has (Rg.plus_has zero_has (Rg.square_has (rest_has (tk := m.tk) (d := p.x - m.px) (a := t - m.tm) h.1))) (Rg.square_has (rest_has (tk := m.tk) (d := p.y - m.py) (a := t - m.tm) h.2.1))) (Rg.square_has (rest_has (tk := m.tk) (d := p.z - m.pz) (a := t - m.tm) h.2.2))
 rw [Int.zero_add] at this
 exact this
theorem squares_has {b : TBox} {s : V3} (h : b.has s) : b.squares.has (s.dot s) := by
 have := Rg.plus_has (Rg.plus_has (Rg.plus_has zero_has (Rg.square_has h.1)) (Rg.square_has h.2.1)) (Rg.square_has h.2.2)
 rw [Int.zero_add] at this
 exact this
theorem fast_has {m : TMod} {b : TBox} {s : V3} (h : b.has s) (hp : m.permit s) : (m.fast b).has (s.dot s - m.slow) := by
 have h1 := squares_has h
 unfold TMod.fast TMod.permit Rg.has at *; simp only; omega
theorem ans_sure {m : TMod} {b : TBox} {s p : V3} {t : Int} (h : b.has s) (hp : m.permit s) (hsl : m.slow < m.lo) : (m.ans b p t = 2 → m.reached s p t = true) ∧ (m.ans b p t = 0 → m.reached s p t = false) := by
 have h1 := prod_has (m := m) (p := p) (t := t) h
 have h2 := left_has (m := m) (p := p) (t := t) h
 have h3 := fast_has h hp
 have h4 := V3.dot_self (m.way s p t)
 have h5 : 0 < s.dot s - m.slow := by have := hp.1; omega
 have h6 : 0 < (m.fast b).lo := by unfold TMod.fast; simp only; omega
 unfold TMod.reached reachB TMod.ans ansR
 generalize m.prodR b p t = P at *
 generalize m.leftR b p t = L at *
 generalize m.fast b = F at *
 generalize s.dot s - m.slow = A at *
 generalize (m.way s p t).dot s = B at *
 generalize (m.way s p t).dot (m.way s p t) = C at *
 obtain ⟨p1, p2⟩ := h1
 obtain ⟨l1, l2⟩ := h2
 obtain ⟨f1, f2⟩ := h3
 constructor
 ·intro hh
  split at hh
  ·next hc =>
   simp only [Bool.or_eq_true, Bool.and_eq_true, decide_eq_true_eq]
   rcases hc with hc | ⟨hc1, hc2⟩
   ·left; omega
   ·right
    refine ⟨by omega, ?_⟩
    have a1 := sq_le_neg hc1 p2
    have a2 : A * C ≤ F.hi * L.hi := Int.mul_le_mul f2 l2 h4 (by omega)
    omega
  ·split at hh <;> omega
 ·intro hh
  split at hh
  ·omega
  ·split at hh
   ·next hc =>
    obtain ⟨hc1, hc2⟩ := hc
    simp only [Bool.or_eq_false_iff, Bool.and_eq_false_iff, decide_eq_false_iff_not]
    refine ⟨by omega, ?_⟩
    rcases hc2 with hc2 | hc2
    ·left; omega
    ·rcases Int.lt_or_le 0 B with hb | hb
     ·left; omega
     ·right
      have a1 := sq_le_neg hb p1
      have a2 : F.lo * L.lo ≤ A * C := Int.mul_le_mul f1 l1 (by omega) (by omega)
      omega
   ·omega
structure THit where
 (p : V3)
 (t w : Int)
def TMod.pen (m : TMod) (s : V3) (h : THit) : Int :=
 if m.reached s h.p (h.t + m.ea) = false then h.w * m.mi else if m.reached s h.p (h.t - m.la - 1) = true then h.w * m.no else 0
def TMod.pens (m : TMod) (s : V3) (l : List THit) : List Int := l.map (m.pen s)
def TMod.score (m : TMod) (s : V3) (l : List THit) : Int := (m.pens s l).foldl (· + ·) 0
def ownR (early late miss noise : Int) : Rg :=
  ⟨if early = 0 ∧ late = 2 then min miss noise else if early = 0 then miss else if late = 2 then noise else 0,
   if late ≠ 0 then max (if early ≠ 2 then miss else 0) noise else if early ≠ 2 then miss else 0⟩
def TMod.hitR (m : TMod) (b : TBox) (h : THit) : Rg := ownR (m.ans b h.p (h.t + m.ea)) (m.ans b h.p (h.t - m.la - 1)) (h.w * m.mi) (h.w * m.no)
def TMod.scores (m : TMod) (b : TBox) (l : List THit) : Rg := l.foldl (fun r h => r.plus (m.hitR b h)) ⟨0, 0⟩
theorem pen_has {m : TMod} {b : TBox} {s : V3} {h : THit} (hb : b.has s) (hp : m.permit s) (hs : 0 ≤ m.slow) (hsl : m.slow < m.lo) (he : 0 ≤ m.ea ∧ 0 ≤ m.la) (hw : 0 ≤ h.w ∧ 0 ≤ m.mi ∧ 0 ≤ m.no) : (m.hitR b h).has (m.pen s h) := by
 have h1 := ans_sure (p := h.p) (t := h.t + m.ea) hb hp hsl
 have h2 := ans_sure (p := h.p) (t := h.t - m.la - 1) hb hp hsl
 have h3 : m.reached s h.p (h.t - m.la - 1) = true → m.reached s h.p (h.t + m.ea) = true := fun hr => reached_mono m s h.p hs (by have := hp.1; omega) (by omega) hr
 have h4 := Int.mul_nonneg hw.1 hw.2.1
 have h5 := Int.mul_nonneg hw.1 hw.2.2
 unfold TMod.hitR ownR TMod.pen Rg.has
 simp only
 generalize m.ans b h.p (h.t + m.ea) = E at *
 generalize m.ans b h.p (h.t - m.la - 1) = L at *
 generalize m.reached s h.p (h.t + m.ea) = re at *
 generalize m.reached s h.p (h.t - m.la - 1) = rl at *
 generalize h.w * m.mi = mi at *
 generalize h.w * m.no = no at *
 cases re <;> cases rl <;> simp at h1 h2 h3 ⊢ <;> constructor <;> (repeat' (first | omega | split))
theorem foldl_plus {α : Type} (f : α → Rg) (g : α → Int) : ∀ (l : List α) (r : Rg) (n : Int), r.has n → (∀ x ∈ l, (f x).has (g x)) → (l.foldl (fun r h => r.plus (f h)) r).has ((l.map g).foldl (· + ·) n) := by
 intro l
 induction l with
 | nil => intro r n h _; exact h
 | cons x l ih => intro r n h hx; exact ih _ _ (Rg.plus_has h (hx x (by simp))) (fun y hy => hx y (by simp [hy]))
theorem score_has {m : TMod} {b : TBox} {s : V3} {l : List THit} (hb : b.has s) (hp : m.permit s) (hs : 0 ≤ m.slow) (hsl : m.slow < m.lo) (he : 0 ≤ m.ea ∧ 0 ≤ m.la) (hw : 0 ≤ m.mi ∧ 0 ≤ m.no) (hl : ∀ h ∈ l, 0 ≤ h.w) : (m.scores b l).has (m.score s l) :=
 foldl_plus (m.hitR b) (m.pen s) l ⟨0, 0⟩ 0 zero_has (fun h hh => pen_has hb hp hs hsl he ⟨hl h hh, hw⟩)
def Rg.sub (r s : Rg) : Prop := s.lo ≤ r.lo ∧ r.hi ≤ s.hi
def Rg.ok (r : Rg) : Prop := r.lo ≤ r.hi
theorem Rg.plus_sub {r s r' s' : Rg} (h : r.sub r') (g : s.sub s') : (r.plus s).sub (r'.plus s') := by unfold Rg.sub Rg.plus at *; simp only; omega
theorem Rg.plus_ok {r s : Rg} (h : r.ok) (g : s.ok) : (r.plus s).ok := by unfold Rg.ok Rg.plus at *; simp only; omega
theorem Rg.ends {r r' : Rg} (h : r.sub r') (o : r.ok) : r'.has r.lo ∧ r'.has r.hi := by unfold Rg.sub Rg.ok Rg.has at *; omega
theorem Rg.times_sub {r s r' s' : Rg} (h : r.sub r') (g : s.sub s') (o : r.ok) (p : s.ok) : (r.times s).sub (r'.times s') := by
 obtain ⟨h1, h2⟩ := Rg.ends h o
 obtain ⟨g1, g2⟩ := Rg.ends g p
 have a := Rg.times_has h1 g1
 have b := Rg.times_has h1 g2
 have c := Rg.times_has h2 g1
 have d := Rg.times_has h2 g2
 generalize r'.times s' = T at *
 unfold Rg.times Rg.sub Rg.has mn4 mx4 at *
 simp only; omega
theorem Rg.times_ok (r s : Rg) : (r.times s).ok := by unfold Rg.times Rg.ok mn4 mx4; simp only; omega
theorem Rg.square_ok (r : Rg) : r.square.ok ∧ 0 ≤ r.square.lo := by
 have h1 := sq_nn r.lo
 have h2 := sq_nn r.hi
 unfold Rg.square Rg.ok
 split <;> simp only <;> omega
theorem Rg.square_sub {r r' : Rg} (h : r.sub r') (o : r.ok) : r.square.sub r'.square := by
 obtain ⟨h1, h2⟩ := Rg.ends h o
 have a := Rg.square_has h1
 have b := Rg.square_has h2
 by_cases h0 : r.lo ≤ 0 ∧ 0 ≤ r.hi
 ·have c : r'.square.has (0 * 0) := Rg.square_has (by unfold Rg.has at *; omega)
  generalize r'.square = T at *
  unfold Rg.square Rg.sub Rg.has at *
  rw [if_pos h0]; simp only; omega
 ·generalize r'.square = T at *
  unfold Rg.square Rg.sub Rg.has at *
  rw [if_neg h0]; simp only; omega
def TBox.sub (b c : TBox) : Prop := b.rx.sub c.rx ∧ b.ry.sub c.ry ∧ b.rz.sub c.rz
def TBox.ok (b : TBox) : Prop := b.rx.ok ∧ b.ry.ok ∧ b.rz.ok
theorem Rg.sub_rfl (r : Rg) : r.sub r := ⟨Int.le_refl _, Int.le_refl _⟩
theorem rest_sub {tk d a : Int} {r r' : Rg} (h : r.sub r') (o : r.ok) : (restR tk r d a).sub (restR tk r' d a) := Rg.plus_sub (Rg.times_sub h (Rg.sub_rfl _) o (Int.le_refl _)) (Rg.sub_rfl _)
theorem rest_ok (tk d a : Int) (r : Rg) : (restR tk r d a).ok := Rg.plus_ok (Rg.times_ok _ _) (Int.le_refl _)
theorem prod_sub {m : TMod} {b c : TBox} {p : V3} {t : Int} (h : b.sub c) (o : b.ok) : (m.prodR b p t).sub (m.prodR c p t) ∧ (m.prodR b p t).ok :=
  ⟨Rg.plus_sub (Rg.plus_sub (Rg.plus_sub (Rg.sub_rfl _) (Rg.times_sub (rest_sub h.1 o.1) h.1 (rest_ok ..) o.1)) (Rg.times_sub (rest_sub h.2.1 o.2.1) h.2.1 (rest_ok ..) o.2.1)) (Rg.times_sub (rest_sub h.2.2 o.2.2) h.2.2 (rest_ok ..) o.2.2),
   Rg.plus_ok (Rg.plus_ok (Rg.plus_ok (Int.le_refl _) (Rg.times_ok ..)) (Rg.times_ok ..)) (Rg.times_ok ..)⟩
theorem left_sub {m : TMod} {b c : TBox} {p : V3} {t : Int} (h : b.sub c) (o : b.ok) : (m.leftR b p t).sub (m.leftR c p t) ∧ (m.leftR b p t).ok ∧ 0 ≤ (m.leftR b p t).lo := by
  refine ⟨Rg.plus_sub (Rg.plus_sub (Rg.plus_sub (Rg.sub_rfl _) (Rg.square_sub (rest_sub h.1 o.1) (rest_ok ..))) (Rg.square_sub (rest_sub h.2.1 o.2.1) (rest_ok ..))) (Rg.square_sub (rest_sub h.2.2 o.2.2) (rest_ok ..)),
   Rg.plus_ok (Rg.plus_ok (Rg.plus_ok (Int.le_refl _) (Rg.square_ok _).1) (Rg.square_ok _).1) (Rg.square_ok _).1, ?_⟩
  have h1 := (Rg.square_ok (restR m.tk b.rx (p.x - m.px) (t - m.tm))).2
  have h2 := (Rg.square_ok (restR m.tk b.ry (p.y - m.py) (t - m.tm))).2
  have h3 := (Rg.square_ok (restR m.tk b.rz (p.z - m.pz) (t - m.tm))).2
  unfold TMod.leftR Rg.plus; simp only; omega
theorem squares_sub {b c : TBox} (h : b.sub c) (o : b.ok) : b.squares.sub c.squares ∧ b.squares.ok :=
  ⟨Rg.plus_sub (Rg.plus_sub (Rg.plus_sub (Rg.sub_rfl _) (Rg.square_sub h.1 o.1)) (Rg.square_sub h.2.1 o.2.1)) (Rg.square_sub h.2.2 o.2.2),
   Rg.plus_ok (Rg.plus_ok (Rg.plus_ok (Int.le_refl _) (Rg.square_ok _).1) (Rg.square_ok _).1) (Rg.square_ok _).1⟩
def TMod.canBe (m : TMod) (b : TBox) : Prop := m.lo ≤ b.squares.hi ∧ b.squares.lo ≤ m.hi
theorem canBe_of {m : TMod} {b : TBox} {s : V3} (h : b.has s) (hp : m.permit s) : m.canBe b := by
 have := squares_has h; unfold TMod.canBe TMod.permit Rg.has at *; omega
theorem fast_sub {m : TMod} {b c : TBox} (h : b.sub c) (o : b.ok) (hb : m.canBe b) (hm : m.lo ≤ m.hi) (hsl : m.slow < m.lo) : (m.fast b).sub (m.fast c) ∧ (m.fast b).ok ∧ 0 < (m.fast b).lo := by
 obtain ⟨h1, h2⟩ := squares_sub h o
 unfold TMod.fast TMod.canBe Rg.sub Rg.ok at *; simp only; omega
theorem ans_part {m : TMod} {b c : TBox} {p : V3} {t : Int} (h : b.sub c) (o : b.ok) (hb : m.canBe b) (hm : m.lo ≤ m.hi) (hsl : m.slow < m.lo) : (m.ans c p t = 2 → m.ans b p t = 2) ∧ (m.ans c p t = 0 → m.ans b p t = 0) := by
 obtain ⟨p1, p2⟩ := prod_sub (m := m) (p := p) (t := t) h o
 obtain ⟨l1, l2, l3⟩ := left_sub (m := m) (p := p) (t := t) h o
 obtain ⟨f1, f2, f3⟩ := fast_sub h o hb hm hsl
 have f4 : 0 < (m.fast c).lo := by unfold TMod.fast; simp only; omega
 unfold TMod.ans
 generalize m.prodR b p t = P at *
 generalize m.leftR b p t = L at *
 generalize m.fast b = F at *
 generalize m.prodR c p t = P' at *
 generalize m.leftR c p t = L' at *
 generalize m.fast c = F' at *
 unfold Rg.sub Rg.ok at *
 unfold ansR
 constructor
 ·intro hh
  split at hh
  ·next hc =>
   rw [if_pos]
   rcases hc with hc | ⟨hc1, hc2⟩
   ·left; omega
   ·right
    refine ⟨by omega, ?_⟩
    have a1 := sq_le_neg hc1 p1.2
    have a2 : F.hi * L.hi ≤ F'.hi * L'.hi := Int.mul_le_mul f1.2 l1.2 (by omega) (by omega)
    omega
  ·split at hh <;> omega
 ·intro hh
  split at hh
  ·omega
  ·split at hh
   ·next hc =>
    obtain ⟨hc1, hc2⟩ := hc
    have b2 : F'.lo * L'.lo ≤ F.lo * L.lo := Int.mul_le_mul f1.1 l1.1 (by omega) (by omega)
    have b3 : F.lo * L.lo ≤ F.hi * L.hi := Int.mul_le_mul f2 l2 (by omega) (by omega)
    rw [if_neg, if_pos]
    ·refine ⟨by omega, ?_⟩
     rcases Int.lt_or_le 0 P.lo with h0 | h0
     ·left; exact h0
     ·right
      rcases hc2 with hc2 | hc2
      ·omega
      ·have b1 := sq_le_neg h0 p1.1
       omega
    ·rintro (h0 | ⟨h0, h9⟩)
     ·omega
     ·rcases hc2 with hc2 | hc2
      ·omega
      ·have b1 := sq_le_neg h0 p2
       have b4 := sq_le_neg (show P.lo ≤ 0 by omega) p1.1
       omega
   ·omega
theorem hit_part {m : TMod} {b c : TBox} {x : THit} (h : b.sub c) (o : b.ok) (hb : m.canBe b) (hm : m.lo ≤ m.hi) (hs : 0 ≤ m.slow) (hsl : m.slow < m.lo) (he : 0 ≤ m.ea ∧ 0 ≤ m.la) (hw : 0 ≤ x.w ∧ 0 ≤ m.mi ∧ 0 ≤ m.no) :
  (m.hitR b x).hi ≤ (m.hitR c x).hi ∧ ((∃ s, b.has s ∧ m.permit s) → (m.hitR c x).lo ≤ (m.hitR b x).lo) := by
 have h1 := ans_part (p := x.p) (t := x.t + m.ea) h o hb hm hsl
 have h2 := ans_part (p := x.p) (t := x.t - m.la - 1) h o hb hm hsl
 have h3 : (∃ s, b.has s ∧ m.permit s) → ¬ (m.ans b x.p (x.t + m.ea) = 0 ∧ m.ans b x.p (x.t - m.la - 1) = 2) := by
  rintro ⟨s, hbs, hp⟩ ⟨e1, e2⟩
  have a1 := (ans_sure (p := x.p) (t := x.t + m.ea) hbs hp hsl).2 e1
  have a2 := (ans_sure (p := x.p) (t := x.t - m.la - 1) hbs hp hsl).1 e2
  have a3 := reached_mono m s x.p hs (by have := hp.1; omega) (show x.t - m.la - 1 ≤ x.t + m.ea by omega) a2
  rw [a1] at a3; cases a3
 have h4 := Int.mul_nonneg hw.1 hw.2.1
 have h5 := Int.mul_nonneg hw.1 hw.2.2
 generalize (∃ s, b.has s ∧ m.permit s) = S at *
 unfold TMod.hitR ownR
 simp only
 generalize m.ans b x.p (x.t + m.ea) = E at *
 generalize m.ans b x.p (x.t - m.la - 1) = L at *
 generalize m.ans c x.p (x.t + m.ea) = E' at *
 generalize m.ans c x.p (x.t - m.la - 1) = L' at *
 generalize x.w * m.mi = mi at *
 generalize x.w * m.no = no at *
 constructor
 ·repeat' (first | omega | split)
 ·intro hS
  have h6 := h3 hS
  repeat' (first | omega | split)
theorem scores_part {m : TMod} {b c : TBox} {l : List THit} (h : b.sub c) (o : b.ok) (hb : m.canBe b) (hm : m.lo ≤ m.hi) (hs : 0 ≤ m.slow) (hsl : m.slow < m.lo) (he : 0 ≤ m.ea ∧ 0 ≤ m.la) (hw : 0 ≤ m.mi ∧ 0 ≤ m.no) (hl : ∀ x ∈ l, 0 ≤ x.w) :
  (m.scores b l).hi ≤ (m.scores c l).hi ∧ ((∃ s, b.has s ∧ m.permit s) → (m.scores c l).lo ≤ (m.scores b l).lo) := by
 have key : ∀ (l : List THit) (r r' : Rg), (∀ x ∈ l, 0 ≤ x.w) → r.hi ≤ r'.hi → ((∃ s, b.has s ∧ m.permit s) → r'.lo ≤ r.lo) →
   (l.foldl (fun r h => r.plus (m.hitR b h)) r).hi ≤ (l.foldl (fun r h => r.plus (m.hitR c h)) r').hi ∧ ((∃ s, b.has s ∧ m.permit s) → (l.foldl (fun r h => r.plus (m.hitR c h)) r').lo ≤ (l.foldl (fun r h => r.plus (m.hitR b h)) r).lo) := by
  intro l
  induction l with
  | nil => intro r r' _ h1 h2; exact ⟨h1, h2⟩
  | cons x l ih =>
   intro r r' hl h1 h2
   obtain ⟨a1, a2⟩ := hit_part (x := x) h o hb hm hs hsl he ⟨hl x (by simp), hw⟩
   refine ih _ _ (fun y hy => hl y (by simp [hy])) ?_ (fun hS => ?_)
   ·unfold Rg.plus; simp only; omega
   ·have b1 := a2 hS
    have b2 := h2 hS
    unfold Rg.plus; simp only; omega
 exact key l ⟨0, 0⟩ ⟨0, 0⟩ hl (Int.le_refl _) (fun _ => Int.le_refl _)
def TBox.side (b : TBox) : Nat :=
 let s1 := if b.hi.x - b.lo.x < b.hi.y - b.lo.y then 1 else 0
 if (if s1 = 1 then b.hi.y - b.lo.y else b.hi.x - b.lo.x) < b.hi.z - b.lo.z then 2 else s1
def TBox.half1 (b : TBox) : TBox := match b.side with
 | 0 => ⟨b.lo, ⟨b.lo.x + (b.hi.x - b.lo.x) / 2, b.hi.y, b.hi.z⟩⟩
 | 1 => ⟨b.lo, ⟨b.hi.x, b.lo.y + (b.hi.y - b.lo.y) / 2, b.hi.z⟩⟩
 | _ => ⟨b.lo, ⟨b.hi.x, b.hi.y, b.lo.z + (b.hi.z - b.lo.z) / 2⟩⟩
def TBox.half2 (b : TBox) : TBox := match b.side with
 | 0 => ⟨⟨b.lo.x + (b.hi.x - b.lo.x) / 2 + 1, b.lo.y, b.lo.z⟩, b.hi⟩
 | 1 => ⟨⟨b.lo.x, b.lo.y + (b.hi.y - b.lo.y) / 2 + 1, b.lo.z⟩, b.hi⟩
 | _ => ⟨⟨b.lo.x, b.lo.y, b.lo.z + (b.hi.z - b.lo.z) / 2 + 1⟩, b.hi⟩
def TBox.count (b : TBox) : Int := (b.hi.x - b.lo.x + 1) * (b.hi.y - b.lo.y + 1) * (b.hi.z - b.lo.z + 1)
theorem side_cases (b : TBox) : (b.side = 0 ∧ b.hi.y - b.lo.y ≤ b.hi.x - b.lo.x ∧ b.hi.z - b.lo.z ≤ b.hi.x - b.lo.x) ∨ (b.side = 1 ∧ b.hi.x - b.lo.x < b.hi.y - b.lo.y ∧ b.hi.z - b.lo.z ≤ b.hi.y - b.lo.y) ∨ (b.side = 2 ∧ b.hi.x - b.lo.x < b.hi.z - b.lo.z ∧ b.hi.y - b.lo.y < b.hi.z - b.lo.z) := by
 unfold TBox.side
 by_cases h1 : b.hi.x - b.lo.x < b.hi.y - b.lo.y
 ·simp only [if_pos h1, if_true]
  by_cases h2 : b.hi.y - b.lo.y < b.hi.z - b.lo.z
  ·rw [if_pos h2]; omega
  ·rw [if_neg h2]; omega
 ·simp only [if_neg h1, if_neg (show ¬ (0 = 1) by decide)]
  by_cases h2 : b.hi.x - b.lo.x < b.hi.z - b.lo.z
  ·rw [if_pos h2]; omega
  ·rw [if_neg h2]; omega
theorem halves_sub {b : TBox} (o : b.ok) (hne : b.lo.x < b.hi.x ∨ b.lo.y < b.hi.y ∨ b.lo.z < b.hi.z) : b.half1.sub b ∧ b.half1.ok ∧ b.half2.sub b ∧ b.half2.ok := by
 unfold TBox.ok TBox.rx TBox.ry TBox.rz Rg.ok at o
 simp only at o
 unfold TBox.half1 TBox.half2
 rcases side_cases b with ⟨h, h1, h2⟩ | ⟨h, h1, h2⟩ | ⟨h, h1, h2⟩
 all_goals
  rw [h]
  simp only [TBox.sub, TBox.ok, TBox.rx, TBox.ry, TBox.rz, Rg.sub, Rg.ok]
  omega
theorem halves_has {b : TBox} (s : V3) : b.has s → b.half1.has s ∨ b.half2.has s := by
 unfold TBox.has TBox.half1 TBox.half2
 rcases side_cases b with ⟨h, _, _⟩ | ⟨h, _, _⟩ | ⟨h, _, _⟩
 all_goals
  rw [h]
  simp only [TBox.rx, TBox.ry, TBox.rz, Rg.has]
  omega
theorem sub_has {b c : TBox} {s : V3} (h : b.sub c) (hs : b.has s) : c.has s := by
 unfold TBox.has TBox.sub TBox.rx TBox.ry TBox.rz Rg.has Rg.sub at *; simp only at *; omega
theorem halves_count (b : TBox) : b.half1.count + b.half2.count = b.count := by
 unfold TBox.count TBox.half1 TBox.half2
 rcases side_cases b with ⟨h, _, _⟩ | ⟨h, _, _⟩ | ⟨h, _, _⟩
 all_goals
  rw [h]
  simp only
 ·generalize (b.hi.x - b.lo.x) / 2 = q; grind
 ·generalize (b.hi.y - b.lo.y) / 2 = q; grind
 ·generalize (b.hi.z - b.lo.z) / 2 = q; grind
theorem count_pos {b : TBox} (o : b.ok) : 0 < b.count := by
 unfold TBox.ok TBox.rx TBox.ry TBox.rz Rg.ok at o; simp only at o
 unfold TBox.count
 exact Int.mul_pos (Int.mul_pos (by omega) (by omega)) (by omega)
theorem count_one {b : TBox} (o : b.ok) : b.count = 1 ↔ b.lo = b.hi := by
 have o' := o
 unfold TBox.ok TBox.rx TBox.ry TBox.rz Rg.ok at o; simp only at o
 constructor
 ·intro h
  obtain ⟨⟨lx, ly, lz⟩, ⟨hx, hy, hz⟩⟩ := b
  simp only [TBox.count] at *
  have a1 : 1 ≤ hx - lx + 1 := by omega
  have a2 : 1 ≤ hy - ly + 1 := by omega
  have a3 : 1 ≤ hz - lz + 1 := by omega
  generalize eX : hx - lx + 1 = X at *
  generalize eY : hy - ly + 1 = Y at *
  generalize eZ : hz - lz + 1 = Z at *
  have b1 := Int.mul_le_mul a1 a2 (by omega) (by omega : 0 ≤ X)
  have b2 : X * Y ≤ X * Y * Z := by have := Int.mul_le_mul_of_nonneg_left a3 (show 0 ≤ X * Y by omega); omega
  have c1 : X * Y = 1 := by omega
  have c2 : X ≤ X * Y := by have := Int.mul_le_mul_of_nonneg_left a2 (show 0 ≤ X by omega); omega
  have c3 : Y ≤ X * Y := by have := Int.mul_le_mul_of_nonneg_right a1 (show 0 ≤ Y by omega); omega
  have c4 : Z = 1 := by rw [c1] at h; omega
  simp only [V3.mk.injEq]; omega
 ·intro h
  unfold TBox.count; rw [h]; simp
theorem one_times (a b : Int) : (⟨a, a⟩ : Rg).times ⟨b, b⟩ = ⟨a * b, a * b⟩ := by unfold Rg.times mn4 mx4; simp
theorem one_square (a : Int) : (⟨a, a⟩ : Rg).square = ⟨a * a, a * a⟩ := by
  unfold Rg.square
  split
  · next h => have : a = 0 := by simp only at h; omega
              subst this; simp
  · simp
theorem one_rest (tk a d x : Int) : restR tk ⟨x, x⟩ d a = ⟨tk * d - a * x, tk * d - a * x⟩ := by
 unfold restR
 rw [one_times]
 unfold Rg.plus
 simp only [Rg.mk.injEq]
 constructor <;> grind
theorem ans_one {m : TMod} {s p : V3} {t : Int} (hp : m.permit s) (hsl : m.slow < m.lo) : m.ans ⟨s, s⟩ p t = if m.reached s p t = true then 2 else 0 := by
 have h1 : m.prodR ⟨s, s⟩ p t = ⟨(m.way s p t).dot s, (m.way s p t).dot s⟩ := by
  unfold TMod.prodR TBox.rx TBox.ry TBox.rz
  simp only [one_rest, one_times, Rg.plus, TMod.way, V3.dot, Int.zero_add]
 have h2 : m.leftR ⟨s, s⟩ p t = ⟨(m.way s p t).dot (m.way s p t), (m.way s p t).dot (m.way s p t)⟩ := by
  unfold TMod.leftR TBox.rx TBox.ry TBox.rz
  simp only [one_rest, one_square, Rg.plus, TMod.way, V3.dot, Int.zero_add]
 have h3 : m.fast ⟨s, s⟩ = ⟨s.dot s - m.slow, s.dot s - m.slow⟩ := by
  have h4 : (⟨s, s⟩ : TBox).squares = ⟨s.dot s, s.dot s⟩ := by
   unfold TBox.squares TBox.rx TBox.ry TBox.rz
   simp only [one_square, Rg.plus, V3.dot, Int.zero_add]
  unfold TMod.fast
  rw [h4]
  have := hp
  unfold TMod.permit at this
  simp only [Rg.mk.injEq]
  omega
 have h5 := V3.dot_self (m.way s p t)
 unfold TMod.ans
 rw [h1, h2, h3]
 unfold ansR TMod.reached reachB
 simp only
 generalize (m.way s p t).dot s = B at *
 generalize (m.way s p t).dot (m.way s p t) = C at *
 have h6 : 0 < s.dot s - m.slow := by have := hp.1; omega
 generalize s.dot s - m.slow = A at *
 by_cases hc : C = 0
 ·simp [hc]
 ·by_cases hb : B ≤ 0
  ·by_cases hq : A * C ≤ B * B
   ·simp [hc, hb, hq]
   ·rw [if_neg (by omega), if_pos (by omega)]; simp [hc, hq]
  ·rw [if_neg (by omega), if_pos (by omega)]; simp [hc, hb]
theorem own_one (re rl : Bool) (mi no : Int) (h : rl = true → re = true) (hn : 0 ≤ no) : ownR (if re = true then 2 else 0) (if rl = true then 2 else 0) mi no = (let v := if re = false then mi else if rl = true then no else 0; ⟨v, v⟩) := by
 cases re <;> cases rl <;> simp [ownR] at h ⊢ <;> omega
theorem scores_one {m : TMod} {s : V3} {l : List THit} (hp : m.permit s) (hs : 0 ≤ m.slow) (hsl : m.slow < m.lo) (he : 0 ≤ m.ea ∧ 0 ≤ m.la) (hw : 0 ≤ m.mi ∧ 0 ≤ m.no) (hl : ∀ h ∈ l, 0 ≤ h.w) : m.scores ⟨s, s⟩ l = ⟨m.score s l, m.score s l⟩ := by
 have key : ∀ (l : List THit) (n : Int), (∀ h ∈ l, 0 ≤ h.w) → l.foldl (fun (r : Rg) h => r.plus (m.hitR ⟨s, s⟩ h)) (⟨n, n⟩ : Rg) = (⟨(l.map (m.pen s)).foldl (· + ·) n, (l.map (m.pen s)).foldl (· + ·) n⟩ : Rg) := by
  intro l
  induction l with
  | nil => intro n _; rfl
  | cons x l ih =>
   intro n hl
   have hx := hl x (by simp)
   have e : m.hitR ⟨s, s⟩ x = ⟨m.pen s x, m.pen s x⟩ := by
    unfold TMod.hitR
    rw [ans_one hp hsl, ans_one hp hsl, own_one _ _ _ _ (fun hr => reached_mono m s x.p hs (by have := hp.1; omega) (by omega) hr) (Int.mul_nonneg hx hw.2)]
    rfl
   simp only [List.foldl_cons, List.map_cons]
   rw [e]
   exact ih (n + m.pen s x) (fun h hh => hl h (by simp [hh]))
 exact key l 0 hl
theorem canBe_one {m : TMod} {s : V3} (h : m.canBe ⟨s, s⟩) : m.permit s := by
 have h4 : (⟨s, s⟩ : TBox).squares = ⟨s.dot s, s.dot s⟩ := by
  unfold TBox.squares TBox.rx TBox.ry TBox.rz
  simp only [one_square, Rg.plus, V3.dot, Int.zero_add]
 unfold TMod.canBe at h; rw [h4] at h; exact h
def upto (lo hi : Int) : List Int := (List.range (hi - lo + 1).toNat).map (fun k : Nat => lo + (k : Int))
def TBox.all (b : TBox) : List V3 := (upto b.lo.x b.hi.x).flatMap fun x => (upto b.lo.y b.hi.y).flatMap fun y => (upto b.lo.z b.hi.z).map fun z => ⟨x, y, z⟩
def TMod.permB (m : TMod) (s : V3) : Bool := decide (m.lo ≤ s.dot s) && decide (s.dot s ≤ m.hi)
theorem permB_iff {m : TMod} {s : V3} : m.permB s = true ↔ m.permit s := by simp [TMod.permB, TMod.permit]
def TMod.steps (m : TMod) (b : TBox) : List V3 := b.all.filter m.permB
theorem mem_upto {lo hi n : Int} : n ∈ upto lo hi ↔ lo ≤ n ∧ n ≤ hi := by
 unfold upto
 rw [List.mem_map]
 constructor
 ·rintro ⟨k, hk, rfl⟩; have := List.mem_range.1 hk; omega
 ·rintro ⟨h1, h2⟩; exact ⟨(n - lo).toNat, List.mem_range.2 (by omega), by omega⟩
theorem mem_all {b : TBox} {s : V3} : s ∈ b.all ↔ b.has s := by
 unfold TBox.all TBox.has TBox.rx TBox.ry TBox.rz Rg.has
 simp only [List.mem_flatMap, List.mem_map, mem_upto]
 constructor
 ·rintro ⟨x, hx, y, hy, z, hz, rfl⟩; exact ⟨hx, hy, hz⟩
 ·rintro ⟨hx, hy, hz⟩; exact ⟨_, hx, _, hy, _, hz, rfl⟩
theorem mem_steps {m : TMod} {b : TBox} {s : V3} : s ∈ m.steps b ↔ b.has s ∧ m.permit s := by
 unfold TMod.steps; rw [List.mem_filter, mem_all, permB_iff]
def lexB (a b : V3) : Prop := a.x < b.x ∨ (a.x = b.x ∧ (a.y < b.y ∨ (a.y = b.y ∧ a.z < b.z)))
theorem upto_sorted (lo hi : Int) : (upto lo hi).Pairwise (· < ·) := by
 unfold upto
 rw [List.pairwise_map]
 exact List.pairwise_lt_range.imp (fun h => by omega)
theorem all_sorted (b : TBox) : b.all.Pairwise lexB := by
 unfold TBox.all
 rw [List.pairwise_flatMap]
 constructor
 ·intro x hx
  rw [List.pairwise_flatMap]
  constructor
  ·intro y hy
   rw [List.pairwise_map]
   exact (upto_sorted _ _).imp (fun h => Or.inr ⟨rfl, Or.inr ⟨rfl, h⟩⟩)
  ·exact (upto_sorted _ _).imp (fun h a ha c hc => by
    simp only [List.mem_map] at ha hc
    obtain ⟨_, _, rfl⟩ := ha
    obtain ⟨_, _, rfl⟩ := hc
    exact Or.inr ⟨rfl, Or.inl h⟩)
 ·exact (upto_sorted _ _).imp (fun h a ha c hc => by
   simp only [List.mem_flatMap, List.mem_map] at ha hc
   obtain ⟨_, _, _, _, rfl⟩ := ha
   obtain ⟨_, _, _, _, rfl⟩ := hc
   exact Or.inl h)
theorem steps_sorted (m : TMod) (b : TBox) : (m.steps b).Pairwise lexB := (all_sorted b).filter _
theorem len_upto (lo hi : Int) : (upto lo hi).length = (hi - lo + 1).toNat := by unfold upto; simp
theorem len_flat {α β : Type} (f : α → List β) (n : Nat) : ∀ (l : List α), (∀ x ∈ l, (f x).length = n) → (l.flatMap f).length = l.length * n := by
 intro l
 induction l with
 | nil => intro _; simp
 | cons x l ih => intro h; rw [List.flatMap_cons, List.length_append, ih (fun y hy => h y (by simp [hy])), h x (by simp), List.length_cons, Nat.succ_mul, Nat.add_comm]
theorem len_all {b : TBox} (o : b.ok) : (b.all.length : Int) = b.count := by
 unfold TBox.ok TBox.rx TBox.ry TBox.rz Rg.ok at o; simp only at o
 unfold TBox.all TBox.count
 rw [len_flat _ ((upto b.lo.y b.hi.y).length * (upto b.lo.z b.hi.z).length) _ (fun x _ => len_flat _ (upto b.lo.z b.hi.z).length _ (fun y _ => by rw [List.length_map])), len_upto, len_upto, len_upto]
 push_cast
 rw [Int.toNat_of_nonneg (by omega), Int.toNat_of_nonneg (by omega), Int.toNat_of_nonneg (by omega), Int.mul_assoc]
def TMod.better (m : TMod) (l : List THit) (a b : V3) : Prop := m.score a l < m.score b l ∨ (m.score a l = m.score b l ∧ lexB a b)
def TMod.isBest (m : TMod) (l : List THit) (S : V3 → Prop) (s : V3) : Prop := S s ∧ ∀ u, S u → u = s ∨ m.better l s u
def TMod.knows (m : TMod) (l : List THit) (S : V3 → Prop) : Option V3 → Prop
 | none => ∀ s, ¬ S s
 | some s => m.isBest l S s
theorem lexB_irr (a : V3) : ¬ lexB a a := by unfold lexB; omega
theorem lexB_trans {a b c : V3} (h : lexB a b) (g : lexB b c) : lexB a c := by unfold lexB at *; omega
theorem lexB_total (a b : V3) : a = b ∨ lexB a b ∨ lexB b a := by
 obtain ⟨a1, a2, a3⟩ := a
 obtain ⟨b1, b2, b3⟩ := b
 unfold lexB; simp only [V3.mk.injEq]; omega
theorem better_trans {m : TMod} {l : List THit} {a b c : V3} (h : m.better l a b) (g : m.better l b c) : m.better l a c := by
 unfold TMod.better at *
 rcases h with h | ⟨h, h'⟩ <;> rcases g with g | ⟨g, g'⟩
 ·left; omega
 ·left; omega
 ·left; omega
 ·right; exact ⟨by omega, lexB_trans h' g'⟩
theorem better_irr {m : TMod} {l : List THit} {a b : V3} (h : m.better l a b) (g : m.better l b a) : False := by
 have := better_trans h g
 unfold TMod.better at this
 rcases this with h | ⟨_, h⟩
 ·omega
 ·exact lexB_irr _ h
theorem better_total {m : TMod} {l : List THit} (a b : V3) : a = b ∨ m.better l a b ∨ m.better l b a := by
 unfold TMod.better
 rcases Int.lt_trichotomy (m.score a l) (m.score b l) with h | h | h
 ·exact Or.inr (Or.inl (Or.inl h))
 ·rcases lexB_total a b with g | g | g
  ·exact Or.inl g
  ·exact Or.inr (Or.inl (Or.inr ⟨h, g⟩))
  ·exact Or.inr (Or.inr (Or.inr ⟨h.symm, g⟩))
 ·exact Or.inr (Or.inr (Or.inl h))
theorem best_unique {m : TMod} {l : List THit} {S : V3 → Prop} {a b : V3} (h : m.isBest l S a) (g : m.isBest l S b) : a = b := by
 rcases h.2 b g.1 with h1 | h1
 ·exact h1.symm
 ·rcases g.2 a h.1 with h2 | h2
  ·exact h2
  ·exact (better_irr h1 h2).elim
theorem knows_add {m : TMod} {l : List THit} {S : V3 → Prop} {s u : V3} (h : m.isBest l S s) : (m.better l u s → m.isBest l (fun x => S x ∨ x = u) u) ∧ (¬ m.better l u s → m.isBest l (fun x => S x ∨ x = u) s) := by
 constructor
 ·intro hb
  refine ⟨Or.inr rfl, fun x hx => ?_⟩
  rcases hx with hx | rfl
  ·rcases h.2 x hx with rfl | h2
   ·exact Or.inr hb
   ·exact Or.inr (better_trans hb h2)
  ·exact Or.inl rfl
 ·intro hb
  refine ⟨Or.inl h.1, fun x hx => ?_⟩
  rcases hx with hx | rfl
  ·exact h.2 x hx
  ·rcases better_total (m := m) (l := l) x s with h1 | h1 | h1
   ·exact Or.inl h1
   ·exact (hb h1).elim
   ·exact Or.inr h1
theorem knows_first {m : TMod} {l : List THit} {S : V3 → Prop} (u : V3) (h : ∀ s, ¬ S s) : m.isBest l (fun x => S x ∨ x = u) u :=
 ⟨Or.inr rfl, fun x hx => hx.elim (fun h1 => (h x h1).elim) Or.inl⟩
theorem knows_worse {m : TMod} {l : List THit} {S T : V3 → Prop} {s : V3} (h : m.isBest l S s) (hT : ∀ u, T u → m.score s l < m.score u l) : m.isBest l (fun x => S x ∨ T x) s :=
 ⟨Or.inl h.1, fun x hx => hx.elim (h.2 x) (fun h1 => Or.inr (Or.inl (hT x h1)))⟩
def TMod.bestF (m : TMod) (l : List THit) : List V3 → Option V3
 | [] => none
 | s :: r => some (r.foldl (fun a u => if m.score u l < m.score a l then u else a) s)
theorem scan_best (m : TMod) (l : List THit) : ∀ (r : List V3) (S : V3 → Prop) (a : V3), m.isBest l S a → (∀ u ∈ r, ∀ x, S x → lexB x u) → r.Pairwise lexB → m.isBest l (fun x => S x ∨ x ∈ r) (r.foldl (fun a u => if m.score u l < m.score a l then u else a) a) := by
 intro r
 induction r with
 | nil => intro S a h _ _; exact ⟨Or.inl h.1, fun u hu => hu.elim (h.2 u) (fun h1 => by cases h1)⟩
 | cons u r ih =>
  intro S a h hl hp
  obtain ⟨hp1, hp2⟩ := List.pairwise_cons.1 hp
  have hau : lexB a u := hl u (by simp) a h.1
  have hk := knows_add (u := u) h
  have hnew : m.isBest l (fun x => S x ∨ x = u) (if m.score u l < m.score a l then u else a) := by
   by_cases hs : m.score u l < m.score a l
   ·rw [if_pos hs]; exact hk.1 (Or.inl hs)
   ·rw [if_neg hs]
    refine hk.2 (fun hb => ?_)
    rcases hb with hb | ⟨_, hb⟩
    ·exact hs hb
    ·exact lexB_irr _ (lexB_trans hau hb)
  have := ih (fun x => S x ∨ x = u) _ hnew (fun v hv x hx => hx.elim (hl v (by simp [hv]) x) (fun e => by rw [e]; exact hp1 v hv)) hp2
  rw [List.foldl_cons]
  have e : (fun x => S x ∨ x ∈ u :: r) = (fun x => (S x ∨ x = u) ∨ x ∈ r) := funext fun x => propext (by simp only [List.mem_cons]; exact or_assoc.symm)
  rw [e]; exact this
theorem bestF_knows (m : TMod) (l : List THit) (L : List V3) (hp : L.Pairwise lexB) : m.knows l (· ∈ L) (m.bestF l L) := by
 cases L with
 | nil => intro s hs; cases hs
 | cons s r =>
  obtain ⟨h1, h2⟩ := List.pairwise_cons.1 hp
  have := scan_best m l r (fun x => x = s) s ⟨rfl, fun u hu => Or.inl hu⟩ (fun u hu x hx => by rw [hx]; exact h1 u hu) h2
  have e : (fun x => x ∈ s :: r) = (fun x => x = s ∨ x ∈ r) := funext fun x => propext List.mem_cons
  show m.isBest l (fun x => x ∈ s :: r) _
  rw [e]; exact this
def TBox.apart (a b : TBox) : Prop := a.hi.x < b.lo.x ∨ b.hi.x < a.lo.x ∨ a.hi.y < b.lo.y ∨ b.hi.y < a.lo.y ∨ a.hi.z < b.lo.z ∨ b.hi.z < a.lo.z
theorem apart_symm {a b : TBox} (h : a.apart b) : b.apart a := by unfold TBox.apart at *; omega
theorem apart_sub {a b c d : TBox} (h : c.apart d) (ha : a.sub c) (hb : b.sub d) : a.apart b := by
 unfold TBox.apart TBox.sub TBox.rx TBox.ry TBox.rz Rg.sub at *; simp only at *; omega
theorem halves_ap (b : TBox) : b.half1.apart b.half2 := by
 unfold TBox.apart TBox.half1 TBox.half2
 rcases side_cases b with ⟨h, _, _⟩ | ⟨h, _, _⟩ | ⟨h, _, _⟩
 all_goals
  rw [h]
  simp only
  omega
theorem sub_trans {a b c : TBox} (h : a.sub b) (g : b.sub c) : a.sub c := by
 unfold TBox.sub TBox.rx TBox.ry TBox.rz Rg.sub at *; simp only at *; omega
theorem sub_refl (b : TBox) : b.sub b := ⟨Rg.sub_rfl _, Rg.sub_rfl _, Rg.sub_rfl _⟩
theorem count_mono {b c : TBox} (h : b.sub c) (o : b.ok) : b.count ≤ c.count := by
 unfold TBox.sub TBox.ok TBox.rx TBox.ry TBox.rz Rg.sub Rg.ok at *; simp only at *
 unfold TBox.count
 have h1 := Int.mul_le_mul (show b.hi.x - b.lo.x + 1 ≤ c.hi.x - c.lo.x + 1 by omega) (show b.hi.y - b.lo.y + 1 ≤ c.hi.y - c.lo.y + 1 by omega) (by omega) (by omega)
 exact Int.mul_le_mul h1 (by omega) (by omega) (Int.mul_nonneg (by omega) (by omega))
def TMod.proved (m : TMod) (l : List THit) (K : Int) (b : TBox) : Prop := ¬ m.canBe b ∨ K ≤ (m.scores b l).lo
def sumC (L : List TBox) : Int := (L.map TBox.count).foldl (· + ·) 0
theorem foldl_add : ∀ (l : List Int) (n : Int), l.foldl (· + ·) n = n + l.foldl (· + ·) 0 := by
 intro l
 induction l with
 | nil => intro n; simp
 | cons x l ih => intro n; rw [List.foldl_cons, List.foldl_cons, ih (n + x), ih (0 + x)]; omega
theorem sumC_cons (b : TBox) (L : List TBox) : sumC (b :: L) = b.count + sumC L := by unfold sumC; rw [List.map_cons, List.foldl_cons, foldl_add]; omega
theorem sumC_app (L M : List TBox) : sumC (L ++ M) = sumC L + sumC M := by unfold sumC; rw [List.map_append, List.foldl_append, foldl_add]
structure TMod.covers (m : TMod) (l : List THit) (K : Int) (b : TBox) (L : List TBox) : Prop where
 each : ∀ c ∈ L, c.ok ∧ c.sub b ∧ m.proved l K c
 apart : L.Pairwise TBox.apart
 count : sumC L = b.count
theorem covers_one {m : TMod} {l : List THit} {K : Int} {b : TBox} (o : b.ok) (h : m.proved l K b) : m.covers l K b [b] :=
 ⟨fun c hc => by rw [List.mem_singleton.1 hc]; exact ⟨o, sub_refl b, h⟩, List.pairwise_singleton _ _, by rw [sumC_cons]; simp [sumC]⟩
theorem covers_two {m : TMod} {l : List THit} {K : Int} {b : TBox} {L M : List TBox} (o : b.ok) (hne : b.lo.x < b.hi.x ∨ b.lo.y < b.hi.y ∨ b.lo.z < b.hi.z) (h : m.covers l K b.half1 L) (g : m.covers l K b.half2 M) : m.covers l K b (L ++ M) := by
 obtain ⟨s1, o1, s2, o2⟩ := halves_sub o hne
 refine ⟨fun c hc => ?_, ?_, by rw [sumC_app, h.count, g.count, halves_count]⟩
 ·rcases List.mem_append.1 hc with hc | hc
  ·obtain ⟨a1, a2, a3⟩ := h.each c hc; exact ⟨a1, sub_trans a2 s1, a3⟩
  ·obtain ⟨a1, a2, a3⟩ := g.each c hc; exact ⟨a1, sub_trans a2 s2, a3⟩
 ·rw [List.pairwise_append]
  exact ⟨h.apart, g.apart, fun c hc d hd => apart_sub (halves_ap b) (h.each c hc).2.1 (g.each d hd).2.1⟩
theorem covers_len {m : TMod} {l : List THit} {K : Int} {b : TBox} {L : List TBox} (h : m.covers l K b L) : (L.length : Int) ≤ b.count := by
 rw [← h.count]
 have : ∀ M : List TBox, (∀ c ∈ M, c.ok) → (M.length : Int) ≤ sumC M := by
  intro M
  induction M with
  | nil => intro _; simp [sumC]
  | cons c M ih => intro hM; rw [sumC_cons, List.length_cons]; have := ih (fun d hd => hM d (by simp [hd])); have := count_pos (hM c (by simp)); push_cast; omega
 exact this L (fun c hc => (h.each c hc).1)
theorem proved_ge {m : TMod} {l : List THit} {K : Int} {b : TBox} {s : V3} (h : m.proved l K b) (hb : b.has s) (hp : m.permit s) (hs : 0 ≤ m.slow) (hsl : m.slow < m.lo) (he : 0 ≤ m.ea ∧ 0 ≤ m.la) (hw : 0 ≤ m.mi ∧ 0 ≤ m.no) (hl : ∀ h ∈ l, 0 ≤ h.w) : K ≤ m.score s l := by
 rcases h with h | h
 ·exact (h (canBe_of hb hp)).elim
 ·have := (score_has (l := l) hb hp hs hsl he hw hl).1; omega
theorem not_proved_one {m : TMod} {l : List THit} {K : Int} {s : V3} (h : ¬ m.proved l K ⟨s, s⟩) (hs : 0 ≤ m.slow) (hsl : m.slow < m.lo) (he : 0 ≤ m.ea ∧ 0 ≤ m.la) (hw : 0 ≤ m.mi ∧ 0 ≤ m.no) (hl : ∀ h ∈ l, 0 ≤ h.w) : m.permit s ∧ m.score s l < K := by
 unfold TMod.proved at h
 have h1 : m.canBe ⟨s, s⟩ := Classical.byContradiction fun hn => h (Or.inl hn)
 have hp := canBe_one h1
 refine ⟨hp, ?_⟩
 have h2 : ¬ K ≤ (m.scores ⟨s, s⟩ l).lo := fun hk => h (Or.inr hk)
 rw [scores_one hp hs hsl he hw hl] at h2
 simp only at h2; omega
end Go.Proofs.Ytfadkjcfjkmalaa
set_option linter.unusedVariables false
set_option linter.unusedSimpArgs false
namespace Go.Proofs.Ytfadkjcfjkmalaa
def V3.inS (p : V3) (k : Int) : Bool := inB p.x (-k) k && inB p.y (-k) k && inB p.z (-k) k
def plE (p : V3) : Int := unl (p.inS 1000) 2
def tmE (n : Int) : Int := unl (inB n (-10000) 10000) 2
def TMod.right (m : TMod) : Bool := inB m.tk 1 20 && inB m.lo 1 1200 && inB m.hi 1 1200 && inB m.li 1 100 && inB m.ea 0 100 && inB m.la 0 100 && inB m.no 0 100 && inB m.mi 0 100
def TMod.err (m : TMod) : Int := firstNZ [plE m.pl, tmE m.tm, unl m.right 2, unl (decide (m.lo ≤ m.hi)) 9, unl (decide (m.slow < m.lo)) 13]
def TMod.stE (m : TMod) (s : V3) : Int := firstNZ [unl (s.inS 20) 2, unl (m.permB s) 24]
def TMod.both (m : TMod) (s : V3) : Int := firstNZ [m.err, m.stE s]
def momE (p : V3) (t : Int) : Int := firstNZ [plE p, unl (inB t (-1000000) 1000000) 2]
def TBox.err (b : TBox) : Int := firstNZ [unl (b.lo.inS 20 && b.hi.inS 20) 2, unl (decide (b.lo.x ≤ b.hi.x) && decide (b.lo.y ≤ b.hi.y) && decide (b.lo.z ≤ b.hi.z)) 9, unl (decide (b.count ≤ 700)) 8]
def THit.err (h : THit) : Int := firstNZ [plE h.p, tmE h.t, unl (inB h.w 0 100) 2]
theorem firstNZ_cons {x : Int} {l : List Int} : firstNZ (x :: l) = 0 ↔ x = 0 ∧ firstNZ l = 0 := by
 simp only [firstNZ]; split
 ·next h => simp [h]
 ·next h => simp [h]
theorem unl_zero {b : Bool} {n : Int} (hn : n ≠ 0) : unl b n = 0 ↔ b = true := by unfold unl; split <;> simp_all
theorem inS_iff {p : V3} {k : Int} : p.inS k = true ↔ (-k ≤ p.x ∧ p.x ≤ k) ∧ (-k ≤ p.y ∧ p.y ≤ k) ∧ (-k ≤ p.z ∧ p.z ≤ k) := by
 unfold V3.inS; simp only [Bool.and_eq_true, inB_true, and_assoc]
structure TMod.Ok (m : TMod) : Prop where
 px : -1000 ≤ m.px ∧ m.px ≤ 1000
 py : -1000 ≤ m.py ∧ m.py ≤ 1000
 pz : -1000 ≤ m.pz ∧ m.pz ≤ 1000
 tm : -10000 ≤ m.tm ∧ m.tm ≤ 10000
 tk : 1 ≤ m.tk ∧ m.tk ≤ 20
 lo : 1 ≤ m.lo ∧ m.lo ≤ 1200
 hi : 1 ≤ m.hi ∧ m.hi ≤ 1200
 li : 1 ≤ m.li ∧ m.li ≤ 100
 ea : 0 ≤ m.ea ∧ m.ea ≤ 100
 la : 0 ≤ m.la ∧ m.la ≤ 100
 no : 0 ≤ m.no ∧ m.no ≤ 100
 mi : 0 ≤ m.mi ∧ m.mi ≤ 100
 ord : m.lo ≤ m.hi
 slo : m.slow < m.lo
 slp : 0 ≤ m.slow
theorem err_ok {m : TMod} (h : m.err = 0) : m.Ok := by
 unfold TMod.err at h
 rw [firstNZ_cons, firstNZ_cons, firstNZ_cons, firstNZ_cons, firstNZ_cons] at h
 obtain ⟨h1, h2, h3, h4, h5, _⟩ := h
 unfold plE at h1; unfold tmE at h2
 rw [unl_zero (by decide)] at h1 h2 h3 h4 h5
 rw [inS_iff] at h1
 unfold TMod.right at h3
 simp only [Bool.and_eq_true, inB_true, decide_eq_true_eq] at h2 h3 h4 h5
 obtain ⟨a1, a2, a3⟩ := h1
 obtain ⟨⟨⟨⟨⟨⟨⟨b1, b2⟩, b3⟩, b4⟩, b5⟩, b6⟩, b7⟩, b8⟩ := h3
 refine ⟨a1, a2, a3, h2, b1, b2, b3, b4, b5, b6, b7, b8, h4, h5, ?_⟩
 unfold TMod.slow
 exact Int.mul_nonneg (Int.mul_nonneg (by omega) (by omega)) (by omega)
theorem both_ok {m : TMod} {s : V3} (h : m.both s = 0) : m.Ok ∧ s.inS 20 = true ∧ m.permit s ∧ m.slow < s.dot s := by
 unfold TMod.both at h
 rw [firstNZ_cons, firstNZ_cons] at h
 obtain ⟨h1, h2, _⟩ := h
 unfold TMod.stE at h2
 rw [firstNZ_cons, firstNZ_cons] at h2
 obtain ⟨h3, h4, _⟩ := h2
 rw [unl_zero (by decide)] at h3 h4
 have ho := err_ok h1
 have hp := permB_iff.1 h4
 exact ⟨ho, h3, hp, by have := ho.slo; have := hp.1; omega⟩
theorem boxErr_ok {b : TBox} (h : b.err = 0) : b.lo.inS 20 = true ∧ b.hi.inS 20 = true ∧ b.ok ∧ b.count ≤ 700 := by
 unfold TBox.err at h
 rw [firstNZ_cons, firstNZ_cons, firstNZ_cons] at h
 obtain ⟨h1, h2, h3, _⟩ := h
 rw [unl_zero (by decide)] at h1 h2 h3
 simp only [Bool.and_eq_true, decide_eq_true_eq] at h1 h2 h3
 exact ⟨h1.1, h1.2, ⟨h2.1.1, h2.1.2, h2.2⟩, h3⟩
theorem dot_sz {a b : V3} {A B : Int} (ha : a.inS A = true) (hb : b.inS B = true) (hA : 0 ≤ A) (hB : 0 ≤ B) : (-(A * B) ≤ a.x * b.x ∧ a.x * b.x ≤ A * B) ∧ (-(A * B) ≤ a.y * b.y ∧ a.y * b.y ≤ A * B) ∧ (-(A * B) ≤ a.z * b.z ∧ a.z * b.z ≤ A * B) := by
 rw [inS_iff] at ha hb
 exact ⟨mul_rg ha.1 hb.1 (Int.le_refl _), mul_rg ha.2.1 hb.2.1 (Int.le_refl _), mul_rg ha.2.2 hb.2.2 (Int.le_refl _)⟩
theorem way_sz {m : TMod} {s p : V3} {t : Int} (ho : m.Ok) (hs : s.inS 20 = true) (hp : p.inS 1000 = true) (ht : -1000101 ≤ t ∧ t ≤ 1000100) : (m.way s p t).inS 20242020 = true := by
 rw [inS_iff] at *
 have h1 := mul_rg (x := m.tk) (y := p.x - m.px) (A := 20) (B := 2000) (C := 40000) (by have := ho.tk; omega) (by have := ho.px; omega) (by decide)
 have h2 := mul_rg (x := m.tk) (y := p.y - m.py) (A := 20) (B := 2000) (C := 40000) (by have := ho.tk; omega) (by have := ho.py; omega) (by decide)
 have h3 := mul_rg (x := m.tk) (y := p.z - m.pz) (A := 20) (B := 2000) (C := 40000) (by have := ho.tk; omega) (by have := ho.pz; omega) (by decide)
 have g1 := mul_rg (x := t - m.tm) (y := s.x) (A := 1010101) (B := 20) (C := 20202020) (by have := ho.tm; omega) hs.1 (by decide)
 have g2 := mul_rg (x := t - m.tm) (y := s.y) (A := 1010101) (B := 20) (C := 20202020) (by have := ho.tm; omega) hs.2.1 (by decide)
 have g3 := mul_rg (x := t - m.tm) (y := s.z) (A := 1010101) (B := 20) (C := 20202020) (by have := ho.tm; omega) hs.2.2 (by decide)
 unfold TMod.way; simp only; omega
end Go.Proofs.Ytfadkjcfjkmalaa
set_option linter.unusedVariables false
set_option linter.unusedSimpArgs false
namespace Go.Proofs.Ytfadkjcfjkmalaa
open Go.RowKit
end Go.Proofs.Ytfadkjcfjkmalaa
set_option linter.unusedVariables false
set_option linter.unusedSimpArgs false
namespace Go.Proofs.Ytfadkjcfjkmalaa
open Go.RowKit
section
variable {P : Program} {ops : Array Oper} {md : Region.Mode} {C : World → Prop}
def simpleOp (o : Oper) : Bool :=
 match o.op with
 | .move _ | .assign _ | .pick .. | .binOp .. | .unOp .. | .slice .. | .indexAddr .. | .fieldAddr .. | .extract .. | .field .. | .index .. | .build .. => true
 | _ => false
theorem value_of_bind {P : Program} {w w1 : World} {n : Next} (s : Sem Value) (h : ((do let x ← s; pure (.value x) : Sem Next)).run P w = .ok n w1) : ∃ v, n = .value v := by
 rw [Sem.run_bind] at h
 cases hs : s.run P w with
 | ok x w2 => rw [hs] at h; simp only [Result.andThen_ok, Sem.run_pure] at h; cases h; exact ⟨_, rfl⟩
 | halt x w2 => rw [hs] at h; cases h
theorem value_of_bind' {P : Program} {α : Type} {w w1 : World} {n : Next} (s : Sem α) (f : α → Value) (h : ((do let x ← s; pure (.value (f x)) : Sem Next)).run P w = .ok n w1) : ∃ v, n = .value v := by
 rw [Sem.run_bind] at h
 cases hs : s.run P w with
 | ok x w2 => rw [hs] at h; simp only [Result.andThen_ok, Sem.run_pure] at h; cases h; exact ⟨_, rfl⟩
 | halt x w2 => rw [hs] at h; cases h
theorem simpleOp_value {o : Oper} (h : simpleOp o = true) {ρ : Operand → Value} {w w1 : World} {n : Next} (hr : (execOp ρ o).run P w = .ok n w1) : ∃ v, n = .value v := by
 unfold simpleOp at h
 unfold execOp at hr
 split at h
 all_goals first
  | (rename_i e; rw [e] at hr; simp only [Sem.run_pure] at hr; cases hr; exact ⟨_, rfl⟩)
  | (rename_i e; rw [e] at hr; exact value_of_bind _ hr)
  | (rename_i e; rw [e] at hr; exact value_of_bind' _ _ hr)
  | cases h
theorem yields_of_quiet {i : Nat} {o : Oper} {a : Act} {K : Act → Prop} (hi : ops[i]? = some o) (hs : simpleOp o = true) (h : qOp P ops (fun _ => True) i K a) : ∃ v, Yields P ops o v a ∧ K (a.put o.dst v) := by
 obtain ⟨v, hy, hK⟩ := yieldsIn_of_qOp hi h
 refine ⟨v, ?_, hK⟩
 rcases hy with ⟨hw, hy⟩ | ⟨hw, rfl⟩
 ·refine Or.inl ⟨hw, fun w => ?_⟩
  have h1 := hy w trivial
  unfold Oper.quietAt at h1
  generalize hr : (execOp a.eval o).run P w = r at h1
  cases r with
  | ok n w' =>
   obtain ⟨u, rfl⟩ := simpleOp_value hs hr
   simp only [Oper.quietUpon] at h1
   rw [h1.1, h1.2]
  | halt x w' => simp only [Oper.quietUpon] at h1
 ·exact Or.inr ⟨hw, rfl⟩
structure MidInv (md : Region.Mode) (ops : Array Oper) (n : Nat) (l0 listed : Array Bool) : Prop where
 size : listed.size = ops.size
 closed : ∀ j oj, ops[j]? = some oj → listed.getD j false = true → ∀ e ∈ oj.after, Region.binds md e = true → listed.getD e.on false = true
 tail : ∀ t, n ≤ t → t < ops.size → listed.getD t true = false
 start : ∀ j, l0.getD j false = true → listed.getD j false = true
theorem MidInv.set {n i : Nat} {l0 listed : Array Bool} (inv : MidInv md ops n l0 listed) (hi : i ∈ Region.ready md ops listed) (hin : i < n) : MidInv md ops n l0 (listed.setIfInBounds i true) := by
 obtain ⟨hun, oi, hoi, hall⟩ := mem_ready.1 hi
 refine ⟨by simp [inv.size], fun j oj hj hl e he hb => ?_, fun t ht ht' => ?_, fun j hj => getD_set_true (inv.start j hj)⟩
 ·by_cases hij : i = j
  ·subst hij
   have : oj = oi := Option.some.inj (hj.symm.trans hoi)
   subst this
   exact getD_set_true (hall e he hb)
  ·rw [getD_set_ne false hij] at hl
   exact getD_set_true (inv.closed j oj hj hl e he hb)
 ·rw [getD_set_ne true (by omega)]; exact inv.tail t ht ht'
def pick (l : List Oper) : List Nat → List Oper
 | [] => []
 | i :: p => (l.drop i).head?.toList ++ pick l p
theorem pick_cons {l : List Oper} {i : Nat} {p : List Nat} {o : Oper} (h : l[i]? = some o) : pick l (i :: p) = o :: pick l p := by
 simp [pick, List.head?_drop, h]
def noPan (Q : Exit → Act → World → Prop) : Exit → Act → World → Prop
 | .panic _, _, _ => False
 | e, a, w => Q e a w
end
theorem quiet_simple {P : Program} {o : Oper} {a : Act} {C : World → Prop} {K : Act → Prop} (hs : simpleOp o = true) (h : o.quiet P a (fun _ => True) K) : o.quiet P a C K := by
 obtain ⟨v, hv, hK⟩ := h
 refine ⟨v, fun w _ => ?_, hK⟩
 have h1 := hv w trivial
 unfold Oper.quietAt at *
 generalize hr : (execOp a.eval o).run P w = r at h1
 cases r with
 | ok n w' =>
  obtain ⟨u, rfl⟩ := simpleOp_value hs hr
  exact h1
 | halt x w' => exact h1
theorem quiet_val {P : Program} {o : Oper} {a : Act} {C : World → Prop} {K : Act → Prop} (v : Value) (h : ∀ w, C w → (execOp a.eval o).run P w = .ok (.value v) w) (hK : K (a.put o.dst v)) : o.quiet P a C K :=
 ⟨v, fun w hw => by unfold Oper.quietAt; rw [h w hw]; exact ⟨rfl, rfl⟩, hK⟩
def Elem (P : Program) (t e : TypeId) (sz bytes : Nat) : Prop := ∃ i z, P.underlying t = some (.slice e) ∧ P.info? e = some i ∧ i.zero = some z ∧ i.size = sz ∧ i.bytes = bytes ∧ z.cells.size = sz ∧ 0 < sz
theorem Elem.mk {P : Program} {t e : TypeId} {z : Value} {sz bytes : Nat} (ht : P.underlying t = some (.slice e)) (hi : (P.info? e).map (fun i => (i.zero, i.size, i.bytes)) = some (some z, sz, bytes)) (hz : z.cells.size = sz) (hs : 0 < sz) : Elem P t e sz bytes := by
 obtain ⟨i, h1, h2, h3, h4⟩ := info_parts hi
 exact ⟨i, z, ht, h1, h2, h3, h4, hz, hs⟩
structure Pushed (base : Nat) (w w' : World) (v v' : Value) : Prop where
 below : Below base w w'
 other : ∀ k, k < w.heap.size → some k ≠ v.ownBlock → w'.heap[k]? = w.heap[k]?
 lies : v'.ownBlock = v.ownBlock ∨ v'.ownBlock = some w.heap.size
end Go.Proofs.Ytfadkjcfjkmalaa