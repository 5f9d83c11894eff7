/- Texts of this claim, together. -/
import Derived.Test.YtfadkjcfjkmalaaGreatDoorKE5
import Derived.Test.YtfadkjcfjkmalaaGreatDoorProg
import Derived.Test.YtfadkjcfjkmalaaGreatDoorKE1
import Derived.StillTail
import Derived.Deep.AppendLies
import Derived.Laws.AppendOwnNone

set_option linter.unusedVariables false
set_option linter.unusedSimpArgs false
namespace Go.Proofs.YtfadkjcfjkmalaaGreatDoor.Ev
open Go.RowKit
variable {P : Program} {T : Tab} {S : Sum} {ann : Ann} {J : Inv} {l0 n : Nat} {y : Nat → List TV} {keep : List (Nat × DV)} {wc W : World} {N : Nat → Prop} {J0 : Nat → World → Prop} {Jx : Unit → World → Prop} {ov : Nat → Value}
def YA (keep : List (Nat × DV)) (wc W : World) (N : Nat → Prop) (J0 : Nat → World → Prop) (Jx : Unit → World → Prop) (ov : Nat → Value) (st : DS) (a : Act) (w : World) (g : Option Nat) : Prop :=
 a.defers = [] ∧ (∀ i d, findK i keep = some d → a.tmps[i]? = some (ov i)) ∧ ∃ w0 N0 M, Abs w0 N0 noPins M st a w ∧ (match g with
  | some i => J0 i w0 ∧ W.heap.size ≤ w0.heap.size ∧ ∀ b, b < wc.heap.size → N b → w0.heap[b]? = W.heap[b]?
  | none => Jx () w0)
structure YC (P : Program) (l0 n : Nat) (y : Nat → List TV) (keep : List (Nat × DV)) (wc W : World) (N : Nat → Prop) (J0 : Nat → World → Prop) (Jx : Unit → World → Prop) (ov : Nat → Value) : Prop where
 hb : Below wc.heap.size wc W
 hJ : AbidesFrom W.heap.size J0
 hgJ : ∀ i W, J0 i W → Gd W
 hgX : ∀ W, Jx () W → Gd W
 hY : ∀ i W1, i < n → J0 i W1 → YieldAt Fence.wide 0 P l0 ((y i).map tvVal).toArray W1 fun e W' => (e = .returned (.bool true) ∧ J0 (i + 1) W' ∧ W1.heap.size ≤ W'.heap.size ∧ ∀ b, b < wc.heap.size → N b → W'.heap[b]? = W1.heap[b]?) ∨ (e = .returned (.bool false) ∧ Jx () W')
 hk : ∀ i d, findK i keep = some d → RelD (RelF wc N) d (ov i)
theorem below_grown {w w' : World} (h : Below w.heap.size w w') : w.grownBy w' none := ⟨h.os, h.tape, h.output, h.size, fun k hk _ => h.block k hk⟩
theorem flatT_val {w : World} {N : Nat → Prop} {M : Map} : ∀ {x : TV} {v : Value}, flatY x = true → RelT (RelC w N M) x v → v = tvVal x
 | .c (.v x), v, _, g => g.1
 | .c (.sl ..), _, h, _ | .c (.px ..), _, h, _ | .c (.os _), _, h, _ | .c (.p ..), _, h, _ | .c (.pe ..), _, h, _ | .c (.ob ..), _, h, _ | .c (.er _), _, h, _ | .c .any, _, h, _ => by cases h
 | .a l, v, h, g => by
  obtain ⟨vs, rfl, g⟩ := g
  have : ∀ {l : List CV} {vs : List Value}, flatCs l = true → All2 (RelC w N M) l vs → vs = l.map cvVal := by
   intro l
   induction l with
   | nil => intro vs _ g; cases vs with
    | nil => rfl
    | cons _ _ => exact g.elim
   | cons x l ih =>
    intro vs h g
    cases vs with
    | nil => exact g.elim
    | cons v vs =>
     simp only [flatCs, Bool.and_eq_true] at h
     have e : v = cvVal x := by
      cases x with
      | v z => exact g.1.1
      | _ => simp [flatC] at h
     rw [e, ih h.2 g.2]; rfl
  rw [this h g]; rfl
 | .fn f l, v, h, g => by cases h
 | .fb f l, v, h, g => by cases h
theorem flatTs_val {w : World} {N : Nat → Prop} {M : Map} : ∀ {l : List TV} {vs : List Value}, flatYs l = true → All2 (RelT (RelC w N M)) l vs → vs = l.map tvVal
 | [], [], _, _ => rfl
 | x :: l, v :: vs, h, g => by
  simp only [flatYs, Bool.and_eq_true] at h
  rw [flatT_val h.1 g.1, flatTs_val h.2 g.2]; rfl
 | [], _ :: _, _, g => g.elim
 | _ :: _, [], _, g => g.elim
theorem tts_rel {R : CV → Value → Prop} : ∀ {ds : List DV} {l : List TV} {vs : List Value}, tts ds = some l → All2 (RelD R) ds vs → All2 (RelT R) l vs
 | [], l, [], h, _ => by cases h; trivial
 | .t x :: ds, l, v :: vs, h, g => by
  simp only [tts, Option.map_eq_some_iff] at h
  obtain ⟨l', h1, rfl⟩ := h
  exact ⟨g.1, tts_rel h1 g.2⟩
 | .tu _ :: _, l, _ :: _, h, _ => by simp [tts] at h
 | [], _, _ :: _, _, g => g.elim
 | _ :: _, _, [], _, g => g.elim
theorem rebT_get (keep : List (Nat × DV)) : ∀ (l : List (Option DV)) (k i : Nat), ((rebT keep k l)[i]?).join = if i < l.length then (match findK (k + i) keep with | some d => some d | none => match (l[i]?).join with | some d => bif flatD d then some d else none | none => none) else none
 | [], k, i => by simp [rebT]
 | x :: l, k, 0 => by
  simp only [rebT, List.getElem?_cons_zero, Nat.add_zero, List.length_cons, Nat.zero_lt_succ, if_true]
  cases findK k keep with
  | some d => rfl
  | none => cases x with
   | none => rfl
   | some d => rfl
 | x :: l, k, i + 1 => by
  simp only [rebT, List.getElem?_cons_succ, rebT_get keep l (k + 1) i, List.length_cons, Nat.add_lt_add_iff_right]
  rw [show k + 1 + i = k + (i + 1) by omega]
theorem rebT_len (keep : List (Nat × DV)) : ∀ (l : List (Option DV)) (k : Nat), (rebT keep k l).length = l.length
 | [], k => rfl
 | x :: l, k => by simp [rebT, rebT_len keep l]
theorem flat_cv {w w' : World} {N N' : Nat → Prop} {M M' : Map} {x : CV} {v : Value} (h : flatC x = true) (g : RelC w N M x v) : RelC w' N' M' x v := by
 cases x with
 | v y => exact g
 | _ => cases h
theorem flat_cvs {w w' : World} {N N' : Nat → Prop} {M M' : Map} : ∀ {l : List CV} {vs : List Value}, flatCs l = true → All2 (RelC w N M) l vs → All2 (RelC w' N' M') l vs
 | [], [], _, _ => trivial
 | x :: l, v :: vs, h, g => by
  simp only [flatCs, Bool.and_eq_true] at h
  exact ⟨flat_cv h.1 g.1, flat_cvs h.2 g.2⟩
 | [], _ :: _, _, g => g.elim
 | _ :: _, [], _, g => g.elim
theorem flat_tv {w w' : World} {N N' : Nat → Prop} {M M' : Map} {x : TV} {v : Value} (h : flatT x = true) (g : RelT (RelC w N M) x v) : RelT (RelC w' N' M') x v := by
 cases x with
 | c x => exact flat_cv h g
 | a l => obtain ⟨vs, e, g⟩ := g; exact ⟨vs, e, flat_cvs h g⟩
 | fn f l => obtain ⟨vs, e, g⟩ := g; exact ⟨vs, e, flat_cvs h g⟩
 | fb f l => obtain ⟨vs, e, g⟩ := g; exact ⟨vs, e, flat_cvs h g⟩
theorem flat_tvs {w w' : World} {N N' : Nat → Prop} {M M' : Map} : ∀ {l : List TV} {vs : List Value}, flatTs l = true → All2 (RelT (RelC w N M)) l vs → All2 (RelT (RelC w' N' M')) l vs
 | [], [], _, _ => trivial
 | x :: l, v :: vs, h, g => by
  simp only [flatTs, Bool.and_eq_true] at h
  exact ⟨flat_tv h.1 g.1, flat_tvs h.2 g.2⟩
 | [], _ :: _, _, g => g.elim
 | _ :: _, [], _, g => g.elim
theorem flat_up {w w' : World} {N N' : Nat → Prop} {M M' : Map} {x : DV} {v : Value} (h : flatD x = true) (g : RelD (RelC w N M) x v) : RelD (RelC w' N' M') x v := by
 cases x with
 | t x => exact flat_tv h g
 | tu l => obtain ⟨vs, e, g⟩ := g; exact ⟨vs, e, flat_tvs h g⟩
theorem Abs.reb {w0 : World} {N0 : Nat → Prop} {M : Map} {st : DS} {a : Act} {w w' : World} (ha : Abs w0 N0 noPins M st a w) (hd : a.defers = []) (hG : Gd w') (hk : ∀ i d, findK i keep = some d → a.tmps[i]? = some (ov i) ∧ RelD (RelF w' N) d (ov i)) : Abs w' N noPins (fun _ => none) (rebS keep st) a w' := by
 refine ⟨Below.refl _ _, by simp [rebS, rebT_len, ha.fits], by rw [hd]; exact Marks.nil hG, fun i dv h => ?_, fun k r h => ?_, fun _ _ => rfl, (fun k l b h _ => by cases h), (fun k k' r r' l l' b _ _ _ _ h _ _ _ => by cases h), (fun _ _ h => h.elim), (fun _ h => h.elim), (fun _ _ h => by cases h), (fun _ _ _ _ => Nat.zero_le _)⟩
 ·unfold DS.tm rebS at h
  simp only at h
  rw [rebT_get] at h
  split at h
  ·rename_i hlt
   simp only [Nat.zero_add] at h
   cases e : findK i keep with
   | some d =>
    obtain ⟨h1, h2⟩ := hk i d e
    rw [e] at h
    cases h
    exact ⟨_, h1, RelD.mono (fun x v g => RelC.ofF (RelF.mono (Nat.le_refl _) (fun _ _ _ _ => rfl) (fun b hb _ => ⟨fun _ => hb, fun _ _ h => by cases h⟩) x g)) h2⟩
   | none =>
    rw [e] at h
    simp only at h
    cases e2 : (st.t[i]?).join with
    | none => rw [e2] at h; cases h
    | some d =>
     rw [e2] at h
     simp only at h
     cases e3 : flatD d with
     | false => rw [e3] at h; cases h
     | true =>
      obtain ⟨v, h1, h2⟩ := ha.tmp i d e2
      rw [e3] at h
      cases h
      exact ⟨v, h1, flat_up e3 h2⟩
  ·cases h
 ·unfold DS.at rebS at h
  simp only [List.getElem?_replicate] at h
  split at h <;> cases h
theorem run_yldC {a : Act} {w : World} {o : Oper} {c : Call} (ho : o.op = .call c) {f : Operand} (hc : c.callee = .value f) {l : Nat} (hg : a.eval f = .func (.yield l) #[] #[]) {args : List Value} (hargs : c.args.toList.map a.eval = args) {X : Result Next} (hX : (Instr.yield l args.toArray).run P w = X) : (execOp a.eval o).run P w = X := by
 have : c.args.map a.eval = args.toArray := by
  apply Array.toList_inj.1; simpa using hargs
 unfold execOp
 simp only [ho, resolve, hc, hg, Deferred.ofValue, Sem.run_bind, Sem.run_pure, Result.andThen_ok, invoke, Array.empty_append, this]
 simpa using hX
theorem evOpsY_sound (hT : TabOK P T) (hS : Valid P S) (C : YC P l0 n y keep wc W N J0 Jx ov) {ops : Array Oper} {Q : Exit → Act → World → Prop} {k : Option Nat → DS → Prop} (hQ : ∀ g st' a' w', k g st' → YA keep wc W N J0 Jx ov st' a' w' g → Q .normal a' w') : ∀ (l : List Oper), (∀ o ∈ l, okKeep keep o = true) → ∀ {st : DS} {a : Act} {w : World} {g : Option Nat}, YA keep wc W N J0 Jx ov st a w g → evOpsY P T S l0 n y keep ops.toList l st g k → wpListIn Fence.wide 0 P ops Q l a w
  | [], _, st, a, w, g, ha, h => hQ _ _ _ _ h ha
  | o :: l, hk, st, a, w, g, ha, h => by
    have hko := hk o (by simp)
    have hrest : ∀ o' ∈ l, okKeep keep o' = true := fun o' ho' => hk o' (by simp [ho'])
    have hdst : ∀ i d, findK i keep = some d → o.dst ≠ some i := by
      intro i d hf e
      unfold okKeep at hko
      rw [e] at hko
      simp [hf] at hko
    have hnd : ∀ c, o.op ≠ .defer c := by
      unfold okKeep at hko
      simp only [Bool.and_eq_true] at hko
      exact ndef_ok hko.1
    have normal : evOp P T S ops.toList noForb o st (fun st' => evOpsY P T S l0 n y keep ops.toList l st' g k) → wpListIn Fence.wide 0 P ops Q (o :: l) a w := by
      intro h
      rw [evOp_iff] at h
      obtain ⟨p, st', h1, h2, h3⟩ := h
      obtain ⟨hd, hov, w0, N0, M, hA, hg⟩ := ha
      have := step_fr hT hS hA h1 h2 (l := [o]) (by simp) (K := fun a' w' => wpListIn Fence.wide 0 P ops Q l a' w') (Q := Q) (fun M' a' w' hA' hfr => evOpsY_sound hT hS C hQ l hrest ⟨hfr.2.trans hd, fun i d hf => (hfr.1 i (by simpa using hdst i d hf)).trans (hov i d hf), w0, N0, M', hA', hg⟩ h3)
      exact this
    simp only [evOpsY] at h
    split at h
    · rename_i c l' hy hw
      obtain ⟨hd, hov, w0, N0, M, hA, hg⟩ := ha
      have hwant := want_ok hA hw
      unfold yldE at h
      split at h
      · rename_i i ls hds
        cases hfl : flatYs ls with
        | false => rw [hfl] at h; exact h.elim
        | true =>
        rw [hfl] at h
        simp only [Bool.not_true, cond_false] at h
        obtain ⟨⟨hl0, hi, hls⟩, hT', hF'⟩ := h
        simp only [Option.bind_eq_some_iff] at hds
        obtain ⟨ds, hds1, hds2⟩ := hds
        unfold yldC at hy
        split at hy
        case h_2 => cases hy
        rename_i c' hop
        split at hy
        case h_2 => cases hy
        rename_i f hcal
        split at hy
        case h_2 => cases hy
        rename_i d hf
        simp only [Option.map_eq_some_iff, Prod.mk.injEq] at hy
        obtain ⟨l2, hl2, rfl, rfl⟩ := hy
        have hgv : a.eval f = .func (.yield l0) #[] #[] := by
          have g1 := opv_rel hA hf
          rw [← hl0]
          unfold isYld at hl2
          split at hl2
          · cases hl2; exact g1.1
          · cases hl2
        have hvals := flatTs_val hfl (tts_rel hds2 (opvs_rel hA hds1))
        have hJw : J0 i w := C.hJ i w0 w none hg.1 (below_grown hA.below) (fun r e => by cases e)
        obtain ⟨fn, tmps, assign, body, hrun, hround⟩ := C.hY i w hi hJw
        rw [← hls] at hrun
        have hx := run_yldC (P := P) hop hcal hgv hvals hrun
        show if _ then _ else _
        rw [hwant, if_pos rfl]
        unfold Oper.wpIn
        refine ⟨fun f _ => trivial, ?_⟩
        rw [Oper.semAt_eq _ _ _ hnd, hx]
        refine ⟨(fun h => by cases h), hround.mono ?_⟩
        have hsz := hg.2.1
        have hsw : wc.heap.size ≤ w0.heap.size := Nat.le_trans C.hb.size hsz
        have hsA := hA.below.size
        have hov' : ∀ (v : Value) i d, findK i keep = some d → (a.put o.dst v).tmps[i]? = some (ov i) := fun v i d hf => by
          rw [put_get, if_neg (fun h => hdst i d hf h.1)]; exact hov i d hf
        rintro e w' (⟨rfl, hj, hs2, hkp⟩ | ⟨rfl, hj⟩)
        · have hkn : ∀ b, b < wc.heap.size → N b → w'.heap[b]? = W.heap[b]? := fun b hb hN => by
            rw [hkp b hb hN, hA.below.block b (by omega)]; exact hg.2.2 b hb hN
          have hreb := hA.reb (keep := keep) (ov := ov) (w' := w') (N := fun b => b < wc.heap.size ∧ N b) hd (C.hgJ _ _ hj) fun i d hf => ⟨hov i d hf, RelD.mono (fun x v g => RelF.mono (w := wc) (N := N) (by omega) (fun b hN hb off => by
                have e1 : w'.heap[b]? = wc.heap[b]? := (hkn b hb hN).trans (C.hb.block b hb)
                exact World.cell?_of_block (w := wc) (a := ⟨b, off, none⟩) e1) (fun b hN hb => ⟨hb, hN⟩) x g) (C.hk i d hf)⟩
          refine evOpsY_sound hT hS C hQ l hrest (g := some (i + 1)) ⟨by rw [put_defs]; exact hd, hov' _, w', _, _, hreb.putV o.dst (x := .t (.c (.v (.bool true)))) ⟨rfl, rfl⟩, hj, by omega, hkn⟩ hT'
        · have hreb := hA.reb (keep := []) (ov := ov) (w' := w') (N := fun _ => True) hd (C.hgX _ hj) fun i d hf => by cases hf
          refine evOpsY_sound hT hS C hQ l hrest (g := none) ⟨by rw [put_defs]; exact hd, hov' _, w', _, _, hreb.putV o.dst (x := .t (.c (.v (.bool false)))) ⟨rfl, rfl⟩, hj⟩ hF'
      · exact h.elim
    · exact normal h
theorem YA.tidyB {st st' : DS} {a : Act} {w : World} {g : Option Nat} (ha : YA keep wc W N J0 Jx ov st a w g) {hd : Hd} {bx : List Bx} (h : tidyB hd bx st = some st') : YA keep wc W N J0 Jx ov st' a w g := by
 obtain ⟨hd', hov, w0, N0, M, hA, hg⟩ := ha
 obtain ⟨M', hA'⟩ := hA.tidyB (by intro k l h; cases h) h
 exact ⟨hd', hov, w0, N0, M', hA', hg⟩
theorem YA.eval {st : DS} {a : Act} {w : World} {g : Option Nat} (ha : YA keep wc W N J0 Jx ov st a w g) {c : Operand} {t : Bool} (h : opv st c = some (.t (.c (.v (.bool t))))) : a.eval c = .bool t := by
 obtain ⟨hd', hov, w0, N0, M, hA, hg⟩ := ha
 exact (opv_rel hA h).1
theorem evY_sound (hT : TabOK P T) (hS : Valid P S) (C : YC P l0 n y keep wc W N J0 Jx ov) : ∀ (c : Code) {b : Nat} {F : List Nat} {kn : Option Nat → DS → Prop} {ke : Nat → Option Nat → DS → Prop} {kr : Option Nat → DS → Prop} {Kn : List Nat → Option Nat → DS → Prop} {Ke : List Nat → Nat → Option Nat → DS → Prop} {Kr : List Nat → Option Nat → DS → Prop} {Q : Exit → Act → World → Prop} {st : DS} {a : Act} {w : World} {g : Option Nat},
  okY ann keep c b = true → AllY J (loopsY P T S ann J l0 n y keep c b Kn Ke Kr) → Kn F = kn → Ke F = ke → Kr F = kr → YA keep wc W N J0 Jx ov st a w g →
  (∀ g st' a' w', kn g st' → YA keep wc W N J0 Jx ov st' a' w' g → Q .normal a' w') → (∀ i g st' a' w', ke i g st' → YA keep wc W N J0 Jx ov st' a' w' g → Q (.exit i) a' w') → (∀ g st' a' w', kr g st' → YA keep wc W N J0 Jx ov st' a' w' g → Q .ret a' w') →
  evY P T S ann J l0 n y keep c b F kn ke kr g st → c.wpIn Fence.wide 0 P Q a w
 | .skip, b, F, kn, ke, kr, Kn, Ke, Kr, Q, st, a, w, g, hok, hL, e1, e2, e3, ha, hn, he, hr, h => wpIn_skip (hn _ _ _ _ h ha)
 | .exit i, b, F, kn, ke, kr, Kn, Ke, Kr, Q, st, a, w, g, hok, hL, e1, e2, e3, ha, hn, he, hr, h => wpIn_exit (he i _ _ _ _ h ha)
 | .ret, b, F, kn, ke, kr, Kn, Ke, Kr, Q, st, a, w, g, hok, hL, e1, e2, e3, ha, hn, he, hr, h => wpIn_ret (hr _ _ _ _ h ha)
 | .region id ops draw, b, F, kn, ke, kr, Kn, Ke, Kr, Q, st, a, w, g, hok, hL, e1, e2, e3, ha, hn, he, hr, h => by
  simp only [okY, Bool.and_eq_true, Bool.not_eq_true'] at hok
  obtain ⟨hk, rfl⟩ := hok
  exact wpIn_region_list (evOpsY_sound hT hS C hn ops.toList (fun o ho => List.all_eq_true.1 hk o ho) ha h)
 | .seq x z, b, F, kn, ke, kr, Kn, Ke, Kr, Q, st, a, w, g, hok, hL, e1, e2, e3, ha, hn, he, hr, h => by
  simp only [okY, Bool.and_eq_true] at hok
  simp only [loopsY, AllY_append] at hL
  refine wpIn_seq (evY_sound hT hS C x (b := b) (F := F) hok.1 hL.1 (by rw [e1, e2, e3]) e2 e3 ha (fun g st' a' w' h' ha' => ?_) (fun i g st' a' w' h' ha' => he i _ _ _ _ h' ha') (fun g st' a' w' h' ha' => hr _ _ _ _ h' ha') h)
  exact evY_sound hT hS C z hok.2 hL.2 e1 e2 e3 ha' hn he hr h'
 | .cond c x z, b, F, kn, ke, kr, Kn, Ke, Kr, Q, st, a, w, g, hok, hL, e1, e2, e3, ha, hn, he, hr, h => by
  simp only [okY, Bool.and_eq_true] at hok
  simp only [loopsY, AllY_append] at hL
  simp only [evY] at h
  split at h
  ·rename_i t hc
   have hv := ha.eval hc
   cases t with
   | true => exact wpIn_cond_true hv (evY_sound hT hS C x hok.1 hL.1 e1 e2 e3 ha hn he hr h)
   | false => exact wpIn_cond_false hv (evY_sound hT hS C z hok.2 hL.2 e1 e2 e3 ha hn he hr h)
  ·exact h.elim
 | .block id x, b, F, kn, ke, kr, Kn, Ke, Kr, Q, st, a, w, g, hok, hL, e1, e2, e3, ha, hn, he, hr, h => by
  simp only [okY] at hok
  simp only [evY] at h
  simp only [loopsY] at hL
  refine wpIn_block (evY_sound hT hS C x (b := id) (F := F) hok hL e1 (by rw [e1, e2]) e3 ha (fun g st' a' w' h' ha' => hn _ _ _ _ h' ha') (fun i g st' a' w' h' ha' => ?_) (fun g st' a' w' h' ha' => hr _ _ _ _ h' ha') h)
  simp only [Exit.inBlock]
  cases e : Nat.beq i id with
  | true =>
   rw [e] at h'
   rw [if_pos (Nat.eq_of_beq_eq_true e)]
   exact hn _ _ _ _ h' ha'
  | false =>
   rw [e] at h'
   rw [if_neg (fun h2 => by rw [h2, Nat.beq_refl] at e; cases e)]
   exact he i _ _ _ _ h' ha'
 | .loop x, b, F, kn, ke, kr, Kn, Ke, Kr, Q, st, a, w, g, hok, hL, e1, e2, e3, ha, hn, he, hr, h => by
  simp only [okY, Bool.and_eq_true] at hok
  simp only [evY] at h
  split at h
  ·rename_i hd c hl
   simp only [loopsY, hl, AllY] at hL
   obtain ⟨⟨hz, hs⟩, hin⟩ := hL
   split at h
   ·rename_i s hts
    obtain ⟨m, hJ⟩ := h
    have key : ∀ (m : Nat) {c : Nat} {st : DS} {a : Act} {w : World}, YA keep wc W N J0 Jx ov st a w (some c) → J b (c :: m :: F) st → Code.roundsIn Fence.wide 0 P x Q m a w := by
     intro m
     induction m with
     | zero => intro c st a w ha h; exact (hz c F st h).elim
     | succ m ih =>
      intro c st a w ha h
      have h1 := hs c m F st h
      simp only [List.tail_cons] at h1
      rw [roundsIn_succ]
      rw [e2, e3] at h1
      refine evY_sound hT hS C x (F := m :: F) hok.2 hin rfl (by simpa using e2) (by simpa using e3) ha (fun g st' a' w' h' ha' => ?_) (fun i g st' a' w' h' ha' => he i _ _ _ _ h' ha') (fun g st' a' w' h' ha' => hr _ _ _ _ h' ha') h1
      unfold againY at h'
      split at h'
      ·rename_i c' s2 hs2
       exact ih (ha'.tidyB hs2) h'
      ·exact h'.elim
    exact wpIn_loop_rounds m (key m (ha.tidyB hts) hJ)
   ·exact h.elim
  ·exact h.elim
 | .rangeFunc .., _, _, _, _, _, _, _, _, _, _, _, _, _, _, _, _, _, _, _, _, _, _, h | .scope _, _, _, _, _, _, _, _, _, _, _, _, _, _, _, _, _, _, _, _, _, _, _, h | .label _, _, _, _, _, _, _, _, _, _, _, _, _, _, _, _, _, _, _, _, _, _, _, h
 | .goto _, _, _, _, _, _, _, _, _, _, _, _, _, _, _, _, _, _, _, _, _, _, _, h | .refuse _, _, _, _, _, _, _, _, _, _, _, _, _, _, _, _, _, _, _, _, _, _, _, h => h.elim
def endY (n : Nat) (g : Option Nat) (_ : DS) : Prop := match g with
 | some i => i = n
 | none => True
def evIt (P : Program) (T : Tab) (S : Sum) (ann : Ann) (J : Inv) (l0 n : Nat) (y : Nat → List TV) (keep : List (Nat × DV)) (fn : Func) (caps : List DV) : Prop := match fn.body with
 | some c => evY P T S ann J l0 n y keep c 0 [] (endY n) (fun _ _ _ => False) (endY n) (some 0) (start (.t (.c (.v (.func (.yield l0) #[] #[]))) :: caps) fn.ntmps)
 | none => False
def loopsIt (P : Program) (T : Tab) (S : Sum) (ann : Ann) (J : Inv) (l0 n : Nat) (y : Nat → List TV) (keep : List (Nat × DV)) (fn : Func) : List (Nat × (Nat → List Nat → DS → Prop)) := match fn.body with
 | some c => loopsY P T S ann J l0 n y keep c 0 (fun _ => endY n) (fun _ _ _ _ => False) (fun _ => endY n)
 | none => []
def okIt (ann : Ann) (keep : List (Nat × DV)) (fn : Func) : Bool := fn.results.toList.isEmpty && (match fn.body with
 | some c => okY ann keep c 0
 | none => false)
end Go.Proofs.YtfadkjcfjkmalaaGreatDoor.Ev
set_option linter.unusedVariables false
set_option linter.unusedSimpArgs false
namespace Go.Proofs.YtfadkjcfjkmalaaGreatDoor.Ev
open Go.RowKit
def keepOf : Nat → List CV → List (Nat × DV)
 | _, [] => []
 | i, x :: l => (i, .t (.c x)) :: keepOf (i + 1) l
theorem keepOf_get : ∀ {l : List CV} {k i : Nat} {d : DV}, findK i (keepOf k l) = some d → ∃ x, k ≤ i ∧ l[i - k]? = some x ∧ d = .t (.c x)
 | [], k, i, d, h => by cases h
 | x :: l, k, i, d, h => by
  simp only [keepOf, findK] at h
  cases e : Nat.beq i k with
  | true =>
   rw [e] at h
   cases h
   have := Nat.eq_of_beq_eq_true e
   subst this
   exact ⟨x, Nat.le_refl _, by simp, rfl⟩
  | false =>
   rw [e] at h
   obtain ⟨z, h1, h2, h3⟩ := keepOf_get (l := l) h
   refine ⟨z, by omega, ?_, h3⟩
   rw [show i - k = (i - (k + 1)) + 1 by omega]
   simpa using h2
theorem all2_caps {w : World} {N : Nat → Prop} : ∀ {l : List CV} {vs : List Value}, All2 (RelF w N) l vs → All2 (RelD (RelF w N)) (l.map fun x => DV.t (.c x)) vs
 | [], [], _ => trivial
 | x :: l, v :: vs, h => ⟨h.1, all2_caps h.2⟩
 | [], _ :: _, h => h.elim
 | _ :: _, [], h => h.elim
theorem it_sound {P : Program} {T : Tab} {S : Sum} (hT : TabOK P T) (hS : Valid P S) {ann : Ann} {f : FuncId} {fn : Func} (hf : P.funcs[f]? = some fn) {n : Nat} {y : Nat → List TV} {l : List CV} (hok : okIt ann (keepOf 1 l) fn = true) (hlen : l.length + 1 ≤ fn.ntmps)
  (h : ∀ l0, ∃ J : Inv, evIt P T S ann J l0 n y (keepOf 1 l) fn (l.map fun x => .t (.c x)) ∧ AllY J (loopsIt P T S ann J l0 n y (keepOf 1 l) fn))
  (w : World) (N : Nat → Prop) (vs : List Value) (hargs : All2 (RelF w N) l vs) : SeqIt P f #[] vs.toArray n (fun i => ((y i).map tvVal).toArray) (fun A B => A.heap.size ≤ B.heap.size ∧ ∀ b, b < w.heap.size → N b → B.heap[b]? = A.heap[b]?) w := by
 intro l0 J0 Jx W hb hJ hJx hgJ hgX hY h0
 obtain ⟨J, h, hL⟩ := h l0
 have hvl := hargs.length
 have hW := hb.size
 unfold okIt at hok
 unfold evIt at h
 unfold loopsIt at hL
 simp only [Bool.and_eq_true] at hok
 obtain ⟨hres, hok⟩ := hok
 cases hbd : fn.body with
 | none => rw [hbd] at h; exact h.elim
 | some c =>
 rw [hbd] at h hL hok
 simp only at h hL hok
 let ov : Nat → Value := fun i => (vs[i - 1]?).getD undef
 have hC : YC P l0 n y (keepOf 1 l) w W N J0 Jx ov := by
  refine ⟨hb, hJ, hgJ, hgX, hY, fun i d hd => ?_⟩
  obtain ⟨x, h1, h2, rfl⟩ := keepOf_get hd
  obtain ⟨v, e1, e2⟩ := hargs.get h2
  show RelF w N x ((vs[i - 1]?).getD undef)
  rw [e1]; exact e2
 have hargs2 : All2 (RelD (RelF W fun b => b < w.heap.size ∧ N b)) (.t (.c (.v (.func (.yield l0) #[] #[]))) :: l.map fun x => DV.t (.c x)) (.func (.yield l0) #[] #[] :: vs) :=
  ⟨⟨rfl, rfl⟩, all2_caps (hargs.mono fun x v g => RelF.mono (w := w) (N := N) hW (fun b _ hlt off => World.cell?_of_block (w := w) (a := ⟨b, off, none⟩) (hb.block b hlt)) (fun b hN hlt => ⟨hlt, hN⟩) x g)⟩
 obtain ⟨aL, has⟩ : ∃ aL : List DV, aL = .t (.c (.v (.func (.yield l0) #[] #[]))) :: l.map fun x => DV.t (.c x) := ⟨_, rfl⟩
 obtain ⟨us, hus⟩ : ∃ us : List Value, us = .func (.yield l0) #[] #[] :: vs := ⟨_, rfl⟩
 rw [← has, ← hus] at hargs2
 rw [← has] at h
 have hvl2 := hargs2.length
 have hla : aL.length = l.length + 1 := by rw [has]; simp
 have hstart : Abs W (fun b => b < w.heap.size ∧ N b) noPins (fun _ => none) (start aL fn.ntmps) { tmps := us.toArray ++ Array.replicate (fn.ntmps - us.toArray.size) undef, defers := [] } W := by
  refine ⟨Below.refl _ _, by simp [start, hvl2], Marks.nil (hgJ 0 W h0), fun i dv hi => ?_, fun k r hr => ?_, fun _ _ => rfl, (fun k l b h1 _ => by cases h1), (fun k k' r r' l l' b _ _ _ _ h1 _ _ _ => by cases h1), (fun _ _ h => h.elim), (fun _ h => h.elim), (fun _ _ h => by cases h), (fun _ _ _ _ => Nat.zero_le _)⟩
  ·unfold DS.tm start at hi
   simp only at hi
   by_cases hlt : i < aL.length
   ·rw [List.getElem?_append_left (by simpa using hlt), List.getElem?_map] at hi
    have e1 : aL[i]? = some dv := by
     cases e : aL[i]? with
     | none => rw [e] at hi; cases hi
     | some x => rw [e] at hi; simpa using hi
    obtain ⟨v, e2, e3⟩ := hargs2.get e1
    refine ⟨v, ?_, RelD.mono (fun x u g => RelC.ofF (RelF.mono (Nat.le_refl _) (fun _ _ _ _ => rfl) (fun b hb hl => ⟨fun _ => hb, fun k l h => by cases h⟩) x g)) e3⟩
    rw [Array.getElem?_append_left (by simp; omega)]
    simpa using e2
   ·rw [List.getElem?_append_right (by simpa using hlt), List.getElem?_replicate] at hi
    split at hi
    ·rename_i h2
     simp only [Option.join_some, Option.some.injEq] at hi
     subst hi
     simp only [List.length_map] at h2
     refine ⟨undef, ?_, [], rfl, trivial⟩
     rw [Array.getElem?_append_right (by simp; omega), Array.getElem?_replicate, if_pos (by simp; omega)]
    ·cases hi
  ·unfold DS.at start at hr
   simp only [List.getElem?_replicate] at hr
   split at hr <;> cases hr
 have hYA : YA (keepOf 1 l) w W N J0 Jx ov (start aL fn.ntmps) { tmps := us.toArray ++ Array.replicate (fn.ntmps - us.toArray.size) undef, defers := [] } W (some 0) := by
  refine ⟨rfl, fun i d hd => ?_, W, _, _, hstart, h0, Nat.le_refl _, fun _ _ _ => rfl⟩
  obtain ⟨x, h1, h2, rfl⟩ := keepOf_get hd
  obtain ⟨v, e1, e2⟩ := hargs.get h2
  have hlt : i - 1 < vs.length := (List.getElem?_eq_some_iff.1 e1).1
  show _ = some ((vs[i - 1]?).getD undef)
  rw [e1, Array.getElem?_append_left (by rw [hus]; simp; omega), hus]
  obtain ⟨j, rfl⟩ : ∃ j, i = j + 1 := ⟨i - 1, by omega⟩
  simpa using e1
 have hfin : ∀ (g : Option Nat) (st' : DS) (a' : Act) (w' : World), endY n g st' → YA (keepOf 1 l) w W N J0 Jx ov st' a' w' g → LeavesInM Fence.wide 0 P fn a'.tmps (fun e W' => (∃ v, e = .returned v) ∧ (J0 n W' ∨ Jx () W')) a'.defers .returning w' := by
  rintro g st' a' w' hg ⟨hd, _, w1, N1, M1, hA, hgg⟩
  rw [hd]
  have hr : (results fn a'.tmps).run P w' = .ok (.tuple #[]) w' := by
   have h1 : results fn a'.tmps = (do
    let vs ← fn.results.mapM (resS a'.tmps)
    pure (if h : vs.size = 1 then vs[0] else .tuple vs)) := rfl
   have h2 : fn.results = #[] := by
    apply Array.toList_inj.1
    simpa using hres
   rw [h1, h2]
   simp
  refine ⟨_, hr, ⟨_, rfl⟩, ?_⟩
  cases g with
  | none => exact Or.inr (hJx () w1 w' none hgg (below_grown hA.below) (fun r e => by cases e))
  | some i =>
   have : i = n := hg
   subst this
   exact Or.inl (hJ i w1 w' none hgg.1 (below_grown hA.below) (fun r e => by cases e))
 have hcalls : CallsIn Fence.wide 0 P f us.toArray W fun e W' => (∃ v, e = .returned v) ∧ (J0 n W' ∨ Jx () W') := by
  refine callsIn_of_wp_marks hf hbd trivial ?_
  refine evY_sound hT hS hC c hok hL rfl rfl rfl hYA (fun g st' a' w' hk ha' => ?_) (fun i g st' a' w' hk _ => hk.elim) (fun g st' a' w' hk ha' => ?_) h
  ·exact hfin g st' a' w' hk ha'
  ·exact hfin g st' a' w' hk ha'
 have e : us.toArray = #[] ++ #[.func (.yield l0) #[] #[]] ++ vs.toArray := by rw [hus]; simp
 rw [← e]
 exact hcalls
def LeC (al bs : List CV) : Prop := ∀ w N vs, All2 (RelF w N) al vs → All2 (RelF w N) bs vs
theorem LeC.refl (al : List CV) : LeC al al := fun _ _ _ h => h
def okB1 : CV → Bool
 | .v x => x.oneCell'
 | _ => false
def okBs : List CV → Bool
 | [] => true
 | x :: l => okB1 x && okBs l
def okBT : TV → Bool
 | .c x => okB1 x
 | .a l => okBs l
 | .fn _ _ => false
 | .fb _ _ => false
def okBTs : List TV → Bool
 | [] => true
 | x :: l => okBT x && okBTs l
theorem okB1_rel {w : World} {N : Nat → Prop} {x : CV} (h : okB1 x = true) : RelF w N x (cvVal x) := by
 cases x with
 | v y => exact ⟨rfl, h⟩
 | _ => cases h
theorem okBs_rel {w : World} {N : Nat → Prop} : ∀ {l : List CV}, okBs l = true → All2 (RelF w N) l (l.map cvVal)
 | [], _ => trivial
 | x :: l, h => by
  simp only [okBs, Bool.and_eq_true] at h
  exact ⟨okB1_rel h.1, okBs_rel h.2⟩
theorem okBT_rel {w : World} {N : Nat → Prop} {x : TV} (h : okBT x = true) : RelT (RelF w N) x (tvVal x) := by
 cases x with
 | c y => exact okB1_rel h
 | a l => exact ⟨_, rfl, okBs_rel h⟩
 | fn f l => cases h
 | fb f l => cases h
theorem okBTs_rel {w : World} {N : Nat → Prop} : ∀ {l : List TV}, okBTs l = true → All2 (RelT (RelF w N)) l (l.map tvVal)
 | [], _ => trivial
 | x :: l, h => by
  simp only [okBTs, Bool.and_eq_true] at h
  exact ⟨okBT_rel h.1, okBTs_rel h.2⟩
@[reducible] def ItC := List CV → Option ItR
def OkIt (P : Program) (f : FuncId) (F : ItC) : Prop := ∀ l R, F l = some R → okP R.pre → Enters P f ∧ (∀ i, i < R.n → (R.y i).length = R.m ∧ okBTs (R.y i) = true) ∧
 ∀ (w : World) (N : Nat → Prop) (vs : List Value), All2 (RelF w N) l vs → SeqIt P f (fbA R.bd vs) (lbA R.bd vs) R.n (fun i => ((R.y i).map tvVal).toArray) (KpI w N R.ty) w
def addI (it : It) (f : FuncId) (F : ItC) : It := fun g l => bif Nat.beq g f then (F l).map (fun R => { R with mu := none }) else it g l
theorem ItOk.eq {P : Program} {F G : List CV → Option ItR} {gf : FuncId} {l : List CV} {R : ItR} (h : ItOk P F gf l R) (e : F = G) : ItOk P G gf l R := e ▸ h
theorem ValidIt.add {P : Program} {it : It} {f : FuncId} {F : ItC} (h : ValidIt P it) (hF : OkIt P f F) : ValidIt P (addI it f F) := by
 intro g l R h1 h2
 cases e : Nat.beq g f with
 | true =>
  have h1 : (F l).map (fun R => { R with mu := none }) = some R := by unfold addI at h1; rw [e] at h1; exact h1
  rw [Nat.eq_of_beq_eq_true e]
  simp only [Option.map_eq_some_iff] at h1
  obtain ⟨R0, h3, rfl⟩ := h1
  obtain ⟨g1, g2, g3⟩ := hF l R0 h3 h2
  exact ⟨g1, fun i hi => ⟨(g2 i hi).1, fun w N => okBTs_rel (g2 i hi).2⟩, g3⟩
 | false =>
  have e2 : it g = addI it f F g := by funext l; unfold addI; rw [e]; rfl
  obtain ⟨g1, g2⟩ := h g l R (by rw [e2]; exact h1) h2
  exact ⟨g1, g2.eq e2⟩
def OkItM (P : Program) (f : FuncId) (F : ItC) : Prop := ∀ l R, F l = some R → okP R.pre → Enters P f ∧ ∃ U, R.mu = some U ∧ ∀ x c l', c.length = U.pos → l = c ++ .px 1 0 (fun _ => .v x) :: l' → MuOk P F f c l' R.m U.ty x
def addM (it : It) (f : FuncId) (F : ItC) : It := fun g l => bif Nat.beq g f then F l else it g l
theorem ValidIt.addM {P : Program} {it : It} {f : FuncId} {F : ItC} (h : ValidIt P it) (hF : OkItM P f F) : ValidIt P (addM it f F) := by
 intro g l R h1 h2
 cases e : Nat.beq g f with
 | true =>
  have e2 : F = Ev.addM it f F g := by funext l; unfold Ev.addM; rw [e]; rfl
  obtain ⟨g1, U, g2, g3⟩ := hF l R (by rw [e2]; exact h1) h2
  rw [Nat.eq_of_beq_eq_true e] at e2 ⊢
  refine ⟨g1, ?_⟩
  unfold ItOk
  rw [g2, ← e2]
  exact g3
 | false =>
  have e2 : it g = Ev.addM it f F g := by funext l; unfold Ev.addM; rw [e]; rfl
  obtain ⟨g1, g2⟩ := h g l R (by rw [e2]; exact h1) h2
  exact ⟨g1, g2.eq e2⟩
theorem OkIt.it {P : Program} {T : Tab} {S : Sum} (hT : TabOK P T) (hS : Valid P S) {ann : Ann} {f : FuncId} {fn : Func} (hf : P.funcs[f]? = some fn) (hn : (fn.name == "runtime.NumGoroutine") = false) {F : ItC}
  (h : ∀ l R, F l = some R → okP R.pre → ∃ al, R.bd = false ∧ LeC l al ∧ okIt ann (keepOf 1 al) fn = true ∧ al.length + 1 ≤ fn.ntmps ∧ (∀ i, (R.y i).length = R.m ∧ okBTs (R.y i) = true) ∧ ∀ l0, ∃ J : Inv, evIt P T S ann J l0 R.n R.y (keepOf 1 al) fn (al.map fun x => .t (.c x)) ∧ AllY J (loopsIt P T S ann J l0 R.n R.y (keepOf 1 al) fn)) : OkIt P f F := by
 intro l R h1 h2
 obtain ⟨al, g0, g1, g2, g3, g4, g5⟩ := h l R h1 h2
 have hb : fn.body.isNone = false := by
  unfold okIt at g2
  simp only [Bool.and_eq_true] at g2
  cases e : fn.body with
  | none => rw [e] at g2; cases g2.2
  | some c => rfl
 exact ⟨Enters.of hf hn hb, fun i _ => g4 i, fun w N vs hv => by rw [g0]; exact (it_sound hT hS hf g2 g3 g5 w N vs (g1 w N vs hv)).weak fun A B h => h.1⟩
def numsB : Nat → (Nat → CV) → Bool
 | 0, _ => true
 | n + 1, c => (match c n with
  | .v (.int .i64 _) => true
  | _ => false) && numsB n c
theorem numsB_get : ∀ {n : Nat} {c : Nat → CV}, numsB n c = true → ∀ j, j < n → c j = .v (.int .i64 (cvInt (c j)))
 | 0, _, _, j, hj => absurd hj (Nat.not_lt_zero _)
 | n + 1, c, h, j, hj => by
  simp only [numsB, Bool.and_eq_true] at h
  by_cases e : j = n
  ·subst e
   have h1 := h.1
   split at h1
   ·rename_i x hx
    rw [hx]; rfl
   ·cases h1
  ·exact numsB_get h.2 j (by omega)
theorem RelF.px_eq {w : World} {N : Nat → Prop} {n off : Nat} {c c' : Nat → CV} {v : Value} (hc : ∀ j, j < n → c j = c' j) (h : RelF w N (.px n off c) v) : RelF w N (.px n off c') v := by
 obtain ⟨b, o, g1, g2, g3, g4⟩ := h
 refine ⟨b, o, g1, g2, g3, fun j hj => ?_⟩
 obtain ⟨x, e1, e2⟩ := g4 j hj
 exact ⟨x, e1, by rw [← hc j hj]; exact e2⟩
@[reducible] def pxL (n : Nat) (c : Nat → CV) : List CV := (List.range n).map fun j => .v (.int .i64 (cvInt (c j)))
end Go.Proofs.YtfadkjcfjkmalaaGreatDoor.Ev
set_option linter.unusedVariables false
set_option linter.unusedSimpArgs false
namespace Go.Proofs.YtfadkjcfjkmalaaGreatDoor.Ev
open Go.RowKit
def LeC1 (a b : CV) : Prop := ∀ w N v, RelF w N a v → RelF w N b v
def LeCs : List CV → List CV → Prop
 | [], [] => True
 | a :: l, b :: m => LeC1 a b ∧ LeCs l m
 | _, _ => False
theorem LeCs.all {w : World} {N : Nat → Prop} : ∀ {l m : List CV} {vs : List Value}, LeCs l m → All2 (RelF w N) l vs → All2 (RelF w N) m vs
 | [], [], _, _, h => h
 | _ :: _, _ :: _, v :: vs, g, h => ⟨g.1 w N v h.1, LeCs.all g.2 h.2⟩
 | [], _ :: _, _, g, _ => g.elim
 | _ :: _, [], _, g, _ => g.elim
 | _ :: _, _ :: _, [], _, h => h.elim
theorem LeCs.nil : LeCs [] [] := trivial
theorem LeCs.cons {a b : CV} {l m : List CV} (h : LeC1 a b) (g : LeCs l m) : LeCs (a :: l) (b :: m) := ⟨h, g⟩
theorem LeC1.refl (a : CV) : LeC1 a a := fun _ _ _ h => h
theorem leT_f {f : FuncId} {l m : List CV} (h : LeCs l m) : LeD (.t (.fn f l)) (.t (.fn f m)) := by
 rintro w N v ⟨vs, e, g⟩
 exact ⟨vs, e, h.all g⟩
theorem leT_c {a b : CV} (h : LeC1 a b) : LeD (.t (.c a)) (.t (.c b)) := fun w N v g => h w N v g
theorem leC_i {a : CV} (h : a = .v (.int .i64 (cvInt a))) : LeC1 a (.v (.int .i64 (cvInt a))) := by rw [← h]; exact LeC1.refl a
theorem LeCs.get : ∀ {l m : List CV} {j : Nat} {a : CV}, LeCs l m → l[j]? = some a → ∃ b, m[j]? = some b ∧ LeC1 a b
 | a :: l, b :: m, 0, x, h, e => by
  simp at e; subst e; exact ⟨b, by simp, h.1⟩
 | a :: l, b :: m, j + 1, x, h, e => by
  simp at e
  obtain ⟨y, h1, h2⟩ := LeCs.get h.2 e
  exact ⟨y, by simpa using h1, h2⟩
 | [], [], _, _, _, e => by simp at e
 | [], _ :: _, _, _, h, _ => h.elim
 | _ :: _, [], _, _, h, _ => h.elim
theorem leC_p {n : Nat} {c : Nat → CV} {l : List CV} (h : LeCs (fwd c 0 n) l) : LeC1 (.px n 0 c) (.px n 0 (boxC l)) := by
 rintro w N v ⟨b, o, g1, g2, g3, g4⟩
 refine ⟨b, o, g1, g2, g3, fun j hj => ?_⟩
 obtain ⟨x, e1, e2⟩ := g4 j hj
 refine ⟨x, e1, ?_⟩
 have e3 : (fwd c 0 n)[j]? = some (c j) := by rw [fwd_get, if_pos hj, Nat.zero_add]
 obtain ⟨y, k1, k2⟩ := h.get e3
 have e4 : boxC l j = y := by simp [boxC, List.getD, k1]
 rw [e4]
 exact k2 w N x e2
def intsB : List Nat → (Nat → CV) → Bool
 | [], _ => true
 | j :: l, c => (match c j with
  | .v (.int .i64 _) => true
  | _ => false) && intsB l c
theorem intsB_get : ∀ {l : List Nat} {c : Nat → CV}, intsB l c = true → ∀ j ∈ l, c j = .v (.int .i64 (cvInt (c j)))
 | k :: l, c, h, j, hj => by
  simp only [intsB, Bool.and_eq_true] at h
  rcases List.mem_cons.1 hj with e | e
  ·subst e
   have h1 := h.1
   split at h1
   ·rename_i x hx
    rw [hx]; rfl
   ·cases h1
  ·exact intsB_get h.2 j e
def addF (S : Sum) (f : FuncId) (F : Con) : Sum := fun g args => bif Nat.beq g f then (match F args with
 | some r => some r
 | none => S g args) else S g args
theorem Valid.addF {P : Program} {S : Sum} {f : FuncId} {F : Con} (h : Valid P S) (hF : Ok P f F) : Valid P (Ev.addF S f F) := by
 intro g args r pre fresh h1 h2
 unfold Ev.addF at h1
 cases e : Nat.beq g f with
 | true =>
  rw [e] at h1
  simp only [cond_true] at h1
  split at h1
  ·rename_i x hx
   cases h1
   rw [Nat.eq_of_beq_eq_true e]
   exact hF args r pre fresh hx h2
  ·exact h g args r pre fresh h1 h2
 | false => rw [e] at h1; exact h g args r pre fresh h1 h2
theorem leSl {sz n : Nat} {c c' : Nat → Nat → CV} (h : ∀ i j, i < n → j < sz → c i j = c' i j) : LeD (.t (.c (.sl sz n c))) (.t (.c (.sl sz n c'))) := fun w N v g => RelF.sl g h
end Go.Proofs.YtfadkjcfjkmalaaGreatDoor.Ev
set_option linter.unusedVariables false
set_option linter.unusedSimpArgs false
namespace Go.Proofs.YtfadkjcfjkmalaaGreatDoor.Ev
open Go.RowKit
variable {w0 : World} {N0 : Nat → Prop} {Z : Pins} {P : Program} {T : Tab} {S : Sum} {M : Map} {a : Act} {w : World}
end Go.Proofs.YtfadkjcfjkmalaaGreatDoor.Ev
set_option linter.unusedVariables false
set_option linter.unusedSimpArgs false
namespace Go.Proofs.YtfadkjcfjkmalaaGreatDoor.Ev
open Go.RowKit
variable {w0 : World} {N0 : Nat → Prop} {Z : Pins} {P : Program} {T : Tab} {S : Sum} {M : Map} {a : Act} {w : World}
theorem flatT_F {w w' : World} {N N' : Nat → Prop} {M : Map} : ∀ {x : TV} {v : Value}, flatT x = true → RelT (RelC w N M) x v → RelT (RelF w' N') x v
 | .c x, _, h, g => flatC_F h g
 | .a l, _, h, ⟨vs, e, g⟩ => ⟨vs, e, flatCs_F h g⟩
 | .fn f l, _, h, ⟨vs, e, g⟩ => ⟨vs, e, flatCs_F h g⟩
 | .fb f l, _, h, ⟨vs, e, g⟩ => ⟨vs, e, flatCs_F h g⟩
theorem flatTs_F {w w' : World} {N N' : Nat → Prop} {M : Map} : ∀ {l : List TV} {vs : List Value}, flatTs l = true → All2 (RelT (RelC w N M)) l vs → All2 (RelT (RelF w' N')) l vs
 | [], [], _, _ => trivial
 | x :: l, v :: vs, h, g => by
  simp only [flatTs, Bool.and_eq_true] at h
  exact ⟨flatT_F h.1 g.1, flatTs_F h.2 g.2⟩
 | [], _ :: _, _, g => g.elim
 | _ :: _, [], _, g => g.elim
theorem flatD_F {w w' : World} {N N' : Nat → Prop} {M : Map} {x : DV} {v : Value} (h : flatD x = true) (g : RelD (RelC w N M) x v) : RelD (RelF w' N') x v := by
 cases x with
 | t x => exact flatT_F h g
 | tu l => obtain ⟨vs, e, g⟩ := g; exact ⟨vs, e, flatTs_F h g⟩
def okFnW (ann : Ann) (fn : Func) : Bool := match fn.body with
 | some c => okCode ann c && flatB ann true true c 0
 | none => false
end Go.Proofs.YtfadkjcfjkmalaaGreatDoor.Ev
set_option linter.unusedVariables false
set_option linter.unusedSimpArgs false
namespace Go.Proofs.YtfadkjcfjkmalaaGreatDoor.Ev
open Go.RowKit
variable {w0 : World} {N0 : Nat → Prop} {Z : Pins} {P : Program} {T : Tab} {S : Sum} {M : Map} {a : Act} {w : World}
def twoM (A B : Nat) : Map := fun j => match j with
 | 0 => some (.box A)
 | 1 => some (.box B)
 | _ => none
theorem twoM_some {A B j : Nat} {l : Loc} (h : twoM A B j = some l) : (j = 0 ∧ l = .box A) ∨ (j = 1 ∧ l = .box B) := by
 unfold twoM at h
 split at h
 ·cases h; exact Or.inl ⟨rfl, rfl⟩
 ·cases h; exact Or.inr ⟨rfl, rfl⟩
 ·cases h
def pin2 (W : World) (A B : Nat) : Pins := ⟨fun b o => b ≠ A ∧ b ≠ B ∧ W.heap[b]? = some o, fun _ => False, twoM A B, W.heap.size⟩
def start2 (args : List DV) (n : Nat) (RA RB : Row) : DS := ⟨args.map some ++ List.replicate (n - args.length) (some noV), some RA :: some RB :: List.replicate (n - 2) none⟩
def ptrL (n : Nat) : List CV := (List.range n).map fun i => .p 1 i
theorem fn_core2 (hm : P.follows .mixedOrders = true) (hT : TabOK P T) (hS : Valid P S) {ann : Ann} (hI : ValidIt P ann.it) {J : Inv} {f : FuncId} {fn : Func} (hf : P.funcs[f]? = some fn) {c : Code} (hb : fn.body = some c) (hok : okCode ann c = true ∧ flatB ann true true c 0 = true) {args : List DV} {tya ty : TypeId} {ps cs : List CV} {K : DS → Prop} (h : ev P T S ann J c 0 [] K (fun _ _ => False) K (start2 args fn.ntmps (.box tya ps) (.box ty cs))) (hlen : args.length ≤ fn.ntmps) (hk : 2 ≤ fn.ntmps)
  (W : World) (N : Nat → Prop) (vs : List Value) (A B : Nat) (hAB : A ≠ B) (hG : Gd (cutW W (min A B))) (pc cells : Array Value) (hA : W.heap[A]? = some (.cells pc tya (0, 0))) (hB : W.heap[B]? = some (.cells cells ty (0, 0))) (hps : All2 (RelC W (fgn (cutW W (min A B)) N (twoM A B)) (twoM A B)) ps pc.toList) (hcs : All2 (RelC W (fgn (cutW W (min A B)) N (twoM A B)) (twoM A B)) cs cells.toList) (hargs : All2 (RelD (RelC W (fgn (cutW W (min A B)) N (twoM A B)) (twoM A B))) args vs) {R : Ending → World → Prop}
  (hret : ∀ M' st' a' w', K st' → Abs (cutW W (min A B)) N (pin2 W A B) M' st' a' w' → ∃ v, (results fn a'.tmps).run P w' = .ok v w' ∧ R (.returned v) w') : Calls P f vs.toArray W R := by
 have hvl := hargs.length
 have hAs : A < W.heap.size := (Array.getElem?_eq_some_iff.1 hA).1
 have hBs : B < W.heap.size := (Array.getElem?_eq_some_iff.1 hB).1
 have hms : min A B < W.heap.size := by omega
 have hat : ∀ j r, (start2 args fn.ntmps (.box tya ps) (.box ty cs)).at j = some r → (j = 0 ∧ r = .box tya ps) ∨ (j = 1 ∧ r = .box ty cs) := by
  intro j r hj
  unfold DS.at start2 at hj
  simp only at hj
  match j, hj with
  | 0, hj => simp at hj; exact Or.inl ⟨rfl, hj.symm⟩
  | 1, hj => simp at hj; exact Or.inr ⟨rfl, hj.symm⟩
  | j + 2, hj =>
   simp only [List.getElem?_cons_succ, List.getElem?_replicate] at hj
   split at hj <;> cases hj
 have hstart : Abs (cutW W (min A B)) N (pin2 W A B) (twoM A B) (start2 args fn.ntmps (.box tya ps) (.box ty cs)) { tmps := vs.toArray ++ Array.replicate (fn.ntmps - vs.toArray.size) undef, defers := [] } W := by
  refine ⟨?_, by simp [start2, hvl], Marks.nil hG, fun i dv hi => ?_, fun j r hr => ?_, fun j hj => ?_, fun j l b h1 h2 => ?_, fun j j' r r' l l' b _ _ _ _ h1 h2 h3 h4 => ?_, fun b o hp => ?_, (fun _ h => h.elim), (fun _ _ h => h), (fun _ h => by cases h)⟩
  ·rw [cutW_size hms]
   refine ⟨rfl, rfl, rfl, ?_, fun j hj => ?_⟩
   ·rw [cutW_size hms]; omega
   ·simp only [cutW, Array.getElem?_extract]
    rw [if_pos (by omega)]; simp
  ·unfold DS.tm start2 at hi
   simp only at hi
   by_cases hlt : i < args.length
   ·rw [List.getElem?_append_left (by simpa using hlt), List.getElem?_map] at hi
    have e1 : args[i]? = some dv := by
     cases e : args[i]? with
     | none => rw [e] at hi; cases hi
     | some x => rw [e] at hi; simpa using hi
    obtain ⟨v, e2, e3⟩ := hargs.get e1
    refine ⟨v, ?_, e3⟩
    rw [Array.getElem?_append_left (by simp; omega)]
    simpa using e2
   ·rw [List.getElem?_append_right (by simpa using hlt), List.getElem?_replicate] at hi
    split at hi
    ·rename_i h2
     simp only [Option.join_some, Option.some.injEq] at hi
     subst hi
     simp only [List.length_map] at h2
     refine ⟨undef, ?_, [], rfl, trivial⟩
     rw [Array.getElem?_append_right (by simp; omega), Array.getElem?_replicate, if_pos (by simp; omega)]
    ·cases hi
  ·rcases hat j r hr with ⟨rfl, rfl⟩ | ⟨rfl, rfl⟩
   ·exact ⟨A, pc, rfl, hA, hps⟩
   ·exact ⟨B, cells, rfl, hB, hcs⟩
  ·match j, hj with
   | 0, hj => simp [DS.at, start2] at hj
   | 1, hj => simp [DS.at, start2] at hj
   | j + 2, _ => rfl
  ·rw [cutW_size hms]
   rcases twoM_some h1 with ⟨_, rfl⟩ | ⟨_, rfl⟩ <;> (cases h2; omega)
  ·rcases twoM_some h1 with ⟨rfl, rfl⟩ | ⟨rfl, rfl⟩ <;> rcases twoM_some h2 with ⟨rfl, rfl⟩ | ⟨rfl, rfl⟩
   ·rfl
   ·cases h3; cases h4; exact absurd rfl hAB
   ·cases h3; cases h4; exact absurd rfl hAB
   ·rfl
  ·refine ⟨hp.2.2, fun j l h1 h2 => ?_⟩
   rcases twoM_some h1 with ⟨_, rfl⟩ | ⟨_, rfl⟩
   ·cases h2; exact hp.1 rfl
   ·cases h2; exact hp.2.1 rfl
 have hleave : ∀ (ds : List Deferred) (M' : Map) (st' : DS) (a' : Act) (w' : World), a'.defers = ds → K st' → Abs (cutW W (min A B)) N (pin2 W A B) M' st' a' w' → LeavesInM Fence.wide 0 P fn a'.tmps R ds .returning w' := by
  intro ds
  induction ds with
  | nil =>
   intro M' st' a' w' _ hk ha'
   exact hret M' st' a' w' hk ha'
  | cons d ds ih =>
   intro M' st' a' w' hd hk ha'
   obtain ⟨D, h1, h2, h3, h4⟩ := ha'.defs.1 d (by rw [hd]; simp)
   have h5 : W.heap.size ≤ D := ha'.lim d (by rw [hd]; simp) D h1
   refine ⟨by simp, Or.inl ⟨D, _, by rw [h1], run_takeDeferred h3, ?_⟩⟩
   have hm2 := ha'.defs
   rw [hd] at hm2
   have ha2 : Abs (cutW W (min A B)) N (pin2 W A B) M' st' { a' with defers := ds } w' := ⟨ha'.below, ha'.fits, ⟨fun d' hd' => hm2.1 d' (by simp [hd']), (List.pairwise_cons.1 hm2.2.1).2, hm2.2.2⟩, ha'.tmp, ha'.row, ha'.dom, ha'.own, ha'.apart, ha'.pinB, ha'.pinN, ha'.pinK, fun d' hd' => ha'.lim d' (by rw [hd]; exact List.mem_cons_of_mem _ hd')⟩
   refine ih M' st' { a' with defers := ds } _ rfl hk (ha2.grownN (grownBy_putObj' w' D _) fun r e => ?_)
   cases e
   exact ⟨h2, ⟨_, h3, rfl⟩, fun o ho => by have := (Array.getElem?_eq_some_iff.1 ho.2.2).1; omega, fun d' hd' e => (List.pairwise_cons.1 hm2.2.1).1 d' hd' (by rw [e, h1])⟩
 refine (callsIn_wide (n := 0)).1 (callsIn_of_wp_marks hf hb trivial ?_)
 refine ev_sound hm hT hS hI c (ro := none) (q := true) (u := true) (Kn := fun _ => K) (Ke := fun _ _ _ => False) (Kr := fun _ => K) (fun h => by cases h) hok.1 hok.2 (Or.inl rfl) hstart (fun M' st' a' w' hk ha' => ?_) (fun i M' st' a' w' hk _ => hk.elim) (fun M' st' a' w' hk ha' => ?_) h
 ·exact hleave _ M' st' a' w' rfl hk ha'
 ·exact hleave _ M' st' a' w' rfl hk ha'
def retKS (T : Tab) (fn : Func) (tya ty n : Nat) (post : DV → List CV → Prop) (st : DS) : Prop := match resE T st fn.results.toList with
 | some (d, p) => match st.at 0, st.at 1 with
  | some (.box tya' ps), some (.box ty' cs) => match ptrsK 0 ps with
   | some k => bif Nat.beq k 1 && (Nat.beq ps.length n && (Nat.beq tya' tya && (Nat.beq ty' ty && (flatD d && flatCs cs)))) then (match p with
    | none => post d cs
    | some p => p ∧ post d cs) else False
   | none => False
  | _, _ => False
 | none => False
def evFnS (P : Program) (T : Tab) (S : Sum) (ann : Ann) (J : Inv) (fn : Func) (x : DV) (tya ty n : Nat) (cs : List CV) (post : DV → List CV → Prop) : Prop := match fn.body with
 | some c => ev P T S ann J c 0 [] (retKS T fn tya ty n post) (fun _ _ => False) (retKS T fn tya ty n post) (start2 [x, .t (.c (.ob 0 0 1 n))] fn.ntmps (.box tya (ptrL n)) (.box ty cs))
 | none => False
theorem fn_soundS (hm : P.follows .mixedOrders = true) (hT : TabOK P T) (hS : Valid P S) {ann : Ann} (hI : ValidIt P ann.it) {J : Inv} {f : FuncId} {fn : Func} (hf : P.funcs[f]? = some fn) (hok : okFnW ann fn = true) {x : DV} {tya ty n : Nat} {cs : List CV} {post : DV → List CV → Prop} (h : evFnS P T S ann J fn x tya ty n cs post) (hlen : 2 ≤ fn.ntmps)
  (W : World) (N : Nat → Prop) (v0 : Value) (A B cap : Nat) (hAB : A ≠ B) (hG : Gd (cutW W (min A B))) (hcap : n ≤ cap) (hmax : cap ≤ maxLen) (pc cells : Array Value) (hA : W.heap[A]? = some (.cells pc tya (0, 0))) (hpc : pc.toList = (List.range n).map fun i => Value.pointer (some ⟨B, i, none⟩)) (hB : W.heap[B]? = some (.cells cells ty (0, 0))) (hcs : All2 (RelC W (fgn (cutW W (min A B)) N (twoM A B)) (twoM A B)) cs cells.toList) (hx : RelD (RelC W (fgn (cutW W (min A B)) N (twoM A B)) (twoM A B)) x v0) :
  Calls P f #[v0, .slice (some ⟨A, 0, none⟩) n cap] W fun e w' => ∃ v r cs' cells', e = .returned v ∧ post r cs' ∧ flatD r = true ∧ flatCs cs' = true ∧ RelD (RelF w' (fun _ => False)) r v ∧ w'.heap[B]? = some (.cells cells' ty (0, 0)) ∧ All2 (RelF w' (fun _ => False)) cs' cells'.toList ∧ FrameB W B w' := by
 unfold evFnS at h
 unfold okFnW at hok
 have hBs : B < W.heap.size := (Array.getElem?_eq_some_iff.1 hB).1
 have hAs : A < W.heap.size := (Array.getElem?_eq_some_iff.1 hA).1
 cases hb : fn.body with
 | none => rw [hb] at h; exact h.elim
 | some c =>
 rw [hb] at h hok
 simp only at h hok
 simp only [Bool.and_eq_true] at hok
 have hps : All2 (RelC W (fgn (cutW W (min A B)) N (twoM A B)) (twoM A B)) (ptrL n) pc.toList := by
  rw [hpc]
  refine All2.of_get (by simp [ptrL]) fun i a v ha hv => ?_
  unfold ptrL at ha
  rw [List.getElem?_map] at ha hv
  cases e : (List.range n)[i]? with
  | none => rw [e] at ha; cases ha
  | some m =>
   rw [e] at ha hv
   simp only [Option.map_some, Option.some.injEq] at ha hv
   subst ha hv
   exact ⟨B, rfl, rfl⟩
 refine fn_core2 (vs := [v0, .slice (some ⟨A, 0, none⟩) n cap]) hm hT hS hI hf hb hok h hlen hlen W N A B hAB hG pc cells hA hB hps hcs ⟨hx, Or.inl ⟨A, cap, rfl, rfl, hcap, hmax⟩, trivial⟩ fun M' st' a' w' hK ha' => ?_
 unfold retKS at hK
 split at hK
 rotate_left
 ·exact hK.elim
 rename_i d p hres
 split at hK
 rotate_left
 ·exact hK.elim
 rename_i tya' ps ty' cs' hrowA hrow
 split at hK
 rotate_left
 ·exact hK.elim
 rename_i k hptr
 cases hq : (Nat.beq k 1 && (Nat.beq ps.length n && (Nat.beq tya' tya && (Nat.beq ty' ty && (flatD d && flatCs cs'))))) with
 | false => rw [hq] at hK; exact hK.elim
 | true =>
 rw [hq] at hK
 simp only [Bool.and_eq_true] at hq
 obtain ⟨r1, r2, r3, q1, q2, q3⟩ := hq
 have r1 := Nat.eq_of_beq_eq_true r1
 have r2 := Nat.eq_of_beq_eq_true r2
 have r3 := Nat.eq_of_beq_eq_true r3
 have q1 := Nat.eq_of_beq_eq_true q1
 subst q1 r1 r3
 have hK' : okP p ∧ post d cs' := by
  cases p with
  | none => exact ⟨trivial, hK⟩
  | some p => exact hK
 obtain ⟨v, g1, g2⟩ := resE_run hT ha' hres hK'.1
 obtain ⟨b, cells', e1, e2, e3⟩ := ha'.row 1 _ hrow
 have e4 : M' 1 = some (.box B) := ha'.pinK 1 _ rfl
 rw [e4] at e1
 cases e1
 obtain ⟨b0, pc', f1, f2, f3⟩ := ha'.row 0 _ hrowA
 have f4 : M' 0 = some (.box A) := ha'.pinK 0 _ rfl
 rw [f4] at f1
 cases f1
 have hpc' : pc' = pc := by
  apply Array.ext'
  rw [hpc]
  have hp2 := ptrsK_ok hptr
  rw [r2] at hp2
  rw [hp2] at f3
  have hl : pc'.toList.length = n := by rw [← f3.length]; simp
  apply List.ext_getElem (by simp [hl])
  intro i h1 h2
  have hi : i < n := by omega
  have e1 : ((List.range n).map fun j => CV.p 1 (0 + j))[i]? = some (.p 1 (0 + i)) := by simp [hi]
  obtain ⟨u, e5, e6⟩ := f3.get e1
  obtain ⟨b2, e7, e8⟩ := e6
  rw [e4] at e7
  cases e7
  rw [List.getElem?_eq_getElem h1] at e5
  simp only [Option.some.injEq] at e5
  rw [e5, e8]
  simp
 subst hpc'
 have hpin : ∀ b, b < W.heap.size → b ≠ B → w'.heap[b]? = W.heap[b]? := fun b hb hn => by
  by_cases hbA : b = A
  ·rw [hbA, f2, hA]
  ·have e5 : W.heap[b]? = some W.heap[b] := Array.getElem?_eq_getElem hb
   rw [e5]; exact (ha'.pinB b _ ⟨hbA, hn, e5⟩).1
 have hBw : B < w'.heap.size := (Array.getElem?_eq_some_iff.1 e2).1
 refine ⟨v, g1, v, d, cs', cells', rfl, hK'.2, q2, q3, flatD_F q2 g2, e2, flatCs_F q3 e3, ha'.below.os, ha'.below.tape, ha'.below.output, ?_, hpin⟩
 by_cases e6 : W.heap.size - 1 = B
 ·omega
 ·have e7 : W.heap.size - 1 < W.heap.size := by omega
  have e8 := hpin _ e7 e6
  rw [Array.getElem?_eq_getElem e7] at e8
  have := (Array.getElem?_eq_some_iff.1 e8).1
  omega
theorem Ok.fnS (hm : P.follows .mixedOrders = true) (hT : TabOK P T) (hS : Valid P S) {ann : Ann} (hI : ValidIt P ann.it) {f : FuncId} {fn : Func} (hf : P.funcs[f]? = some fn) (hn : (fn.name == "runtime.NumGoroutine") = false) (hok : okFnW ann fn = true) {F : Con}
  (h : ∀ args r pre fresh, F args = some (r, pre, fresh) → okP pre → ∃ x n c tya ty cs', fresh = .wrs tya ty cs' ∧ args = [x, .t (.c (.px n 0 c))] ∧ flatCs ((List.range n).map c) = true ∧ 2 ≤ fn.ntmps ∧ flatD r = true ∧
   ∃ (J : Inv) (x2 : DV), (∀ w N v, RelD (RelF w N) x v → RelD (RelF w N) x2 v) ∧ evFnS P T S ann J fn x2 tya ty n ((List.range n).map c) (fun r' cs => LeD r' r ∧ cs = cs')) : Ok P f F := by
 intro args r pre fresh h1 h2
 obtain ⟨x, n, c, tya, ty, cs', rfl, rfl, hfl, hnt, hfr, J, x2, g3, g5⟩ := h args r pre fresh h1 h2
 have hb : fn.body.isNone = false := by
  unfold okFnW at hok
  cases e : fn.body with
  | none => rw [e] at hok; cases hok
  | some c => rfl
 refine ⟨Enters.of hf hn hb, fun W N vs _ hv => ?_⟩
 obtain ⟨x', n', c', v0, A, cap, pc, B, cells, ea, rfl, hcap, hmax, h0, hAB, hA, hpc, hB, hcl, hx, hG⟩ := hv
 simp only [List.cons.injEq, and_true, DV.t.injEq, TV.c.injEq, CV.px.injEq, true_and] at ea
 obtain ⟨rfl, rfl, rfl⟩ := ea
 have hN : ∀ b, (N b ∧ b ≠ A ∧ b ≠ B) → fgn (cutW W (min A B)) N (twoM A B) b := fun b hb => ⟨fun _ => hb.1, fun k l h3 h4 => by
  rcases twoM_some h3 with ⟨_, rfl⟩ | ⟨_, rfl⟩
  ·cases h4; exact hb.2.1 rfl
  ·cases h4; exact hb.2.2 rfl⟩
 have hcs : All2 (RelC W (fgn (cutW W (min A B)) N (twoM A B)) (twoM A B)) ((List.range n).map c) cells.toList := flatCs_rel hfl hcl
 refine Calls.mono (fn_soundS hm hT hS hI hf hok g5 hnt W N v0 A B cap hAB hG hcap hmax pc cells hA hpc hB hcs (RelD.mono (fun y u g => RelC.ofF (g.all hN)) (g3 _ _ _ hx))) ?_
 rintro e w' ⟨v, r', cs2, cells', rfl, ⟨p1, rfl⟩, p2, p3, p4, p5, p6, p7⟩
 have hp0 : pc[0]? = some (.pointer (some ⟨B, 0, none⟩)) := by
  have : pc.toList[0]? = some (.pointer (some ⟨B, 0, none⟩)) := by rw [hpc]; simp [h0]
  simpa using this
 exact ⟨v, rfl, ⟨hfr, p3, p1 _ _ _ p4⟩, A, n, cap, pc, B, cells', rfl, hA, hp0, p5, p6, p7⟩
end Go.Proofs.YtfadkjcfjkmalaaGreatDoor.Ev
set_option linter.unusedVariables false
namespace Go.Proofs.YtfadkjcfjkmalaaGreatDoor
open Go.RowKit Ev
def tabL : List (Nat × TyI) := [(3, ⟨.nm .i64, 1, 8, [.int .i64 0], true⟩),
 (4, ⟨.bl, 1, 1, [.bool false], true⟩),
 (5, ⟨.nm .u8, 1, 1, [.int .u8 0], true⟩),
 (9, ⟨.str, 1, 16, [.string ⟨#[]⟩], true⟩),
 (21, ⟨.nm .i32, 1, 4, [.int .i32 0], true⟩),
 (22, ⟨.sl 57, 1, 24, [.slice none 0 0], false⟩),
 (23, ⟨.ar 3 3, 3, 24, [.int .i64 0, .int .i64 0, .int .i64 0], true⟩),
 (25, ⟨.st [(0, 23), (3, 23)], 6, 48, [.int .i64 0, .int .i64 0, .int .i64 0, .int .i64 0, .int .i64 0, .int .i64 0], true⟩),
 (31, ⟨.nm .i64, 1, 8, [.int .i64 0], true⟩),
 (45, ⟨.st [(0, 3), (1, 3)], 2, 16, [.int .i64 0, .int .i64 0], true⟩),
 (47, ⟨.st [(0, 23), (3, 3), (4, 3), (5, 45), (7, 3), (8, 3), (9, 3), (10, 3), (11, 3)], 12, 96, [.int .i64 0, .int .i64 0, .int .i64 0, .int .i64 0, .int .i64 0, .int .i64 0, .int .i64 0, .int .i64 0, .int .i64 0, .int .i64 0, .int .i64 0, .int .i64 0], true⟩),
 (48, ⟨.sl 23, 1, 24, [.slice none 0 0], false⟩),
 (49, ⟨.sl 3, 1, 24, [.slice none 0 0], false⟩),
 (51, ⟨.st [(0, 48), (1, 49)], 2, 48, [.slice none 0 0, .slice none 0 0], false⟩),
 (57, ⟨.st [(0, 23), (3, 3), (4, 3)], 5, 40, [.int .i64 0, .int .i64 0, .int .i64 0, .int .i64 0, .int .i64 0], true⟩),
 (59, ⟨.st [(0, 25), (6, 22)], 7, 72, [.int .i64 0, .int .i64 0, .int .i64 0, .int .i64 0, .int .i64 0, .int .i64 0, .slice none 0 0], false⟩),
 (69, ⟨.sl 25, 1, 24, [.slice none 0 0], false⟩),
 (74, ⟨.st [(0, 69), (1, 3)], 2, 32, [.slice none 0 0, .int .i64 0], false⟩),
 (79, ⟨.st [(0, 3), (1, 3)], 2, 16, [.int .i64 0, .int .i64 0], true⟩),
 (83, ⟨.sl 9, 1, 24, [.slice none 0 0], false⟩),
 (90, ⟨.oth, 1, 8, [.pointer none], false⟩),
 (99, ⟨.oth, 1, 8, [.nilFunc], false⟩),
 (106, ⟨.st [(0, 47)], 12, 96, [.int .i64 0, .int .i64 0, .int .i64 0, .int .i64 0, .int .i64 0, .int .i64 0, .int .i64 0, .int .i64 0, .int .i64 0, .int .i64 0, .int .i64 0, .int .i64 0], true⟩),
 (107, ⟨.ar 3 3, 3, 24, [.int .i64 0, .int .i64 0, .int .i64 0], true⟩),
 (120, ⟨.st [(0, 107), (3, 3)], 4, 32, [.int .i64 0, .int .i64 0, .int .i64 0, .int .i64 0], true⟩),
 (122, ⟨.oth, 1, 8, [.pointer none], false⟩),
 (127, ⟨.st [(0, 3), (1, 3)], 2, 16, [.int .i64 0, .int .i64 0], true⟩),
 (134, ⟨.oth, 1, 8, [.nilFunc], false⟩),
 (141, ⟨.oth, 1, 8, [.pointer none], false⟩),
 (142, ⟨.sl 5, 1, 24, [.slice none 0 0], false⟩),
 (144, ⟨.st [(0, 141), (1, 142)], 2, 32, [.pointer none, .slice none 0 0], false⟩),
 (152, ⟨.sl 90, 1, 24, [.slice none 0 0], false⟩),
 (160, ⟨.sl 31, 1, 24, [.slice none 0 0], false⟩),
 (164, ⟨.st [(0, 23), (3, 3)], 4, 32, [.int .i64 0, .int .i64 0, .int .i64 0, .int .i64 0], true⟩),
 (167, ⟨.ar 2 25, 12, 96, [.int .i64 0, .int .i64 0, .int .i64 0, .int .i64 0, .int .i64 0, .int .i64 0, .int .i64 0, .int .i64 0, .int .i64 0, .int .i64 0, .int .i64 0, .int .i64 0], true⟩),
 (175, ⟨.oth, 1, 8, [.pointer none], false⟩),
 (184, ⟨.nm .u64, 1, 8, [.int .u64 0], true⟩),
 (199, ⟨.ar 4 3, 4, 32, [.int .i64 0, .int .i64 0, .int .i64 0, .int .i64 0], true⟩),
 (202, ⟨.nm .u64, 1, 8, [.int .u64 0], true⟩),
 (209, ⟨.st [(0, 5), (1, 5)], 2, 2, [.int .u8 0, .int .u8 0], false⟩),
 (210, ⟨.ar 16 209, 32, 32, [.int .u8 0, .int .u8 0, .int .u8 0, .int .u8 0, .int .u8 0, .int .u8 0, .int .u8 0, .int .u8 0, .int .u8 0, .int .u8 0, .int .u8 0, .int .u8 0, .int .u8 0, .int .u8 0, .int .u8 0, .int .u8 0, .int .u8 0, .int .u8 0, .int .u8 0, .int .u8 0, .int .u8 0, .int .u8 0, .int .u8 0, .int .u8 0, .int .u8 0, .int .u8 0, .int .u8 0, .int .u8 0, .int .u8 0, .int .u8 0, .int .u8 0, .int .u8 0], false⟩),
 (221, ⟨.nm .u32, 1, 4, [.int .u32 0], true⟩),
 (229, ⟨.st [(0, 9)], 1, 16, [.string ⟨#[]⟩], false⟩),
 (231, ⟨.ar 32 5, 32, 32, [.int .u8 0, .int .u8 0, .int .u8 0, .int .u8 0, .int .u8 0, .int .u8 0, .int .u8 0, .int .u8 0, .int .u8 0, .int .u8 0, .int .u8 0, .int .u8 0, .int .u8 0, .int .u8 0, .int .u8 0, .int .u8 0, .int .u8 0, .int .u8 0, .int .u8 0, .int .u8 0, .int .u8 0, .int .u8 0, .int .u8 0, .int .u8 0, .int .u8 0, .int .u8 0, .int .u8 0, .int .u8 0, .int .u8 0, .int .u8 0, .int .u8 0, .int .u8 0], true⟩)]
def tab : Tab := fun t => lookA t tabL
theorem ty3 : TyOK Tryz.prog 3 ⟨.nm .i64, 1, 8, [.int .i64 0], true⟩ := ⟨by kernel_rfl, by kernel_rfl, by kernel_rfl, fun _ => ⟨by kernel_rfl, by kernel_rfl, by kernel_rfl⟩⟩
theorem ty4 : TyOK Tryz.prog 4 ⟨.bl, 1, 1, [.bool false], true⟩ := ⟨by kernel_rfl, by kernel_rfl, by kernel_rfl, fun _ => ⟨by kernel_rfl, by kernel_rfl, by kernel_rfl⟩⟩
theorem ty5 : TyOK Tryz.prog 5 ⟨.nm .u8, 1, 1, [.int .u8 0], true⟩ := ⟨by kernel_rfl, by kernel_rfl, by kernel_rfl, fun _ => ⟨by kernel_rfl, by kernel_rfl, by kernel_rfl⟩⟩
theorem ty9 : TyOK Tryz.prog 9 ⟨.str, 1, 16, [.string ⟨#[]⟩], true⟩ := ⟨by kernel_rfl, by kernel_rfl, by kernel_rfl, fun _ => ⟨by kernel_rfl, by kernel_rfl, by kernel_rfl⟩⟩
theorem ty21 : TyOK Tryz.prog 21 ⟨.nm .i32, 1, 4, [.int .i32 0], true⟩ := ⟨by kernel_rfl, by kernel_rfl, by kernel_rfl, fun _ => ⟨by kernel_rfl, by kernel_rfl, by kernel_rfl⟩⟩
theorem ty22 : TyOK Tryz.prog 22 ⟨.sl 57, 1, 24, [.slice none 0 0], false⟩ := ⟨by kernel_rfl, by kernel_rfl, by kernel_rfl, fun h => by cases h⟩
theorem ty23 : TyOK Tryz.prog 23 ⟨.ar 3 3, 3, 24, [.int .i64 0, .int .i64 0, .int .i64 0], true⟩ := ⟨by kernel_rfl, by kernel_rfl, by kernel_rfl, fun _ => ⟨by kernel_rfl, by kernel_rfl, by kernel_rfl⟩⟩
theorem ty25 : TyOK Tryz.prog 25 ⟨.st [(0, 23), (3, 23)], 6, 48, [.int .i64 0, .int .i64 0, .int .i64 0, .int .i64 0, .int .i64 0, .int .i64 0], true⟩ := ⟨by kernel_rfl, by kernel_rfl, by kernel_rfl, fun _ => ⟨by kernel_rfl, by kernel_rfl, by kernel_rfl⟩⟩
theorem ty31 : TyOK Tryz.prog 31 ⟨.nm .i64, 1, 8, [.int .i64 0], true⟩ := ⟨by kernel_rfl, by kernel_rfl, by kernel_rfl, fun _ => ⟨by kernel_rfl, by kernel_rfl, by kernel_rfl⟩⟩
theorem ty45 : TyOK Tryz.prog 45 ⟨.st [(0, 3), (1, 3)], 2, 16, [.int .i64 0, .int .i64 0], true⟩ := ⟨by kernel_rfl, by kernel_rfl, by kernel_rfl, fun _ => ⟨by kernel_rfl, by kernel_rfl, by kernel_rfl⟩⟩
theorem ty47 : TyOK Tryz.prog 47 ⟨.st [(0, 23), (3, 3), (4, 3), (5, 45), (7, 3), (8, 3), (9, 3), (10, 3), (11, 3)], 12, 96, [.int .i64 0, .int .i64 0, .int .i64 0, .int .i64 0, .int .i64 0, .int .i64 0, .int .i64 0, .int .i64 0, .int .i64 0, .int .i64 0, .int .i64 0, .int .i64 0], true⟩ := ⟨by kernel_rfl, by kernel_rfl, by kernel_rfl, fun _ => ⟨by kernel_rfl, by kernel_rfl, by kernel_rfl⟩⟩
theorem ty48 : TyOK Tryz.prog 48 ⟨.sl 23, 1, 24, [.slice none 0 0], false⟩ := ⟨by kernel_rfl, by kernel_rfl, by kernel_rfl, fun h => by cases h⟩
theorem ty49 : TyOK Tryz.prog 49 ⟨.sl 3, 1, 24, [.slice none 0 0], false⟩ := ⟨by kernel_rfl, by kernel_rfl, by kernel_rfl, fun h => by cases h⟩
theorem ty51 : TyOK Tryz.prog 51 ⟨.st [(0, 48), (1, 49)], 2, 48, [.slice none 0 0, .slice none 0 0], false⟩ := ⟨by kernel_rfl, by kernel_rfl, by kernel_rfl, fun h => by cases h⟩
theorem ty57 : TyOK Tryz.prog 57 ⟨.st [(0, 23), (3, 3), (4, 3)], 5, 40, [.int .i64 0, .int .i64 0, .int .i64 0, .int .i64 0, .int .i64 0], true⟩ := ⟨by kernel_rfl, by kernel_rfl, by kernel_rfl, fun _ => ⟨by kernel_rfl, by kernel_rfl, by kernel_rfl⟩⟩
theorem ty59 : TyOK Tryz.prog 59 ⟨.st [(0, 25), (6, 22)], 7, 72, [.int .i64 0, .int .i64 0, .int .i64 0, .int .i64 0, .int .i64 0, .int .i64 0, .slice none 0 0], false⟩ := ⟨by kernel_rfl, by kernel_rfl, by kernel_rfl, fun h => by cases h⟩
theorem ty69 : TyOK Tryz.prog 69 ⟨.sl 25, 1, 24, [.slice none 0 0], false⟩ := ⟨by kernel_rfl, by kernel_rfl, by kernel_rfl, fun h => by cases h⟩
theorem ty74 : TyOK Tryz.prog 74 ⟨.st [(0, 69), (1, 3)], 2, 32, [.slice none 0 0, .int .i64 0], false⟩ := ⟨by kernel_rfl, by kernel_rfl, by kernel_rfl, fun h => by cases h⟩
theorem ty79 : TyOK Tryz.prog 79 ⟨.st [(0, 3), (1, 3)], 2, 16, [.int .i64 0, .int .i64 0], true⟩ := ⟨by kernel_rfl, by kernel_rfl, by kernel_rfl, fun _ => ⟨by kernel_rfl, by kernel_rfl, by kernel_rfl⟩⟩
theorem ty83 : TyOK Tryz.prog 83 ⟨.sl 9, 1, 24, [.slice none 0 0], false⟩ := ⟨by kernel_rfl, by kernel_rfl, by kernel_rfl, fun h => by cases h⟩
theorem ty90 : TyOK Tryz.prog 90 ⟨.oth, 1, 8, [.pointer none], false⟩ := ⟨by kernel_rfl, by kernel_rfl, by kernel_rfl, fun h => by cases h⟩
theorem ty99 : TyOK Tryz.prog 99 ⟨.oth, 1, 8, [.nilFunc], false⟩ := ⟨by kernel_rfl, by kernel_rfl, by kernel_rfl, fun h => by cases h⟩
theorem ty106 : TyOK Tryz.prog 106 ⟨.st [(0, 47)], 12, 96, [.int .i64 0, .int .i64 0, .int .i64 0, .int .i64 0, .int .i64 0, .int .i64 0, .int .i64 0, .int .i64 0, .int .i64 0, .int .i64 0, .int .i64 0, .int .i64 0], true⟩ := ⟨by kernel_rfl, by kernel_rfl, by kernel_rfl, fun _ => ⟨by kernel_rfl, by kernel_rfl, by kernel_rfl⟩⟩
theorem ty107 : TyOK Tryz.prog 107 ⟨.ar 3 3, 3, 24, [.int .i64 0, .int .i64 0, .int .i64 0], true⟩ := ⟨by kernel_rfl, by kernel_rfl, by kernel_rfl, fun _ => ⟨by kernel_rfl, by kernel_rfl, by kernel_rfl⟩⟩
theorem ty120 : TyOK Tryz.prog 120 ⟨.st [(0, 107), (3, 3)], 4, 32, [.int .i64 0, .int .i64 0, .int .i64 0, .int .i64 0], true⟩ := ⟨by kernel_rfl, by kernel_rfl, by kernel_rfl, fun _ => ⟨by kernel_rfl, by kernel_rfl, by kernel_rfl⟩⟩
theorem ty122 : TyOK Tryz.prog 122 ⟨.oth, 1, 8, [.pointer none], false⟩ := ⟨by kernel_rfl, by kernel_rfl, by kernel_rfl, fun h => by cases h⟩
theorem ty127 : TyOK Tryz.prog 127 ⟨.st [(0, 3), (1, 3)], 2, 16, [.int .i64 0, .int .i64 0], true⟩ := ⟨by kernel_rfl, by kernel_rfl, by kernel_rfl, fun _ => ⟨by kernel_rfl, by kernel_rfl, by kernel_rfl⟩⟩
theorem ty134 : TyOK Tryz.prog 134 ⟨.oth, 1, 8, [.nilFunc], false⟩ := ⟨by kernel_rfl, by kernel_rfl, by kernel_rfl, fun h => by cases h⟩
theorem ty141 : TyOK Tryz.prog 141 ⟨.oth, 1, 8, [.pointer none], false⟩ := ⟨by kernel_rfl, by kernel_rfl, by kernel_rfl, fun h => by cases h⟩
theorem ty142 : TyOK Tryz.prog 142 ⟨.sl 5, 1, 24, [.slice none 0 0], false⟩ := ⟨by kernel_rfl, by kernel_rfl, by kernel_rfl, fun h => by cases h⟩
theorem ty144 : TyOK Tryz.prog 144 ⟨.st [(0, 141), (1, 142)], 2, 32, [.pointer none, .slice none 0 0], false⟩ := ⟨by kernel_rfl, by kernel_rfl, by kernel_rfl, fun h => by cases h⟩
theorem ty152 : TyOK Tryz.prog 152 ⟨.sl 90, 1, 24, [.slice none 0 0], false⟩ := ⟨by kernel_rfl, by kernel_rfl, by kernel_rfl, fun h => by cases h⟩
theorem ty160 : TyOK Tryz.prog 160 ⟨.sl 31, 1, 24, [.slice none 0 0], false⟩ := ⟨by kernel_rfl, by kernel_rfl, by kernel_rfl, fun h => by cases h⟩
theorem ty164 : TyOK Tryz.prog 164 ⟨.st [(0, 23), (3, 3)], 4, 32, [.int .i64 0, .int .i64 0, .int .i64 0, .int .i64 0], true⟩ := ⟨by kernel_rfl, by kernel_rfl, by kernel_rfl, fun _ => ⟨by kernel_rfl, by kernel_rfl, by kernel_rfl⟩⟩
theorem ty167 : TyOK Tryz.prog 167 ⟨.ar 2 25, 12, 96, [.int .i64 0, .int .i64 0, .int .i64 0, .int .i64 0, .int .i64 0, .int .i64 0, .int .i64 0, .int .i64 0, .int .i64 0, .int .i64 0, .int .i64 0, .int .i64 0], true⟩ := ⟨by kernel_rfl, by kernel_rfl, by kernel_rfl, fun _ => ⟨by kernel_rfl, by kernel_rfl, by kernel_rfl⟩⟩
theorem ty175 : TyOK Tryz.prog 175 ⟨.oth, 1, 8, [.pointer none], false⟩ := ⟨by kernel_rfl, by kernel_rfl, by kernel_rfl, fun h => by cases h⟩
theorem ty184 : TyOK Tryz.prog 184 ⟨.nm .u64, 1, 8, [.int .u64 0], true⟩ := ⟨by kernel_rfl, by kernel_rfl, by kernel_rfl, fun _ => ⟨by kernel_rfl, by kernel_rfl, by kernel_rfl⟩⟩
theorem ty199 : TyOK Tryz.prog 199 ⟨.ar 4 3, 4, 32, [.int .i64 0, .int .i64 0, .int .i64 0, .int .i64 0], true⟩ := ⟨by kernel_rfl, by kernel_rfl, by kernel_rfl, fun _ => ⟨by kernel_rfl, by kernel_rfl, by kernel_rfl⟩⟩
theorem ty202 : TyOK Tryz.prog 202 ⟨.nm .u64, 1, 8, [.int .u64 0], true⟩ := ⟨by kernel_rfl, by kernel_rfl, by kernel_rfl, fun _ => ⟨by kernel_rfl, by kernel_rfl, by kernel_rfl⟩⟩
theorem ty209 : TyOK Tryz.prog 209 ⟨.st [(0, 5), (1, 5)], 2, 2, [.int .u8 0, .int .u8 0], false⟩ := ⟨by kernel_rfl, by kernel_rfl, by kernel_rfl, fun h => by cases h⟩
theorem ty210 : TyOK Tryz.prog 210 ⟨.ar 16 209, 32, 32, [.int .u8 0, .int .u8 0, .int .u8 0, .int .u8 0, .int .u8 0, .int .u8 0, .int .u8 0, .int .u8 0, .int .u8 0, .int .u8 0, .int .u8 0, .int .u8 0, .int .u8 0, .int .u8 0, .int .u8 0, .int .u8 0, .int .u8 0, .int .u8 0, .int .u8 0, .int .u8 0, .int .u8 0, .int .u8 0, .int .u8 0, .int .u8 0, .int .u8 0, .int .u8 0, .int .u8 0, .int .u8 0, .int .u8 0, .int .u8 0, .int .u8 0, .int .u8 0], false⟩ := ⟨by kernel_rfl, by kernel_rfl, by kernel_rfl, fun h => by cases h⟩
theorem ty221 : TyOK Tryz.prog 221 ⟨.nm .u32, 1, 4, [.int .u32 0], true⟩ := ⟨by kernel_rfl, by kernel_rfl, by kernel_rfl, fun _ => ⟨by kernel_rfl, by kernel_rfl, by kernel_rfl⟩⟩
theorem ty229 : TyOK Tryz.prog 229 ⟨.st [(0, 9)], 1, 16, [.string ⟨#[]⟩], false⟩ := ⟨by kernel_rfl, by kernel_rfl, by kernel_rfl, fun h => by cases h⟩
theorem ty231 : TyOK Tryz.prog 231 ⟨.ar 32 5, 32, 32, [.int .u8 0, .int .u8 0, .int .u8 0, .int .u8 0, .int .u8 0, .int .u8 0, .int .u8 0, .int .u8 0, .int .u8 0, .int .u8 0, .int .u8 0, .int .u8 0, .int .u8 0, .int .u8 0, .int .u8 0, .int .u8 0, .int .u8 0, .int .u8 0, .int .u8 0, .int .u8 0, .int .u8 0, .int .u8 0, .int .u8 0, .int .u8 0, .int .u8 0, .int .u8 0, .int .u8 0, .int .u8 0, .int .u8 0, .int .u8 0, .int .u8 0, .int .u8 0], true⟩ := ⟨by kernel_rfl, by kernel_rfl, by kernel_rfl, fun _ => ⟨by kernel_rfl, by kernel_rfl, by kernel_rfl⟩⟩
set_option maxRecDepth 100000 in
theorem tabOK : TabOK Tryz.prog tab := by
 refine tab_of fun p hp => ?_
 simp only [tabL, List.mem_cons, List.not_mem_nil, or_false] at hp
 rcases hp with rfl | rfl | rfl | rfl | rfl | rfl | rfl | rfl | rfl | rfl | rfl | rfl | rfl | rfl | rfl | rfl | rfl | rfl | rfl | rfl | rfl | rfl | rfl | rfl | rfl | rfl | rfl | rfl | rfl | rfl | rfl | rfl | rfl | rfl | rfl | rfl | rfl | rfl | rfl | rfl | rfl | rfl | rfl | rfl
 ·exact ty3
 ·exact ty4
 ·exact ty5
 ·exact ty9
 ·exact ty21
 ·exact ty22
 ·exact ty23
 ·exact ty25
 ·exact ty31
 ·exact ty45
 ·exact ty47
 ·exact ty48
 ·exact ty49
 ·exact ty51
 ·exact ty57
 ·exact ty59
 ·exact ty69
 ·exact ty74
 ·exact ty79
 ·exact ty83
 ·exact ty90
 ·exact ty99
 ·exact ty106
 ·exact ty107
 ·exact ty120
 ·exact ty122
 ·exact ty127
 ·exact ty134
 ·exact ty141
 ·exact ty142
 ·exact ty144
 ·exact ty152
 ·exact ty160
 ·exact ty164
 ·exact ty167
 ·exact ty175
 ·exact ty184
 ·exact ty199
 ·exact ty202
 ·exact ty209
 ·exact ty210
 ·exact ty221
 ·exact ty229
 ·exact ty231
theorem mixed : Tryz.prog.follows .mixedOrders = true := by kernel_rfl
end Go.Proofs.YtfadkjcfjkmalaaGreatDoor
set_option linter.unusedVariables false
set_option linter.unusedSimpArgs false
namespace Go.Proofs.YtfadkjcfjkmalaaGreatDoor
structure TMod where
 (px py pz tm tk lo hi li ea la no mi : Int)
structure V3 where
 (x y z : Int)
def V3.dot (a b : V3) : Int := a.x * b.x + a.y * b.y + a.z * b.z
def TMod.slow (m : TMod) : Int := m.li * m.tk * m.tk
def TMod.way (m : TMod) (s p : V3) (t : Int) : V3 := ⟨m.tk * (p.x - m.px) - (t - m.tm) * s.x, m.tk * (p.y - m.py) - (t - m.tm) * s.y, m.tk * (p.z - m.pz) - (t - m.tm) * s.z⟩
def reachB (a b c : Int) : Bool := decide (c = 0) || (decide (b ≤ 0) && decide (a * c ≤ b * b))
def TMod.reached (m : TMod) (s p : V3) (t : Int) : Bool := reachB (s.dot s - m.slow) ((m.way s p t).dot s) ((m.way s p t).dot (m.way s p t))
theorem sq_nn (a : Int) : 0 ≤ a * a := by have h : ((a.natAbs * a.natAbs : Nat) : Int) = a * a := Int.natAbs_mul_self; omega
theorem V3.dot_self (a : V3) : 0 ≤ a.dot a := by
 have h1 := sq_nn a.x 
 have h2 := sq_nn a.y
 have h3 := sq_nn a.z
 unfold V3.dot; omega
theorem V3.dot_zero {a : V3} (h : a.dot a = 0) : a.x = 0 ∧ a.y = 0 ∧ a.z = 0 := by
 have h1 := sq_nn a.x
 have h2 := sq_nn a.y
 have h3 := sq_nn a.z
 unfold V3.dot at h
 have e1 : a.x * a.x = 0 := by omega
 have e2 : a.y * a.y = 0 := by omega
 have e3 : a.z * a.z = 0 := by omega
 exact ⟨(Int.mul_eq_zero.1 e1).elim id id, (Int.mul_eq_zero.1 e2).elim id id, (Int.mul_eq_zero.1 e3).elim id id⟩
theorem reached_succ (m : TMod) (s p : V3) (t : Int) (hs : 0 ≤ m.slow) (ha : m.slow < s.dot s) (h : m.reached s p t = true) : m.reached s p (t + 1) = true := by
 obtain ⟨w, hw⟩ : ∃ w, w = m.way s p t := ⟨_, rfl⟩
 obtain ⟨w', hw'⟩ : ∃ w', w' = m.way s p (t + 1) := ⟨_, rfl⟩
 have ex : w'.x = w.x - s.x := by rw [hw, hw']; simp only [TMod.way]; grind
 have ey : w'.y = w.y - s.y := by rw [hw, hw']; simp only [TMod.way]; grind
 have ez : w'.z = w.z - s.z := by rw [hw, hw']; simp only [TMod.way]; grind
 unfold TMod.reached at *
 rw [← hw] at h
 rw [← hw']
 obtain ⟨S, hS⟩ : ∃ S, S = s.dot s := ⟨_, rfl⟩
 obtain ⟨b, hb⟩ : ∃ b, b = w.dot s := ⟨_, rfl⟩
 obtain ⟨c, hc⟩ : ∃ c, c = w.dot w := ⟨_, rfl⟩
 have eb : w'.dot s = b - S := by rw [hb, hS]; simp only [V3.dot, ex, ey, ez]; grind
 have ec : w'.dot w' = c - 2 * b + S := by rw [hc, hb, hS]; simp only [V3.dot, ex, ey, ez]; grind
 rw [eb, ec, ← hS]
 rw [← hb, ← hc, ← hS] at h
 rw [← hS] at ha
 have hc0 : 0 ≤ c := by rw [hc]; exact V3.dot_self w
 unfold reachB at *
 simp only [Bool.or_eq_true, Bool.and_eq_true, decide_eq_true_eq] at *
 right
 have hb0 : b ≤ 0 ∧ (S - m.slow) * c ≤ b * b := by
  rcases h with h | h
  ·have := V3.dot_zero (hc.symm.trans h)
   have e0 : b = 0 := by rw [hb]; simp only [V3.dot, this.1, this.2.1, this.2.2]; omega
   exact ⟨by omega, by rw [h, e0]; omega⟩
  ·exact h
 refine ⟨by omega, ?_⟩
 generalize m.slow = q at *
 have h1 := Int.mul_nonneg (show 0 ≤ -b by omega) hs
 have h2 := Int.mul_nonneg (show 0 ≤ S by omega) hs
 have e : (b - S) * (b - S) - (S - q) * (c - 2 * b + S) = (b * b - (S - q) * c) + 2 * (-b * q) + S * q := by grind
 omega
theorem reached_mono (m : TMod) (s p : V3) (hs : 0 ≤ m.slow) (ha : m.slow < s.dot s) {t u : Int} (htu : t ≤ u) (h : m.reached s p t = true) : m.reached s p u = true := by
 obtain ⟨k, rfl⟩ : ∃ k : Nat, u = t + k := ⟨(u - t).toNat, by omega⟩
 induction k with
 | zero => simpa using h
 | succ k ih =>
  have := reached_succ m s p (t + k) hs ha (ih (by omega))
  rwa [show t + (k : Int) + 1 = t + ((k + 1 : Nat) : Int) by push_cast; omega] at this
def fstN (f : Int → Bool) : Nat → Int → Int
 | 0, t => t
 | n + 1, t => if f t then t else fstN f n (t + 1)
theorem fstN_spec (f : Int → Bool) : ∀ (n : Nat) (t : Int), t ≤ fstN f n t ∧ fstN f n t ≤ t + n ∧ (∀ u, t ≤ u → u < fstN f n t → f u = false) ∧ (fstN f n t < t + n → f (fstN f n t) = true) := by
 intro n
 induction n with
 | zero => intro t; exact ⟨Int.le_refl _, by simp [fstN], fun u h1 h2 => by simp only [fstN] at h2; omega, fun h => by simp [fstN] at h⟩
 | succ n ih =>
  intro t
  unfold fstN
  split
  ·next h => exact ⟨Int.le_refl _, by omega, fun u h1 h2 => by omega, fun _ => h⟩
  ·next h =>
   obtain ⟨h1, h2, h3, h4⟩ := ih (t + 1)
   refine ⟨by omega, by push_cast; omega, fun u hu1 hu2 => ?_, fun hh => h4 (by push_cast at hh; omega)⟩
   rcases (by omega : u = t ∨ t + 1 ≤ u) with rfl | h5
   ·simpa using h
   ·exact h3 u h5 hu2
theorem fstN_eq {f : Int → Bool} {n : Nat} {t u : Int} (h1 : t ≤ u) (h2 : u ≤ t + n) (h3 : ∀ v, t ≤ v → v < u → f v = false) (h4 : u < t + n → f u = true) : fstN f n t = u := by
 obtain ⟨a1, a2, a3, a4⟩ := fstN_spec f n t
 rcases Int.lt_trichotomy (fstN f n t) u with h | h | h
 ·have := h3 _ a1 h; rw [a4 (by omega)] at this; cases this
 ·exact h
 ·have := a3 u h1 h; rw [h4 (by omega)] at this; cases this
def TMod.first (m : TMod) (s p : V3) : Int := fstN (m.reached s p) 2000002 (-1000001)
theorem first_spec (m : TMod) (s p : V3) (hs : 0 ≤ m.slow) (ha : m.slow < s.dot s) {u : Int} (h1 : -1000001 ≤ u) (h2 : u ≤ 1000000) : m.reached s p u = decide (m.first s p ≤ u) := by
 obtain ⟨a1, a2, a3, a4⟩ := fstN_spec (m.reached s p) 2000002 (-1000001)
 by_cases h : m.first s p ≤ u
 ·rw [decide_eq_true h]
  exact reached_mono m s p hs ha h (a4 (by unfold TMod.first at h; omega))
 ·rw [decide_eq_false h]
  exact a3 u h1 (by unfold TMod.first at h; omega)
theorem mul_sz {x y : Int} {A B : Nat} (hx : x.natAbs ≤ A) (hy : y.natAbs ≤ B) : (x * y).natAbs ≤ A * B := by
 rw [Int.natAbs_mul]; exact Nat.mul_le_mul hx hy
theorem mul_rg {x y A B C : Int} (hx : -A ≤ x ∧ x ≤ A) (hy : -B ≤ y ∧ y ≤ B) (hC : A * B ≤ C) : -C ≤ x * y ∧ x * y ≤ C := by
 have h := mul_sz (x := x) (y := y) (A := A.natAbs) (B := B.natAbs) (by omega) (by omega)
 have e : ((A.natAbs * B.natAbs : Nat) : Int) = A * B := by push_cast; congr 1 <;> omega
 omega
theorem reached_iff (m : TMod) (s p : V3) (hs : 0 ≤ m.slow) (ha : m.slow < s.dot s) {n : Int} (h1 : m.reached s p n = true) (h0 : m.reached s p (n - 1) = false) (u : Int) : m.reached s p u = decide (n ≤ u) := by
 by_cases h : n ≤ u
 ·rw [decide_eq_true h]; exact reached_mono m s p hs ha h h1
 ·rw [decide_eq_false h]
  cases e : m.reached s p u
  ·rfl
  ·rw [reached_mono m s p hs ha (show u ≤ n - 1 by omega) e] at h0; cases h0
theorem first_of (m : TMod) (s p : V3) {n : Int} (h : ∀ u, m.reached s p u = decide (n ≤ u)) (h1 : -1000001 ≤ n) (h2 : n ≤ 1000001) : m.first s p = n :=
 fstN_eq h1 (by omega) (fun v _ hv => by rw [h, decide_eq_false (by omega)]) (fun _ => by rw [h, decide_eq_true (Int.le_refl _)])
def V3.add (a b : V3) : V3 := ⟨a.x + b.x, a.y + b.y, a.z + b.z⟩
def TMod.pl (m : TMod) : V3 := ⟨m.px, m.py, m.pz⟩
def TMod.put (m : TMod) (p : V3) (t : Int) : TMod := { m with px := p.x, py := p.y, pz := p.z, tm := t }
structure TBox where
 (lo hi : V3)
structure Rg where
 (lo hi : Int)
def Rg.plus (r s : Rg) : Rg := ⟨r.lo + s.lo, r.hi + s.hi⟩
def mn4 (a b c d : Int) : Int := min (min (min a b) c) d
def mx4 (a b c d : Int) : Int := max (max (max a b) c) d
def Rg.times (r s : Rg) : Rg := ⟨mn4 (r.lo * s.lo) (r.lo * s.hi) (r.hi * s.lo) (r.hi * s.hi), mx4 (r.lo * s.lo) (r.lo * s.hi) (r.hi * s.lo) (r.hi * s.hi)⟩
def Rg.square (r : Rg) : Rg := if r.lo ≤ 0 ∧ 0 ≤ r.hi then ⟨0, max (r.lo * r.lo) (r.hi * r.hi)⟩ else ⟨min (r.lo * r.lo) (r.hi * r.hi), max (r.lo * r.lo) (r.hi * r.hi)⟩
def Rg.has (r : Rg) (n : Int) : Prop := r.lo ≤ n ∧ n ≤ r.hi
def TBox.rx (b : TBox) : Rg := ⟨b.lo.x, b.hi.x⟩
def TBox.ry (b : TBox) : Rg := ⟨b.lo.y, b.hi.y⟩
def TBox.rz (b : TBox) : Rg := ⟨b.lo.z, b.hi.z⟩
def TBox.has (b : TBox) (s : V3) : Prop := b.rx.has s.x ∧ b.ry.has s.y ∧ b.rz.has s.z
def restR (tk : Int) (r : Rg) (d a : Int) : Rg := (r.times ⟨-a, -a⟩).plus ⟨tk * d, tk * d⟩
def TMod.prodR (m : TMod) (b : TBox) (p : V3) (t : Int) : Rg :=
 (((⟨0, 0⟩ : Rg).plus ((restR m.tk b.rx (p.x - m.px) (t - m.tm)).times b.rx)).plus ((restR m.tk b.ry (p.y - m.py) (t - m.tm)).times b.ry)).plus ((restR m.tk b.rz (p.z - m.pz) (t - m.tm)).times b.rz)
def TMod.leftR (m : TMod) (b : TBox) (p : V3) (t : Int) : Rg :=
 (((⟨0, 0⟩ : Rg).plus (restR m.tk b.rx (p.x - m.px) (t - m.tm)).square).plus (restR m.tk b.ry (p.y - m.py) (t - m.tm)).square).plus (restR m.tk b.rz (p.z - m.pz) (t - m.tm)).square
def TBox.squares (b : TBox) : Rg := (((⟨0, 0⟩ : Rg).plus b.rx.square).plus b.ry.square).plus b.rz.square
def TMod.fast (m : TMod) (b : TBox) : Rg := ⟨max b.squares.lo m.lo - m.slow, min b.squares.hi m.hi - m.slow⟩
def ansR (prod left fast : Rg) : Int :=
 if left.hi = 0 ∨ (prod.hi ≤ 0 ∧ fast.hi * left.hi ≤ prod.hi * prod.hi) then 2 else if 0 < left.lo ∧ (0 < prod.lo ∨ prod.lo * prod.lo < fast.lo * left.lo) then 0 else 1
def TMod.ans (m : TMod) (b : TBox) (p : V3) (t : Int) : Int := ansR (m.prodR b p t) (m.leftR b p t) (m.fast b)
def TMod.permit (m : TMod) (s : V3) : Prop := m.lo ≤ s.dot s ∧ s.dot s ≤ m.hi
structure THit where
 (p : V3)
 (t w : Int)
def TMod.pen (m : TMod) (s : V3) (h : THit) : Int :=
 if m.reached s h.p (h.t + m.ea) = false then h.w * m.mi else if m.reached s h.p (h.t - m.la - 1) = true then h.w * m.no else 0
def TMod.pens (m : TMod) (s : V3) (l : List THit) : List Int := l.map (m.pen s)
def TMod.score (m : TMod) (s : V3) (l : List THit) : Int := (m.pens s l).foldl (· + ·) 0
def ownR (early late miss noise : Int) : Rg :=
  ⟨if early = 0 ∧ late = 2 then min miss noise else if early = 0 then miss else if late = 2 then noise else 0,
   if late ≠ 0 then max (if early ≠ 2 then miss else 0) noise else if early ≠ 2 then miss else 0⟩
def TMod.hitR (m : TMod) (b : TBox) (h : THit) : Rg := ownR (m.ans b h.p (h.t + m.ea)) (m.ans b h.p (h.t - m.la - 1)) (h.w * m.mi) (h.w * m.no)
def TMod.scores (m : TMod) (b : TBox) (l : List THit) : Rg := l.foldl (fun r h => r.plus (m.hitR b h)) ⟨0, 0⟩
def Rg.sub (r s : Rg) : Prop := s.lo ≤ r.lo ∧ r.hi ≤ s.hi
def Rg.ok (r : Rg) : Prop := r.lo ≤ r.hi
theorem Rg.ends {r r' : Rg} (h : r.sub r') (o : r.ok) : r'.has r.lo ∧ r'.has r.hi := by unfold Rg.sub Rg.ok Rg.has at *; omega
def TBox.sub (b c : TBox) : Prop := b.rx.sub c.rx ∧ b.ry.sub c.ry ∧ b.rz.sub c.rz
def TBox.ok (b : TBox) : Prop := b.rx.ok ∧ b.ry.ok ∧ b.rz.ok
def TMod.canBe (m : TMod) (b : TBox) : Prop := m.lo ≤ b.squares.hi ∧ b.squares.lo ≤ m.hi
def TBox.count (b : TBox) : Int := (b.hi.x - b.lo.x + 1) * (b.hi.y - b.lo.y + 1) * (b.hi.z - b.lo.z + 1)
def upto (lo hi : Int) : List Int := (List.range (hi - lo + 1).toNat).map (fun k : Nat => lo + (k : Int))
def TBox.all (b : TBox) : List V3 := (upto b.lo.x b.hi.x).flatMap fun x => (upto b.lo.y b.hi.y).flatMap fun y => (upto b.lo.z b.hi.z).map fun z => ⟨x, y, z⟩
def TMod.permB (m : TMod) (s : V3) : Bool := decide (m.lo ≤ s.dot s) && decide (s.dot s ≤ m.hi)
theorem permB_iff {m : TMod} {s : V3} : m.permB s = true ↔ m.permit s := by simp [TMod.permB, TMod.permit]
def TMod.steps (m : TMod) (b : TBox) : List V3 := b.all.filter m.permB
def lexB (a b : V3) : Prop := a.x < b.x ∨ (a.x = b.x ∧ (a.y < b.y ∨ (a.y = b.y ∧ a.z < b.z)))
def TMod.better (m : TMod) (l : List THit) (a b : V3) : Prop := m.score a l < m.score b l ∨ (m.score a l = m.score b l ∧ lexB a b)
def TMod.isBest (m : TMod) (l : List THit) (S : V3 → Prop) (s : V3) : Prop := S s ∧ ∀ u, S u → u = s ∨ m.better l s u
def TMod.knows (m : TMod) (l : List THit) (S : V3 → Prop) : Option V3 → Prop
 | none => ∀ s, ¬ S s
 | some s => m.isBest l S s
def TBox.apart (a b : TBox) : Prop := a.hi.x < b.lo.x ∨ b.hi.x < a.lo.x ∨ a.hi.y < b.lo.y ∨ b.hi.y < a.lo.y ∨ a.hi.z < b.lo.z ∨ b.hi.z < a.lo.z
def TMod.proved (m : TMod) (l : List THit) (K : Int) (b : TBox) : Prop := ¬ m.canBe b ∨ K ≤ (m.scores b l).lo
def sumC (L : List TBox) : Int := (L.map TBox.count).foldl (· + ·) 0
structure TMod.covers (m : TMod) (l : List THit) (K : Int) (b : TBox) (L : List TBox) : Prop where
 each : ∀ c ∈ L, c.ok ∧ c.sub b ∧ m.proved l K c
 apart : L.Pairwise TBox.apart
 count : sumC L = b.count
end Go.Proofs.YtfadkjcfjkmalaaGreatDoor
set_option linter.unusedVariables false
set_option linter.unusedSimpArgs false
namespace Go.Proofs.YtfadkjcfjkmalaaGreatDoor
def V3.inS (p : V3) (k : Int) : Bool := inB p.x (-k) k && inB p.y (-k) k && inB p.z (-k) k
def plE (p : V3) : Int := unl (p.inS 1000) 2
def tmE (n : Int) : Int := unl (inB n (-10000) 10000) 2
def TMod.right (m : TMod) : Bool := inB m.tk 1 20 && inB m.lo 1 1200 && inB m.hi 1 1200 && inB m.li 1 100 && inB m.ea 0 100 && inB m.la 0 100 && inB m.no 0 100 && inB m.mi 0 100
def TMod.err (m : TMod) : Int := firstNZ [plE m.pl, tmE m.tm, unl m.right 2, unl (decide (m.lo ≤ m.hi)) 9, unl (decide (m.slow < m.lo)) 13]
def TMod.stE (m : TMod) (s : V3) : Int := firstNZ [unl (s.inS 20) 2, unl (m.permB s) 24]
def TMod.both (m : TMod) (s : V3) : Int := firstNZ [m.err, m.stE s]
def TBox.err (b : TBox) : Int := firstNZ [unl (b.lo.inS 20 && b.hi.inS 20) 2, unl (decide (b.lo.x ≤ b.hi.x) && decide (b.lo.y ≤ b.hi.y) && decide (b.lo.z ≤ b.hi.z)) 9, unl (decide (b.count ≤ 700)) 8]
def THit.err (h : THit) : Int := firstNZ [plE h.p, tmE h.t, unl (inB h.w 0 100) 2]
theorem firstNZ_cons {x : Int} {l : List Int} : firstNZ (x :: l) = 0 ↔ x = 0 ∧ firstNZ l = 0 := by
 simp only [firstNZ]; split
 ·next h => simp [h]
 ·next h => simp [h]
theorem unl_zero {b : Bool} {n : Int} (hn : n ≠ 0) : unl b n = 0 ↔ b = true := by unfold unl; split <;> simp_all
theorem inS_iff {p : V3} {k : Int} : p.inS k = true ↔ (-k ≤ p.x ∧ p.x ≤ k) ∧ (-k ≤ p.y ∧ p.y ≤ k) ∧ (-k ≤ p.z ∧ p.z ≤ k) := by
 unfold V3.inS; simp only [Bool.and_eq_true, inB_true, and_assoc]
structure TMod.Ok (m : TMod) : Prop where
 px : -1000 ≤ m.px ∧ m.px ≤ 1000
 py : -1000 ≤ m.py ∧ m.py ≤ 1000
 pz : -1000 ≤ m.pz ∧ m.pz ≤ 1000
 tm : -10000 ≤ m.tm ∧ m.tm ≤ 10000
 tk : 1 ≤ m.tk ∧ m.tk ≤ 20
 lo : 1 ≤ m.lo ∧ m.lo ≤ 1200
 hi : 1 ≤ m.hi ∧ m.hi ≤ 1200
 li : 1 ≤ m.li ∧ m.li ≤ 100
 ea : 0 ≤ m.ea ∧ m.ea ≤ 100
 la : 0 ≤ m.la ∧ m.la ≤ 100
 no : 0 ≤ m.no ∧ m.no ≤ 100
 mi : 0 ≤ m.mi ∧ m.mi ≤ 100
 ord : m.lo ≤ m.hi
 slo : m.slow < m.lo
 slp : 0 ≤ m.slow
theorem err_ok {m : TMod} (h : m.err = 0) : m.Ok := by
 unfold TMod.err at h
 rw [firstNZ_cons, firstNZ_cons, firstNZ_cons, firstNZ_cons, firstNZ_cons] at h
 obtain ⟨h1, h2, h3, h4, h5, _⟩ := h
 unfold plE at h1; unfold tmE at h2
 rw [unl_zero (by decide)] at h1 h2 h3 h4 h5
 rw [inS_iff] at h1
 unfold TMod.right at h3
 simp only [Bool.and_eq_true, inB_true, decide_eq_true_eq] at h2 h3 h4 h5
 obtain ⟨a1, a2, a3⟩ := h1
 obtain ⟨⟨⟨⟨⟨⟨⟨b1, b2⟩, b3⟩, b4⟩, b5⟩, b6⟩, b7⟩, b8⟩ := h3
 refine ⟨a1, a2, a3, h2, b1, b2, b3, b4, b5, b6, b7, b8, h4, h5, ?_⟩
 unfold TMod.slow
 exact Int.mul_nonneg (Int.mul_nonneg (by omega) (by omega)) (by omega)
theorem both_ok {m : TMod} {s : V3} (h : m.both s = 0) : m.Ok ∧ s.inS 20 = true ∧ m.permit s ∧ m.slow < s.dot s := by
 unfold TMod.both at h
 rw [firstNZ_cons, firstNZ_cons] at h
 obtain ⟨h1, h2, _⟩ := h
 unfold TMod.stE at h2
 rw [firstNZ_cons, firstNZ_cons] at h2
 obtain ⟨h3, h4, _⟩ := h2
 rw [unl_zero (by decide)] at h3 h4
 have ho := err_ok h1
 have hp := permB_iff.1 h4
 exact ⟨ho, h3, hp, by have := ho.slo; have := hp.1; omega⟩
theorem dot_sz {a b : V3} {A B : Int} (ha : a.inS A = true) (hb : b.inS B = true) (hA : 0 ≤ A) (hB : 0 ≤ B) : (-(A * B) ≤ a.x * b.x ∧ a.x * b.x ≤ A * B) ∧ (-(A * B) ≤ a.y * b.y ∧ a.y * b.y ≤ A * B) ∧ (-(A * B) ≤ a.z * b.z ∧ a.z * b.z ≤ A * B) := by
 rw [inS_iff] at ha hb
 exact ⟨mul_rg ha.1 hb.1 (Int.le_refl _), mul_rg ha.2.1 hb.2.1 (Int.le_refl _), mul_rg ha.2.2 hb.2.2 (Int.le_refl _)⟩
theorem way_sz {m : TMod} {s p : V3} {t : Int} (ho : m.Ok) (hs : s.inS 20 = true) (hp : p.inS 1000 = true) (ht : -1000101 ≤ t ∧ t ≤ 1000100) : (m.way s p t).inS 20242020 = true := by
 rw [inS_iff] at *
 have h1 := mul_rg (x := m.tk) (y := p.x - m.px) (A := 20) (B := 2000) (C := 40000) (by have := ho.tk; omega) (by have := ho.px; omega) (by decide)
 have h2 := mul_rg (x := m.tk) (y := p.y - m.py) (A := 20) (B := 2000) (C := 40000) (by have := ho.tk; omega) (by have := ho.py; omega) (by decide)
 have h3 := mul_rg (x := m.tk) (y := p.z - m.pz) (A := 20) (B := 2000) (C := 40000) (by have := ho.tk; omega) (by have := ho.pz; omega) (by decide)
 have g1 := mul_rg (x := t - m.tm) (y := s.x) (A := 1010101) (B := 20) (C := 20202020) (by have := ho.tm; omega) hs.1 (by decide)
 have g2 := mul_rg (x := t - m.tm) (y := s.y) (A := 1010101) (B := 20) (C := 20202020) (by have := ho.tm; omega) hs.2.1 (by decide)
 have g3 := mul_rg (x := t - m.tm) (y := s.z) (A := 1010101) (B := 20) (C := 20202020) (by have := ho.tm; omega) hs.2.2 (by decide)
 unfold TMod.way; simp only; omega
end Go.Proofs.YtfadkjcfjkmalaaGreatDoor
set_option linter.unusedVariables false
set_option linter.unusedSimpArgs false
namespace Go.Proofs.YtfadkjcfjkmalaaGreatDoor
open Go.RowKit
end Go.Proofs.YtfadkjcfjkmalaaGreatDoor
set_option linter.unusedVariables false
set_option linter.unusedSimpArgs false
namespace Go.Proofs.YtfadkjcfjkmalaaGreatDoor
open Go.RowKit
section
variable {P : Program} {ops : Array Oper} {md : Region.Mode} {C : World → Prop}
def simpleOp (o : Oper) : Bool :=
 match o.op with
 | .move _ | .assign _ | .pick .. | .binOp .. | .unOp .. | .slice .. | .indexAddr .. | .fieldAddr .. | .extract .. | .field .. | .index .. | .build .. => true
 | _ => false
theorem value_of_bind {P : Program} {w w1 : World} {n : Next} (s : Sem Value) (h : ((do let x ← s; pure (.value x) : Sem Next)).run P w = .ok n w1) : ∃ v, n = .value v := by
 rw [Sem.run_bind] at h
 cases hs : s.run P w with
 | ok x w2 => rw [hs] at h; simp only [Result.andThen_ok, Sem.run_pure] at h; cases h; exact ⟨_, rfl⟩
 | halt x w2 => rw [hs] at h; cases h
theorem value_of_bind' {P : Program} {α : Type} {w w1 : World} {n : Next} (s : Sem α) (f : α → Value) (h : ((do let x ← s; pure (.value (f x)) : Sem Next)).run P w = .ok n w1) : ∃ v, n = .value v := by
 rw [Sem.run_bind] at h
 cases hs : s.run P w with
 | ok x w2 => rw [hs] at h; simp only [Result.andThen_ok, Sem.run_pure] at h; cases h; exact ⟨_, rfl⟩
 | halt x w2 => rw [hs] at h; cases h
theorem simpleOp_value {o : Oper} (h : simpleOp o = true) {ρ : Operand → Value} {w w1 : World} {n : Next} (hr : (execOp ρ o).run P w = .ok n w1) : ∃ v, n = .value v := by
 unfold simpleOp at h
 unfold execOp at hr
 split at h
 all_goals first
  | (rename_i e; rw [e] at hr; simp only [Sem.run_pure] at hr; cases hr; exact ⟨_, rfl⟩)
  | (rename_i e; rw [e] at hr; exact value_of_bind _ hr)
  | (rename_i e; rw [e] at hr; exact value_of_bind' _ _ hr)
  | cases h
theorem yields_of_quiet {i : Nat} {o : Oper} {a : Act} {K : Act → Prop} (hi : ops[i]? = some o) (hs : simpleOp o = true) (h : qOp P ops (fun _ => True) i K a) : ∃ v, Yields P ops o v a ∧ K (a.put o.dst v) := by
 obtain ⟨v, hy, hK⟩ := yieldsIn_of_qOp hi h
 refine ⟨v, ?_, hK⟩
 rcases hy with ⟨hw, hy⟩ | ⟨hw, rfl⟩
 ·refine Or.inl ⟨hw, fun w => ?_⟩
  have h1 := hy w trivial
  unfold Oper.quietAt at h1
  generalize hr : (execOp a.eval o).run P w = r at h1
  cases r with
  | ok n w' =>
   obtain ⟨u, rfl⟩ := simpleOp_value hs hr
   simp only [Oper.quietUpon] at h1
   rw [h1.1, h1.2]
  | halt x w' => simp only [Oper.quietUpon] at h1
 ·exact Or.inr ⟨hw, rfl⟩
structure MidInv (md : Region.Mode) (ops : Array Oper) (n : Nat) (l0 listed : Array Bool) : Prop where
 size : listed.size = ops.size
 closed : ∀ j oj, ops[j]? = some oj → listed.getD j false = true → ∀ e ∈ oj.after, Region.binds md e = true → listed.getD e.on false = true
 tail : ∀ t, n ≤ t → t < ops.size → listed.getD t true = false
 start : ∀ j, l0.getD j false = true → listed.getD j false = true
theorem MidInv.set {n i : Nat} {l0 listed : Array Bool} (inv : MidInv md ops n l0 listed) (hi : i ∈ Region.ready md ops listed) (hin : i < n) : MidInv md ops n l0 (listed.setIfInBounds i true) := by
 obtain ⟨hun, oi, hoi, hall⟩ := mem_ready.1 hi
 refine ⟨by simp [inv.size], fun j oj hj hl e he hb => ?_, fun t ht ht' => ?_, fun j hj => getD_set_true (inv.start j hj)⟩
 ·by_cases hij : i = j
  ·subst hij
   have : oj = oi := Option.some.inj (hj.symm.trans hoi)
   subst this
   exact getD_set_true (hall e he hb)
  ·rw [getD_set_ne false hij] at hl
   exact getD_set_true (inv.closed j oj hj hl e he hb)
 ·rw [getD_set_ne true (by omega)]; exact inv.tail t ht ht'
def pick (l : List Oper) : List Nat → List Oper
 | [] => []
 | i :: p => (l.drop i).head?.toList ++ pick l p
theorem pick_cons {l : List Oper} {i : Nat} {p : List Nat} {o : Oper} (h : l[i]? = some o) : pick l (i :: p) = o :: pick l p := by
 simp [pick, List.head?_drop, h]
def noPan (Q : Exit → Act → World → Prop) : Exit → Act → World → Prop
 | .panic _, _, _ => False
 | e, a, w => Q e a w
end
theorem quiet_simple {P : Program} {o : Oper} {a : Act} {C : World → Prop} {K : Act → Prop} (hs : simpleOp o = true) (h : o.quiet P a (fun _ => True) K) : o.quiet P a C K := by
 obtain ⟨v, hv, hK⟩ := h
 refine ⟨v, fun w _ => ?_, hK⟩
 have h1 := hv w trivial
 unfold Oper.quietAt at *
 generalize hr : (execOp a.eval o).run P w = r at h1
 cases r with
 | ok n w' =>
  obtain ⟨u, rfl⟩ := simpleOp_value hs hr
  exact h1
 | halt x w' => exact h1
theorem quiet_val {P : Program} {o : Oper} {a : Act} {C : World → Prop} {K : Act → Prop} (v : Value) (h : ∀ w, C w → (execOp a.eval o).run P w = .ok (.value v) w) (hK : K (a.put o.dst v)) : o.quiet P a C K :=
 ⟨v, fun w hw => by unfold Oper.quietAt; rw [h w hw]; exact ⟨rfl, rfl⟩, hK⟩
def Elem (P : Program) (t e : TypeId) (sz bytes : Nat) : Prop := ∃ i z, P.underlying t = some (.slice e) ∧ P.info? e = some i ∧ i.zero = some z ∧ i.size = sz ∧ i.bytes = bytes ∧ z.cells.size = sz ∧ 0 < sz
theorem Elem.mk {P : Program} {t e : TypeId} {z : Value} {sz bytes : Nat} (ht : P.underlying t = some (.slice e)) (hi : (P.info? e).map (fun i => (i.zero, i.size, i.bytes)) = some (some z, sz, bytes)) (hz : z.cells.size = sz) (hs : 0 < sz) : Elem P t e sz bytes := by
 obtain ⟨i, h1, h2, h3, h4⟩ := info_parts hi
 exact ⟨i, z, ht, h1, h2, h3, h4, hz, hs⟩
structure Pushed (base : Nat) (w w' : World) (v v' : Value) : Prop where
 below : Below base w w'
 other : ∀ k, k < w.heap.size → some k ≠ v.ownBlock → w'.heap[k]? = w.heap[k]?
 lies : v'.ownBlock = v.ownBlock ∨ v'.ownBlock = some w.heap.size
end Go.Proofs.YtfadkjcfjkmalaaGreatDoor
set_option linter.unusedVariables false
set_option linter.unusedSimpArgs false
namespace Go.Proofs.YtfadkjcfjkmalaaGreatDoor
open Go.RowKit
section
variable {P : Program} {md : Region.Mode}
end
end Go.Proofs.YtfadkjcfjkmalaaGreatDoor
set_option linter.unusedVariables false
set_option linter.unusedSimpArgs false
namespace Go.Proofs.YtfadkjcfjkmalaaGreatDoor
open Go.RowKit
section
variable {P : Program} {md : Region.Mode}
inductive Stp where
 | q (ks : List Nat)
 | f (ks : List Nat)
 | p (i j : Nat)
def contF (K : Act → World → Prop) : Exit → Act → World → Prop
 | .normal, a, w => K a w
 | _, _, _ => False
theorem wp_F {ops : Array Oper} {Q : Exit → Act → World → Prop} {X K : Act → World → Prop} {o : Oper} {a : Act} {w : World} (hh : o.wp P a w K (contF X)) : o.wp P a w K Q := by
 unfold Oper.wp at *
 generalize (execOp a.eval o).run P w = r at *
 cases r with
 | ok n w' =>
  cases n <;> simp only [Oper.upon] at hh ⊢ <;>
   first
    | exact hh
    | exact Calls.mono hh (fun e w'' he => by
      cases e with
      | returned v => exact he
      | panicked c => exact (he : False).elim
      | outgrown => obtain ⟨a, w, h⟩ := he; exact (h : False).elim)
 | halt x w' => cases x <;> simp only [Oper.upon] at hh ⊢ <;> first | exact hh | exact (hh : False).elim
theorem wpOp_F {ops : Array Oper} {Q : Exit → Act → World → Prop} {X K : Act → World → Prop} {i : Nat} {a : Act} {w : World} (hh : wpOp P ops (contF X) i K a w) : wpOp P ops Q i K a w := by
 unfold wpOp at *
 split
 ·simpa [*] using hh
 ·rename_i o ho
  simp only [ho] at hh
  split
  ·rename_i hw
   simp only [hw, if_true] at hh
   rcases hh with h | ⟨_, a, w, h⟩
   ·exact Or.inl (wp_F (ops := ops) h)
   ·exact (h : False).elim
  ·rename_i hw; simp only [hw] at hh; exact hh
def runSet (L : Array Bool) (ks : List Nat) : Array Bool := ks.foldl (fun L k => L.setIfInBounds k true) L
def qB (md : Region.Mode) (ops : Array Oper) : List Nat → Array Bool → Bool
 | [], _ => true
 | k :: p, L => ((ops[k]?).map simpleOp).getD false && (Region.ready md ops L).contains k && Region.free md ops L k && qB md ops p (L.setIfInBounds k true)
def fB (md : Region.Mode) (ops : Array Oper) : List Nat → Array Bool → Bool
 | [], _ => true
 | k :: p, L => decide (Region.ready md ops L = [k]) && (ops[k]?).isSome && fB md ops p (L.setIfInBounds k true)
def mixB (md : Region.Mode) (ops : Array Oper) : List Stp → Array Bool → Bool
 | [], L => (Region.ready md ops L).isEmpty
 | .q ks :: s, L => qB md ops ks L && mixB md ops s (runSet L ks)
 | .f ks :: s, L => fB md ops ks L && mixB md ops s (runSet L ks)
 | .p i j :: s, L => decide (Region.ready md ops L = [i, j]) && fB md ops [j] (runSet L [i]) && fB md ops [i] (runSet L [j]) && (ops[i]?).isSome && (ops[j]?).isSome && (runSet L [j, i] == runSet L [i, j]) && mixB md ops s (runSet L [i, j])
def lenS : List Stp → Nat
 | [] => 0
 | .q ks :: s => ks.length + lenS s
 | .f ks :: s => ks.length + lenS s
 | .p _ _ :: s => 2 + lenS s
def wpMix (P : Program) (l : List Oper) (Q : Exit → Act → World → Prop) : List Stp → Act → World → Prop
 | [], a, w => Q .normal a w
 | .q ks :: s, a, w => wpQuiet P l.toArray (fun _ => True) (fun a' => wpMix P l Q s a' w) (pick l ks) a
 | .f ks :: s, a, w => wpList P l.toArray (contF (wpMix P l Q s)) (pick l ks) a w
 | .p i j :: s, a, w => wpList P l.toArray (contF (wpMix P l Q s)) (pick l [i, j]) a w ∧ wpList P l.toArray (contF (wpMix P l Q s)) (pick l [j, i]) a w
theorem wpAny_q {l : List Oper} {Q : Exit → Act → World → Prop} (hQ : ∀ c a a' w, Q (.panic c) a w → Q (.panic c) a' w) (hsel : Region.noSelect l.toArray = true) {X : Act → World → Prop} {n : Nat} :
  ∀ (p : List Nat) (L : Array Bool) (a : Act) (w : World), qB md l.toArray p L = true → (∀ a', X a' w → wpAny P md l.toArray Q n (runSet L p) a' w) → wpQuiet P l.toArray (fun _ => True) (fun a' => X a' w) (pick l p) a →
   wpAny P md l.toArray Q (p.length + n) L a w := by
 intro p
 induction p with
 | nil => intro L a w hB h hx; rw [List.length_nil, Nat.zero_add]; exact h a hx
 | cons i p ih =>
  intro L a w hB h hx
  simp only [qB, Bool.and_eq_true] at hB
  obtain ⟨⟨⟨ho, hr⟩, hf⟩, hB'⟩ := hB
  cases ho2 : l.toArray[i]? with
  | none => rw [ho2] at ho; cases ho
  | some o =>
   rw [ho2] at ho
   have hs1 : simpleOp o = true := by simpa using ho
   have ho' : l[i]? = some o := by simpa using ho2
   rw [pick_cons ho'] at hx
   have hr' : i ∈ Region.ready md l.toArray L := by simpa using hr
   have hq : qOp P l.toArray (fun _ => True) i (wpQuiet P l.toArray (fun _ => True) (fun a' => X a' w) (pick l p)) a := by unfold qOp; simp only [ho2]; exact hx
   obtain ⟨v, hy, hK⟩ := yields_of_quiet ho2 hs1 hq
   rw [List.length_cons, show p.length + 1 + n = (p.length + n) + 1 from by omega]
   exact wpAny_first ho2 (Region.noSelect_spec hsel) (fun c a w h => hQ c _ _ w h) _ L a w (Region.free_spec ho2 hf) hr' hy (ih _ _ _ hB' h hK)
theorem wpAny_f {l : List Oper} {Q : Exit → Act → World → Prop} {X : Act → World → Prop} {n : Nat} :
  ∀ (p : List Nat) (L : Array Bool) (a : Act) (w : World), fB md l.toArray p L = true → (∀ a' w', X a' w' → wpAny P md l.toArray Q n (runSet L p) a' w') → wpList P l.toArray (contF X) (pick l p) a w →
   wpAny P md l.toArray Q (p.length + n) L a w := by
 intro p
 induction p with
 | nil => intro L a w hB h hx; rw [List.length_nil, Nat.zero_add]; exact h a w hx
 | cons k p ih =>
  intro L a w hB h hx
  simp only [fB, Bool.and_eq_true, decide_eq_true_eq] at hB
  obtain ⟨⟨hr, ho⟩, hB'⟩ := hB
  obtain ⟨o, ho⟩ := Option.isSome_iff_exists.1 ho
  have ho' : l[k]? = some o := by simpa using ho
  rw [pick_cons ho'] at hx
  rw [List.length_cons, show p.length + 1 + n = (p.length + n) + 1 from by omega]
  refine ⟨fun h1 => (by rw [hr] at h1; cases h1), fun i hi => ?_⟩
  rw [hr] at hi
  have hik : i = k := by simpa using hi
  subst hik
  have hw : wpOp P l.toArray (contF X) i (wpList P l.toArray (contF X) (pick l p)) a w := by unfold wpOp; simp only [ho]; exact hx
  exact wpOp_mono (fun a' w' h' => ih _ _ _ hB' h h') (wpOp_F hw)
theorem wpAny_mix {l : List Oper} {Q : Exit → Act → World → Prop} (hQ : ∀ c a a' w, Q (.panic c) a w → Q (.panic c) a' w) (hsel : Region.noSelect l.toArray = true) :
  ∀ (s : List Stp) (L : Array Bool) (a : Act) (w : World), mixB md l.toArray s L = true → wpMix P l Q s a w → wpAny P md l.toArray Q (lenS s) L a w := by
 intro s
 induction s with
 | nil => intro L a w hB h; exact ⟨by simpa [mixB] using hB, h⟩
 | cons st s ih =>
  intro L a w hB h
  cases st with
  | q ks =>
   simp only [mixB, Bool.and_eq_true] at hB
   exact wpAny_q hQ hsel (X := wpMix P l Q s) ks L a w hB.1 (fun a' h' => ih _ _ _ hB.2 h') h
  | f ks =>
   simp only [mixB, Bool.and_eq_true] at hB
   exact wpAny_f ks L a w hB.1 (fun a' w' h' => ih _ _ _ hB.2 h') h
  | p i j =>
   simp only [mixB, Bool.and_eq_true, decide_eq_true_eq, beq_iff_eq] at hB
   obtain ⟨⟨⟨⟨⟨⟨hr, h1⟩, h2⟩, hi⟩, hj⟩, he⟩, hB'⟩ := hB
   obtain ⟨ha, hb⟩ := h
   show wpAny P md l.toArray Q (2 + lenS s) L a w
   rw [show 2 + lenS s = (1 + lenS s) + 1 from by omega]
   refine ⟨fun h1 => (by rw [hr] at h1; cases h1), fun k hk => ?_⟩
   rw [hr] at hk
   rcases (by simpa using hk : k = i ∨ k = j) with rfl | rfl
   ·obtain ⟨o, ho⟩ := Option.isSome_iff_exists.1 hi
    have ho' : l[k]? = some o := by simpa using ho
    rw [pick_cons ho'] at ha
    have hw : wpOp P l.toArray (contF (wpMix P l Q s)) k (wpList P l.toArray (contF (wpMix P l Q s)) (pick l [j])) a w := by unfold wpOp; simp only [ho]; exact ha
    exact wpOp_mono (fun a' w' h' => wpAny_f [j] _ a' w' h1 (fun a'' w'' h'' => ih _ _ _ hB' h'') h') (wpOp_F hw)
   ·obtain ⟨o, ho⟩ := Option.isSome_iff_exists.1 hj
    have ho' : l[k]? = some o := by simpa using ho
    rw [pick_cons ho'] at hb
    have hw : wpOp P l.toArray (contF (wpMix P l Q s)) k (wpList P l.toArray (contF (wpMix P l Q s)) (pick l [i])) a w := by unfold wpOp; simp only [ho]; exact hb
    refine wpOp_mono (fun a' w' h' => wpAny_f [i] _ a' w' h2 (fun a'' w'' h'' => ?_) h') (wpOp_F hw)
    have := ih _ _ _ hB' h''
    rw [← he] at this
    exact this
end
end Go.Proofs.YtfadkjcfjkmalaaGreatDoor
set_option linter.unusedVariables false
set_option linter.unusedSimpArgs false
namespace Go.Proofs.YtfadkjcfjkmalaaGreatDoor
open Go.RowKit
section
variable {P : Program} {md : Region.Mode} {ops : Array Oper} {Q : Exit → Act → World → Prop} {C : World → Prop}
def stillB : Callee → Bool
 | .builtin .len | .builtin .max | .builtin .min | .builtin .cap => true
 | _ => false
def stillOp (o : Oper) : Bool := simpleOp o || (match o.op with | .load .. => true | .call c => stillB c.callee | _ => false)
theorem stillOp_value {o : Oper} (h : stillOp o = true) {ρ : Operand → Value} {w w1 : World} {n : Next} (hr : (execOp ρ o).run P w = .ok n w1) : ∃ v, n = .value v := by
 unfold stillOp at h
 rw [Bool.or_eq_true] at h
 rcases h with h | h
 ·exact simpleOp_value h hr
 ·split at h
  ·rename_i e
   unfold execOp at hr
   rw [e] at hr
   exact value_of_bind _ hr
  ·rename_i c e
   unfold execOp at hr
   rw [e] at hr
   unfold stillB at h
   split at h
   all_goals first
    | (rename_i e2; simp only [resolve, e2, Sem.run_bind, Sem.run_pure, Result.andThen_ok, invoke, builtin] at hr; exact value_of_bind _ (by simpa only [Sem.run_bind, Sem.run_pure] using hr))
    | cases h
  ·cases h
def YieldsX (P : Program) (ops : Array Oper) (C : World → Prop) (o : Oper) (v : Value) (a : Act) : Prop :=
 (Region.wanted o (yielded ops a.tmps) = true ∧ ∀ w, C w → (execOp a.eval o).run P w = .ok (.value v) w) ∨ (Region.wanted o (yielded ops a.tmps) = false ∧ v = undef)
theorem yieldsX_of_quiet {i : Nat} {o : Oper} {a : Act} {K : Act → Prop} (hi : ops[i]? = some o) (hs : stillOp o = true) (h : qOp P ops C i K a) : ∃ v, YieldsX P ops C o v a ∧ K (a.put o.dst v) := by
 obtain ⟨v, hy, hK⟩ := yieldsIn_of_qOp hi h
 refine ⟨v, ?_, hK⟩
 rcases hy with ⟨hw, hy⟩ | ⟨hw, rfl⟩
 ·refine Or.inl ⟨hw, fun w hC => ?_⟩
  have h1 := hy w hC
  unfold Oper.quietAt at h1
  generalize hr : (execOp a.eval o).run P w = r at h1
  cases r with
  | ok n w' =>
   obtain ⟨u, rfl⟩ := stillOp_value hs hr
   simp only [Oper.quietUpon] at h1
   rw [h1.1, h1.2]
  | halt x w' => simp only [Oper.quietUpon] at h1
 ·exact Or.inr ⟨hw, rfl⟩
theorem YieldsX.wpOp {i : Nat} {o : Oper} {v : Value} {a : Act} (hi : ops[i]? = some o) (hy : YieldsX P ops C o v a) {K : Act → World → Prop} {w : World} (hC : C w) (h : K (a.put o.dst v) w) : wpOp P ops Q i K a w := by
 unfold Go.wpOp
 simp only [hi]
 rcases hy with ⟨hw, hv⟩ | ⟨hw, rfl⟩
 ·simp only [hw, if_true, Oper.wp, hv w hC, Oper.upon]; exact .inl h
 ·simp only [hw, Bool.false_eq_true, if_false]; exact h
theorem YieldsX.of_same {o : Oper} {v : Value} {a a' : Act} (hy : YieldsX P ops C o v a) (he : execOp a'.eval o = execOp a.eval o)
  (hw : Region.wanted o (yielded ops a'.tmps) = Region.wanted o (yielded ops a.tmps)) : YieldsX P ops C o v a' := by
 unfold YieldsX at *
 rw [he, hw]
 exact hy
theorem wpOp_putX {j : Nat} {oi oj : Oper} {v : Value} (hj : ops[j]? = some oj) (hap : oi.apart ops oj = true)
  (hsi : ∀ cs b, oi.op ≠ .select cs b) (hsj : ∀ cs b, oj.op ≠ .select cs b)
  (hQ : ∀ c a w, Q (.panic c) (a.put oi.dst v) w → Q (.panic c) a w) {K : Act → World → Prop} {a : Act} {w : World}
  (hy : YieldsX P ops C oi v a) (h : wpOp P ops Q j K (a.put oi.dst v) w) :
  wpOp P ops Q j (fun a' w' => YieldsX P ops C oi v a' ∧ K (a'.put oi.dst v) w') a w := by
 obtain ⟨h1, h2, h3⟩ := Oper.apart_spec hap
 have keep : ∀ (a : Act), YieldsX P ops C oi v a → ∀ u, YieldsX P ops C oi v (a.put oj.dst u) := fun a hy u =>
  hy.of_same (execOp_put oi hsi a oj.dst u h3) (wanted_put oi a oj.dst u h3)
 have keepD : ∀ d, YieldsX P ops C oi v { a with defers := d :: a.defers } := fun d => hy.of_same rfl rfl
 unfold wpOp at *
 simp only [hj] at *
 rw [wanted_put oj a oi.dst v h1] at h
 split
 ·rename_i hw
  simp only [hw, if_true] at h
  rcases h with h | ⟨hasks, hlets⟩
  case inr => exact .inr ⟨by unfold Oper.asks at *; rw [execOp_put oj hsj a oi.dst v h1] at hasks; exact hasks, hlets⟩
  refine .inl ?_
  unfold Oper.wp at *
  rw [execOp_put oj hsj a oi.dst v h1] at h
  generalize (execOp a.eval oj).run P w = r at *
  cases r with
  | ok n w' =>
   cases n <;> simp only [Oper.upon] at h ⊢
   case value u => exact ⟨keep a hy u, by rw [← Act.put_comm a v u h2]; exact h⟩
   case skip => exact ⟨keep a hy _, by rw [← Act.put_comm a v undef h2]; exact h⟩
   case defer d =>
    refine ⟨keep _ (keepD d) _, ?_⟩
    rw [← Act.put_comm _ v undef h2, ← Act.put_defers]
    exact h
   case enter f args =>
    refine Calls.mono h fun e w'' he => ?_
    cases e with
    | returned u => exact ⟨keep a hy u, by rw [← Act.put_comm a v u h2]; exact he⟩
    | panicked c => exact hQ _ _ _ he
    | outgrown => exact he
   case row row args => exact Rows.mono h fun u w'' he => ⟨keep a hy u, by rw [← Act.put_comm a v u h2]; exact he⟩
  | halt x w' =>
   cases x <;> simp only [Oper.upon] at h ⊢
   case panic u => exact hQ _ _ _ h
 ·rename_i hw
  simp only [hw] at h
  exact ⟨keep a hy _, by rw [← Act.put_comm a v undef h2]; exact h⟩
def wpAnyC (P : Program) (md : Region.Mode) (ops : Array Oper) (C : World → Prop) (Q : Exit → Act → World → Prop) (n1 m : Nat) : Nat → Array Bool → Act → World → Prop
 | 0, listed, a, w => (∀ j, j < n1 → listed.getD j true = true) ∧ wpAny P md ops Q m listed a w
 | fuel + 1, listed, a, w => Region.ready md ops listed ≠ [] ∧ ∀ i ∈ Region.ready md ops listed, wpOp P ops Q i (fun a' w' => C w' ∧ wpAnyC P md ops C Q n1 m fuel (listed.setIfInBounds i true) a' w') a w
theorem wpAny_of_C {n1 m : Nat} : ∀ (f : Nat) (listed : Array Bool) (a : Act) (w : World), wpAnyC P md ops C Q n1 m f listed a w → wpAny P md ops Q (f + m) listed a w := by
 intro f
 induction f with
 | zero => intro listed a w h; rw [Nat.zero_add]; exact h.2
 | succ f ih =>
  intro listed a w h
  rw [show f + 1 + m = (f + m) + 1 by omega]
  exact ⟨fun h0 => absurd h0 h.1, fun i hi => wpOp_mono (fun _ _ h' => ih _ _ _ h'.2) (h.2 i hi)⟩
def phaseB (md : Region.Mode) (ops : Array Oper) (n1 : Nat) : Bool :=
 (List.range ops.size).all fun j => decide (j < n1) || (List.range n1).all fun i => Region.waitsFor md ops j i
theorem phase_ready {n1 i j : Nat} {listed : Array Bool} (hp : phaseB md ops n1 = true) (hi : i < n1) (hun : listed.getD i true = false) (hj : j ∈ Region.ready md ops listed) : j < n1 := by
 obtain ⟨_, oj, hoj, hall⟩ := mem_ready.1 hj
 have hlt : j < ops.size := (Array.getElem?_eq_some_iff.1 hoj).1
 have h1 := List.all_eq_true.1 hp j (List.mem_range.2 hlt)
 simp only [Bool.or_eq_true, decide_eq_true_eq] at h1
 rcases h1 with h1 | h1
 ·exact h1
 ·obtain ⟨o', ho', e, he, hb, hon⟩ := Region.waitsFor_spec (List.all_eq_true.1 h1 i (List.mem_range.2 hi))
  have : o' = oj := Option.some.inj (ho'.symm.trans hoj)
  subst this
  have h2 := hall e he hb
  rw [hon, getD_both hun] at h2
  cases h2
theorem wpAnyC_first {n1 m i : Nat} {oi : Oper} {v : Value} (hp : phaseB md ops n1 = true) (hin : i < n1) (hi : ops[i]? = some oi) (hsel : ∀ (j : Nat) (o : Oper) cs b, ops[j]? = some o → o.op ≠ .select cs b)
  (hQ : ∀ c a w, Q (.panic c) (a.put oi.dst v) w → Q (.panic c) a w) :
  ∀ (fuel : Nat) (listed : Array Bool) (a : Act) (w : World), C w →
   (∀ j oj, ops[j]? = some oj → j ≠ i → listed.getD j true = false → (∀ e ∈ oj.after, Region.binds md e = true → e.on ≠ i) → oi.apart ops oj = true) →
   i ∈ Region.ready md ops listed → YieldsX P ops C oi v a →
   wpAnyC P md ops C Q n1 m fuel (listed.setIfInBounds i true) (a.put oi.dst v) w → wpAnyC P md ops C Q n1 m (fuel + 1) listed a w := by
 intro fuel
 induction fuel with
 | zero =>
  intro listed a w hC _ hr hy H
  refine ⟨fun h => (by rw [h] at hr; cases hr), fun j hj => ?_⟩
  by_cases hji : j = i
  ·subst hji; exact hy.wpOp hi hC ⟨hC, H⟩
  ·have hjn := phase_ready hp hin (mem_ready.1 hr).1 hj
   have h1 := H.1 j hjn
   rw [getD_set_ne true (Ne.symm hji), (mem_ready.1 hj).1] at h1
   cases h1
 | succ fuel ih =>
  intro listed a w hC hfree hr hy H
  refine ⟨fun h => (by rw [h] at hr; cases hr), fun j hj => ?_⟩
  by_cases hji : j = i
  ·subst hji; exact hy.wpOp hi hC ⟨hC, H⟩
  ·have h1 := H.2 j (ready_mono hj hji)
   obtain ⟨hjun, oj, hoj, hall⟩ := mem_ready.1 hj
   have hnot : ∀ e ∈ oj.after, Region.binds md e = true → e.on ≠ i := fun e he hb heq => by
    have h1 := hall e he hb
    have h0 := (mem_ready.1 hr).1
    rw [heq] at h1
    rcases Nat.lt_or_ge i listed.size with h' | h'
    ·simp [h'] at h0 h1; rw [h0] at h1; cases h1
    ·simp [Array.getElem?_eq_none h'] at h1
   have h2 := wpOp_putX hoj (hfree j oj hoj hji hjun hnot) (fun cs b => hsel i oi cs b hi) (fun cs b => hsel j oj cs b hoj) hQ hy h1
   have hfree' : ∀ k ok, ops[k]? = some ok → k ≠ i → (listed.setIfInBounds j true).getD k true = false →
     (∀ e ∈ ok.after, Region.binds md e = true → e.on ≠ i) → oi.apart ops ok = true := fun k ok hk hki hun hno => by
    refine hfree k ok hk hki ?_ hno
    by_cases hjk : j = k
    ·subst hjk; exact hjun
    ·rw [getD_set_ne true hjk] at hun; exact hun
   refine wpOp_mono (fun a' w' h3 => ⟨h3.2.1, ih (listed.setIfInBounds j true) a' w' h3.2.1 hfree' (ready_mono hr (Ne.symm hji)) h3.1 ?_⟩) h2
   rw [Array.setIfInBounds_comm _ _ hji]
   exact h3.2.2
def qcB (md : Region.Mode) (ops : Array Oper) (n1 : Nat) : List Nat → Array Bool → Bool
 | [], _ => true
 | k :: p, L => decide (k < n1) && ((ops[k]?).map stillOp).getD false && (Region.ready md ops L).contains k && Region.free md ops L k && qcB md ops n1 p (L.setIfInBounds k true)
def mixcB (md : Region.Mode) (ops : Array Oper) (n1 : Nat) (s2 : List Stp) : List Stp → Array Bool → Bool
 | [], L => (List.range n1).all (fun j => L.getD j true) && mixB md ops s2 L
 | .q ks :: s, L => qcB md ops n1 ks L && mixcB md ops n1 s2 s (runSet L ks)
 | .f ks :: s, L => fB md ops ks L && mixcB md ops n1 s2 s (runSet L ks)
 | .p i j :: s, L => decide (Region.ready md ops L = [i, j]) && fB md ops [j] (runSet L [i]) && fB md ops [i] (runSet L [j]) && (ops[i]?).isSome && (ops[j]?).isSome && (runSet L [j, i] == runSet L [i, j]) && mixcB md ops n1 s2 s (runSet L [i, j])
def wpSteps (P : Program) (ops : Array Oper) (C : World → Prop) (X : Act → World → Prop) : List Oper → Act → World → Prop
 | [], a, w => X a w
 | o :: rest, a, w => wpList P ops (contF fun a' w' => C w' ∧ wpSteps P ops C X rest a' w') [o] a w
def wpMixC (P : Program) (l : List Oper) (C : World → Prop) (Q : Exit → Act → World → Prop) (s2 : List Stp) : List Stp → Act → World → Prop
 | [], a, w => wpMix P l Q s2 a w
 | .q ks :: s, a, w => wpQuiet P l.toArray C (fun a' => wpMixC P l C Q s2 s a' w) (pick l ks) a
 | .f ks :: s, a, w => wpSteps P l.toArray C (wpMixC P l C Q s2 s) (pick l ks) a w
 | .p i j :: s, a, w => wpSteps P l.toArray C (wpMixC P l C Q s2 s) (pick l [i, j]) a w ∧ wpSteps P l.toArray C (wpMixC P l C Q s2 s) (pick l [j, i]) a w
theorem wpAnyC_q {l : List Oper} {Q : Exit → Act → World → Prop} {n1 m : Nat} (hp : phaseB md l.toArray n1 = true) (hQ : ∀ c a a' w, Q (.panic c) a w → Q (.panic c) a' w) (hsel : Region.noSelect l.toArray = true) {X : Act → World → Prop} {n : Nat} :
  ∀ (p : List Nat) (L : Array Bool) (a : Act) (w : World), C w → qcB md l.toArray n1 p L = true → (∀ a', X a' w → wpAnyC P md l.toArray C Q n1 m n (runSet L p) a' w) → wpQuiet P l.toArray C (fun a' => X a' w) (pick l p) a →
   wpAnyC P md l.toArray C Q n1 m (p.length + n) L a w := by
 intro p
 induction p with
 | nil => intro L a w hC hB h hx; rw [List.length_nil, Nat.zero_add]; exact h a hx
 | cons i p ih =>
  intro L a w hC hB h hx
  simp only [qcB, Bool.and_eq_true, decide_eq_true_eq] at hB
  obtain ⟨⟨⟨⟨hin, ho⟩, hr⟩, hf⟩, hB'⟩ := hB
  cases ho2 : l.toArray[i]? with
  | none => rw [ho2] at ho; cases ho
  | some o =>
   rw [ho2] at ho
   have hs1 : stillOp o = true := by simpa using ho
   have ho' : l[i]? = some o := by simpa using ho2
   rw [pick_cons ho'] at hx
   have hr' : i ∈ Region.ready md l.toArray L := by simpa using hr
   have hq : qOp P l.toArray C i (wpQuiet P l.toArray C (fun a' => X a' w) (pick l p)) a := by unfold qOp; simp only [ho2]; exact hx
   obtain ⟨v, hy, hK⟩ := yieldsX_of_quiet ho2 hs1 hq
   rw [List.length_cons, show p.length + 1 + n = (p.length + n) + 1 from by omega]
   exact wpAnyC_first hp hin ho2 (Region.noSelect_spec hsel) (fun c a w h => hQ c _ _ w h) _ L a w hC (Region.free_spec ho2 hf) hr' hy (ih _ _ _ hC hB' h hK)
theorem wpAnyC_f {l : List Oper} {Q : Exit → Act → World → Prop} {X : Act → World → Prop} {n n1 m : Nat} :
  ∀ (p : List Nat) (L : Array Bool) (a : Act) (w : World), C w → fB md l.toArray p L = true → (∀ a' w', C w' → X a' w' → wpAnyC P md l.toArray C Q n1 m n (runSet L p) a' w') → wpSteps P l.toArray C X (pick l p) a w →
   wpAnyC P md l.toArray C Q n1 m (p.length + n) L a w := by
 intro p
 induction p with
 | nil => intro L a w hC hB h hx; rw [List.length_nil, Nat.zero_add]; exact h a w hC hx
 | cons k p ih =>
  intro L a w hC hB h hx
  simp only [fB, Bool.and_eq_true, decide_eq_true_eq] at hB
  obtain ⟨⟨hr, ho⟩, hB'⟩ := hB
  obtain ⟨o, ho⟩ := Option.isSome_iff_exists.1 ho
  have ho' : l[k]? = some o := by simpa using ho
  rw [pick_cons ho'] at hx
  rw [List.length_cons, show p.length + 1 + n = (p.length + n) + 1 from by omega]
  refine ⟨fun h1 => (by rw [hr] at h1; cases h1), fun i hi => ?_⟩
  rw [hr] at hi
  have hik : i = k := by simpa using hi
  subst hik
  rw [wpSteps] at hx
  have hw : wpOp P l.toArray (contF fun a' w' => C w' ∧ wpSteps P l.toArray C X (pick l p) a' w') i (fun a' w' => C w' ∧ wpSteps P l.toArray C X (pick l p) a' w') a w := by
   unfold wpOp; simp only [ho]; exact hx
  exact wpOp_mono (fun a' w' h' => ⟨h'.1, ih _ _ _ h'.1 hB' h h'.2⟩) (wpOp_F hw)
theorem wpAnyC_mix {l : List Oper} {Q : Exit → Act → World → Prop} {n1 : Nat} {s2 : List Stp} (hp : phaseB md l.toArray n1 = true) (hQ : ∀ c a a' w, Q (.panic c) a w → Q (.panic c) a' w) (hsel : Region.noSelect l.toArray = true) :
  ∀ (s : List Stp) (L : Array Bool) (a : Act) (w : World), C w → mixcB md l.toArray n1 s2 s L = true → wpMixC P l C Q s2 s a w → wpAnyC P md l.toArray C Q n1 (lenS s2) (lenS s) L a w := by
 intro s
 induction s with
 | nil =>
  intro L a w hC hB h
  simp only [mixcB, Bool.and_eq_true] at hB
  exact ⟨fun j hj => List.all_eq_true.1 hB.1 j (List.mem_range.2 hj), wpAny_mix hQ hsel s2 L a w hB.2 h⟩
 | cons st s ih =>
  intro L a w hC hB h
  cases st with
  | q ks =>
   simp only [mixcB, Bool.and_eq_true] at hB
   exact wpAnyC_q hp hQ hsel (X := wpMixC P l C Q s2 s) ks L a w hC hB.1 (fun a' h' => ih _ _ _ hC hB.2 h') h
  | f ks =>
   simp only [mixcB, Bool.and_eq_true] at hB
   exact wpAnyC_f ks L a w hC hB.1 (fun a' w' hC' h' => ih _ _ _ hC' hB.2 h') h
  | p i j =>
   simp only [mixcB, Bool.and_eq_true, decide_eq_true_eq, beq_iff_eq] at hB
   obtain ⟨⟨⟨⟨⟨⟨hr, h1⟩, h2⟩, hi⟩, hj⟩, he⟩, hB'⟩ := hB
   obtain ⟨ha, hb⟩ := h
   show wpAnyC P md l.toArray C Q n1 (lenS s2) (2 + lenS s) L a w
   rw [show 2 + lenS s = (1 + lenS s) + 1 from by omega]
   refine ⟨fun h1 => (by rw [hr] at h1; cases h1), fun k hk => ?_⟩
   rw [hr] at hk
   rcases (by simpa using hk : k = i ∨ k = j) with rfl | rfl
   ·obtain ⟨o, ho⟩ := Option.isSome_iff_exists.1 hi
    have ho' : l[k]? = some o := by simpa using ho
    rw [pick_cons ho', wpSteps] at ha
    have hw : wpOp P l.toArray (contF fun a' w' => C w' ∧ wpSteps P l.toArray C (wpMixC P l C Q s2 s) (pick l [j]) a' w') k (fun a' w' => C w' ∧ wpSteps P l.toArray C (wpMixC P l C Q s2 s) (pick l [j]) a' w') a w := by
     unfold wpOp; simp only [ho]; exact ha
    exact wpOp_mono (fun a' w' h' => ⟨h'.1, wpAnyC_f [j] _ a' w' h'.1 h1 (fun a'' w'' hC'' h'' => ih _ _ _ hC'' hB' h'') h'.2⟩) (wpOp_F hw)
   ·obtain ⟨o, ho⟩ := Option.isSome_iff_exists.1 hj
    have ho' : l[k]? = some o := by simpa using ho
    rw [pick_cons ho', wpSteps] at hb
    have hw : wpOp P l.toArray (contF fun a' w' => C w' ∧ wpSteps P l.toArray C (wpMixC P l C Q s2 s) (pick l [i]) a' w') k (fun a' w' => C w' ∧ wpSteps P l.toArray C (wpMixC P l C Q s2 s) (pick l [i]) a' w') a w := by
     unfold wpOp; simp only [ho]; exact hb
    refine wpOp_mono (fun a' w' h' => ⟨h'.1, wpAnyC_f [i] _ a' w' h'.1 h2 (fun a'' w'' hC'' h'' => ?_) h'.2⟩) (wpOp_F hw)
    have := ih _ _ _ hC'' hB' h''
    rw [← he] at this
    exact this
def mixcAllB (l : List Oper) (n1 : Nat) (s s2 : List Stp) : Bool :=
 Region.noSelect l.toArray && phaseB .any l.toArray n1 && decide (lenS s + lenS s2 = l.length) && mixcB .any l.toArray n1 s2 s (Array.replicate l.length false)
theorem wp_mixC (C : World → Prop) {id : Nat} {a : Act} {w : World} {l : List Oper} (n1 : Nat) (s s2 : List Stp) (hm : P.follows .mixedOrders = true) (hB : mixcAllB l n1 s s2 = true) (hC : C w.drew)
  (h : ∀ Q' : Exit → Act → World → Prop, (∀ a w, Q .normal a w → Q' .normal a w) → wpMixC P l C Q' s2 s a w.drew) :
  (Code.region id l.toArray true).wp P Q a w := by
 simp only [mixcAllB, Bool.and_eq_true, decide_eq_true_eq] at hB
 obtain ⟨⟨⟨hsel, hp⟩, hlen⟩, hB⟩ := hB
 refine Code.wp_mono (Q := noPan Q) (fun e a w hq => by cases e <;> first | exact hq | exact (hq : False).elim) ?_
 refine wp_region_any hm ?_
 have := wpAny_of_C (C := C) _ _ _ _ (wpAnyC_mix (md := .any) (Q := noPan Q) hp (fun c a a' w hq => hq) hsel s (Array.replicate l.length false) a w.drew hC hB (h (noPan Q) fun _ _ h => h))
 rw [show lenS s + lenS s2 = l.toArray.size from by simp; omega] at this
 simpa using this
end
theorem run_load_cell {P : Program} {o : Oper} {a : Act} {w : World} {ty : TypeId} {x : Operand} {p : Addr} {v : Value} (ho : o.op = .load ty x) (hx : a.eval x = .pointer (some p)) (hd : ∀ w, (isAgg ty).run P w = .ok false w) (hc : w.cell? p = some v) :
  (execOp a.eval o).run P w = .ok (.value v) w := by
 unfold execOp
 simp only [ho, hx]
 simp [go_sem, hc, hd]
def aggB (P : Program) (ty : TypeId) : Bool := match P.underlying ty with | some (.struct _) | some (.array _ _) | none => true | _ => false
theorem isAgg_no {P : Program} {ty : TypeId} (h : aggB P ty = false) (w : World) : (isAgg ty).run P w = .ok false w := by
 unfold aggB at h
 cases e : P.underlying ty with
 | none => rw [e] at h; cases h
 | some d =>
  rw [e] at h
  simp only [isAgg, Sem.run_bind, run_underlying e, Result.andThen_ok]
  split
  ·cases h
  ·cases h
  ·rfl
theorem quiet_cellB {P : Program} {o : Oper} {a : Act} {B : Nat} {w0 : World} {K : Act → Prop} {ty : TypeId} {x : Operand} {b off : Nat} {v : Value} (ho : o.op = .load ty x) (hx : a.eval x = .pointer (some ⟨b, off, none⟩)) (hd : aggB P ty = false)
  (hc : w0.cell? ⟨b, off, none⟩ = some v) (hb : b < B) (hK : K (a.put o.dst v)) : o.quiet P a (fun w' => Below B w0 w') K :=
 quiet_val v (fun w hw => run_load_cell ho hx (isAgg_no hd) ((hw.cell (p := ⟨b, off, none⟩) hb).trans hc)) hK
end Go.Proofs.YtfadkjcfjkmalaaGreatDoor
set_option linter.unusedVariables false
set_option linter.unusedSimpArgs false
namespace Go.Proofs.YtfadkjcfjkmalaaGreatDoor
open Go.RowKit
def KeepB (G : List Nat) (W wc : World) : Prop := ∀ g ∈ G, g < wc.heap.size ∧ wc.heap[g]? = W.heap[g]?
theorem KeepB.refl {G : List Nat} {W : World} (h : ∀ g ∈ G, g < W.heap.size) : KeepB G W W := fun g hg => ⟨h g hg, rfl⟩
theorem KeepB.drew {G : List Nat} {W w : World} (h : KeepB G W w) : KeepB G W w.drew := fun g hg => h g hg
theorem KeepB.below {G : List Nat} {W w w' : World} (h : KeepB G W w) (hb : Below w.heap.size w w') : KeepB G W w' := fun g hg => ⟨Nat.lt_of_lt_of_le (h g hg).1 hb.size, (hb.block g (h g hg).1).trans (h g hg).2⟩
theorem KeepB.alloc {G : List Nat} {W w : World} (h : KeepB G W w) (o : Obj) : KeepB G W (w.alloc o) := KeepB.below h ((Below.refl _ _).alloc (Nat.le_refl _) o)
theorem heap_setCell_ne (w : World) (g k off : Nat) (v : Value) (h : g ≠ k) : (w.setCell ⟨k, off, none⟩ v).heap[g]? = w.heap[g]? := heap_setCell_other w ⟨k, off, none⟩ g v h
theorem KeepB.setCell {G : List Nat} {W w : World} {k off : Nat} {v : Value} (h : KeepB G W w) (hk : ∀ g ∈ G, g ≠ k) : KeepB G W (w.setCell ⟨k, off, none⟩ v) := fun g hg => by
 rw [World.size_setCell, heap_setCell_ne _ _ _ _ _ (hk g hg)]; exact h g hg
theorem KeepB.cell {G : List Nat} {W w : World} (h : KeepB G W w) {g off : Nat} (hg : g ∈ G) : w.cell? ⟨g, off, none⟩ = W.cell? ⟨g, off, none⟩ := by
 simp only [World.cell?, (h g hg).2]
section
variable {P : Program} {md : Region.Mode} {ops : Array Oper} {Q : Exit → Act → World → Prop} {C : World → Prop}
end
end Go.Proofs.YtfadkjcfjkmalaaGreatDoor