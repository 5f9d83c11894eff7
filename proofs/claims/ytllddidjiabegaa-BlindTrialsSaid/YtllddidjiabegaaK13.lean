/- The law of trials. -/
import Derived.Test.YtllddidjiabegaaK12
import Derived.Test.YtllddidjiabegaaK7
import Derived.ProofKit
import Derived.OpenShut
import Derived.ShutString
import Derived.ChangeOld
import Derived.Below
import Derived.Lib.SmallJoins
set_option linter.unusedVariables false
set_option linter.unusedSimpArgs false
namespace Go.Proofs.Ytllddidjiabegaa
open Go.RowKit

theorem lowB_of {n d : Int} (hd : 0 < d) (h : Int.gcd n d = 1) : lowB n d = true := by simp [lowB, hd, h]
theorem cmpI_le {x y : Int} (h : x ≤ y) : cmpI x y ≤ 0 := by unfold cmpI; split; omega; split <;> omega
theorem frac_prod {x y : Int} (hx : 0 ≤ x ∧ x ≤ 1000000000) (hy : 0 ≤ y ∧ y ≤ 1000000000) : 0 ≤ x * y ∧ x * y ≤ 1000000000000000000 := by
  refine ⟨Int.mul_nonneg hx.1 hy.1, ?_⟩
  have := Int.mul_le_mul hx.2 hy.2 hy.1 (by omega)
  omega
theorem dl9 {x : Int} (h : 0 ≤ x ∧ x ≤ 1000000000) : (dig x.natAbs).length ≤ 3 := dl_small (by omega)
theorem dl9n {x : Int} (h : 0 ≤ x ∧ x ≤ 1000000000) : (dig (-x).natAbs).length ≤ 3 := by rw [dln]; exact dl9 h
theorem dl1 : (dig (1 : Int).natAbs).length ≤ 3 := dl_small (by decide)
theorem dlr (n d : Int) (hd : 0 < d) {k : Nat} (h1 : (dig n.natAbs).length ≤ k) (h2 : (dig d.natAbs).length ≤ k) : (dig (rN n d).natAbs).length ≤ k ∧ (dig (rD n d).natAbs).length ≤ k := by
  obtain ⟨_, _, _, _, h3, h4⟩ := r_spec (n := n) hd
  exact ⟨Nat.le_trans (dld h3) h1, Nat.le_trans (dld h4) h2⟩

theorem law_Trials (n d t : Int) (w : World) (h1 : -9223372036854775808 ≤ n) (h2 : n ≤ 9223372036854775807) (h3 : d ≤ 9223372036854775807) :
    Calls Try.prog 5 #[.agg #[.int .i64 n, .int .i64 d], .int .i64 t] w fun e w' => e = .returned (.bool true) ∧ Below w.heap.size w w' := by
  have RT := fun W => ref_TrialsErr n d t W h1 h2 h3
  by_cases hE : triErr n d t = 0
  · rw [hE] at RT
    obtain ⟨hlow, ⟨hn0, hnd, hd9, hd⟩, ht1, ht2⟩ := triErr_ok hE
    by_cases ht : t = 12
    · subst ht
      exact law_Trials_12 n d w (hid RT)
    · obtain ⟨k, rfl⟩ : ∃ k : Nat, t = k := ⟨t.toNat, by omega⟩
      have hk : k < 12 := by omega
      have hnn : 0 ≤ n ∧ n ≤ d := ⟨hn0, hnd⟩
      have hg : Int.gcd n d = 1 := by
        simp only [lowB, Bool.and_eq_true, decide_eq_true_iff, beq_iff_eq] at hlow
        have := hlow.2; omega
      have hpar : parB n d = true := by simp only [parB, inB, Bool.and_eq_true, decide_eq_true_iff]; omega
      have hE1 : ∀ m : Int, 1 ≤ m → m ≤ 12 → triErr n d m = 0 := fun m a b => by
        rw [triErr_rest hlow hpar]; unfold trErr; rw [inB_true.2 ⟨a, b⟩]; rfl
      have hb1 : triBig d 1 = false := by
        unfold triBig pw
        simp only [decide_eq_false_iff_not]
        rw [show (1 : Int).toNat = 1 from rfl, Nat.pow_one]; omega
      have hv1 : triNum n d 1 = n ∧ triDen d 1 = d := by
        have := tri_num (k := 1) hnn
        rw [Int.pow_succ, Int.pow_succ, Int.pow_zero, Int.pow_zero] at this
        exact ⟨by have := this.1; simp at this; omega, by have := this.2; simp at this; exact this⟩
      have H1 := fun W => blind_TrialsOf n d 1 W h1 h2 h3
      have HA := fun W => blind_TrialsOf n d k W h1 h2 h3
      have HB := fun W => blind_TrialsOf n d ((k : Int) + 1) W h1 h2 h3
      unfold triV at H1 HA HB
      rw [if_pos (hE1 1 (by omega) (by omega)), hb1, if_neg (by decide), hv1.1, hv1.2] at H1
      rw [if_pos hE] at HA
      rw [if_pos (hE1 _ (by omega) (by omega))] at HB
      cases hbb : triBig d ((k : Int) + 1)
      · have hba : triBig d k = false := by
          cases e : triBig d k
          · rfl
          · exfalso
            unfold triBig pw at e hbb
            simp only [decide_eq_true_iff, decide_eq_false_iff_not] at e hbb
            exact hbb (big_mono (by omega) (by omega) e)
        rw [hba, if_neg (by decide)] at HA
        rw [hbb, if_neg (by decide)] at HB
        have hcast : ((k : Int) + 1) = ((k + 1 : Nat) : Int) := by push_cast; rfl
        rw [hcast] at HB hbb
        obtain ⟨ra1, ra2, ra3, ra4⟩ := tri_range (k := k) hnn hd hba
        obtain ⟨rb1, rb2, rb3, rb4⟩ := tri_range (k := k + 1) hnn hd hbb
        have ga := tri_low (k := k) hnn hd hg
        have gb := tri_low (k := k + 1) hnn hd hg
        have hm := tri_mono (k := k) hnn hd
        obtain ⟨an, han⟩ : ∃ x, x = triNum n d k := ⟨_, rfl⟩
        obtain ⟨ad, had⟩ : ∃ x, x = triDen d k := ⟨_, rfl⟩
        obtain ⟨bn, hbn⟩ : ∃ x, x = triNum n d (k + 1 : Nat) := ⟨_, rfl⟩
        obtain ⟨bd, hbd⟩ : ∃ x, x = triDen d (k + 1 : Nat) := ⟨_, rfl⟩
        rw [← han, ← had] at HA hm ga ra2
        rw [← hbn, ← hbd] at HB hm gb rb2
        rw [← han] at ra1
        rw [← had] at ra3 ra4
        rw [← hbn] at rb1
        rw [← hbd] at rb3 rb4
        obtain ⟨ln, hln⟩ : ∃ x, x = rN (1 * ad + -an * 1) (1 * ad) := ⟨_, rfl⟩
        obtain ⟨ld, hld⟩ : ∃ x, x = rD (1 * ad + -an * 1) (1 * ad) := ⟨_, rfl⟩
        obtain ⟨mn, hmn⟩ : ∃ x, x = rN (ln * n) (ld * d) := ⟨_, rfl⟩
        obtain ⟨md, hmd⟩ : ∃ x, x = rD (ln * n) (ld * d) := ⟨_, rfl⟩
        obtain ⟨sn, hsn⟩ : ∃ x, x = rN (an * md + mn * ad) (ad * md) := ⟨_, rfl⟩
        obtain ⟨sd, hsd⟩ : ∃ x, x = rD (an * md + mn * ad) (ad * md) := ⟨_, rfl⟩
        obtain ⟨qn, hqn⟩ : ∃ x, x = rN (((k + 1 : Nat) : Int) * n) (1 * d) := ⟨_, rfl⟩
        obtain ⟨qd, hqd⟩ : ∃ x, x = rD (((k + 1 : Nat) : Int) * n) (1 * d) := ⟨_, rfl⟩
        obtain ⟨L1, L2⟩ := trials_law hnn hd ⟨han, had⟩ ⟨hbn, hbd⟩ ⟨hln, hld⟩ ⟨hmn, hmd⟩ ⟨hsn, hsd⟩ ⟨hqn, hqd⟩
        have la := dl9 (x := an) ⟨ra1, by omega⟩
        have lan := dl9n (x := an) ⟨ra1, by omega⟩
        have lad := dl9 (x := ad) ⟨by omega, ra4⟩
        have lbn := dl9 (x := bn) ⟨rb1, by omega⟩
        have lbd := dl9 (x := bd) ⟨by omega, rb4⟩
        have lnn := dl9 (x := n) ⟨hn0, by omega⟩
        have ldd := dl9 (x := d) ⟨by omega, hd9⟩
        have l1 := dl1
        have lk := dl9 (x := ((k + 1 : Nat) : Int)) ⟨by omega, by omega⟩
        have hl0 : 0 < 1 * ad := by omega
        have l2 := dlm 1 ad
        have l3 := dlm (-an) 1
        obtain ⟨l5, l6⟩ := dlr (1 * ad + -an * 1) (1 * ad) hl0 (k := 7) (dla _ _ (by omega) (by omega)) (by omega)
        have hldp : 0 < ld := by rw [hld]; exact (r_spec hl0).2.2.2.1
        rw [← hln] at l5
        rw [← hld] at l6
        have hmp := Int.mul_pos hldp hd
        have l7 := dlm ln n
        have l8 := dlm ld d
        obtain ⟨l9, l10⟩ := dlr (ln * n) (ld * d) hmp (k := 10) (by omega) (by omega)
        have hmdp : 0 < md := by rw [hmd]; exact (r_spec hmp).2.2.2.1
        rw [← hmn] at l9
        rw [← hmd] at l10
        have hsp := Int.mul_pos ra3 hmdp
        have l11 := dlm an md
        have l12 := dlm mn ad
        have l13 := dlm ad md
        obtain ⟨l14, l15⟩ := dlr (an * md + mn * ad) (ad * md) hsp (k := 14) (dla _ _ (by omega) (by omega)) (by omega)
        have hsdp : 0 < sd := by rw [hsd]; exact (r_spec hsp).2.2.2.1
        rw [← hsn] at l14
        rw [← hsd] at l15
        have l16 := dlm ((k + 1 : Nat) : Int) n
        have l17 := dlm 1 d
        obtain ⟨l18, l19⟩ := dlr (((k + 1 : Nat) : Int) * n) (1 * d) (by omega) (k := 6) (by omega) (by omega)
        have hqdp : 0 < qd := by rw [hqd]; exact (r_spec (n := ((k + 1 : Nat) : Int) * n) (show 0 < 1 * d by omega)).2.2.2.1
        rw [← hqn] at l18
        rw [← hqd] at l19
        have lo1 := r_low ga
        have lo2 := r_low gb
        have lo3 := r_low hg
        have hab := frac_prod (x := an) (y := bd) ⟨ra1, by omega⟩ ⟨by omega, rb4⟩
        have hba2 := frac_prod (x := bn) (y := ad) ⟨rb1, by omega⟩ ⟨by omega, ra4⟩
        have tt : ∀ b : Nat, True := fun _ => trivial
        refine law_Trials_ok n d an ad bn bd ln ld mn md sn sd qn qd (sg (bn * qd - qn * bd)) (cmpI (an * bd) (bn * ad)) (cmpI (bn * 1) (1 * bd)) k w hk ?_ (cmpI_le hm) (cmpI_le (by omega)) (hid RT) (hid HA) (hid (by rw [hcast]; exact HB)) (hid H1)
          (hid (fun W => ?_)) (hid (fun W => ?_)) (hid (fun W => base_IsSmall an ad W ⟨ra1, by omega⟩ ⟨ra3, ra4⟩)) (hid (fun W => base_IsSmall bn bd W ⟨rb1, by omega⟩ ⟨rb3, rb4⟩))
          (hid (fun W => ?_)) (hid (fun W => ?_)) (hid (fun W => ?_)) (hid (fun W => base_RatioInt 1 W _ (fun _ _ => trivial) (by omega) (by omega))) (hid (fun W => base_RatioInt _ W _ (fun _ _ => trivial) (by omega) (by omega)))
          (hid (fun W r s h5 h6 => ?_)) (hid (fun W r s h5 h6 => ?_)) (hid (fun W r s h5 h6 => ?_)) (hid (fun W r s h5 h6 => ?_)) (hid (fun W r s h5 h6 => ?_)) (hid (fun W r s h5 h6 => ?_))
          (hid (fun W => base_Cmp an ad bn bd _ _ W rfl rfl hab hba2)) (hid (fun W => base_Cmp bn bd 1 1 _ _ W rfl rfl ⟨by omega, by omega⟩ ⟨by omega, by omega⟩))
        · unfold sg; split; omega; split <;> omega
        · have := base_IsLowest an ad W (by omega) (by omega) (by omega)
          rwa [lowB_of ra3 ga] at this
        · have := base_IsLowest bn bd W (by omega) (by omega) (by omega)
          rwa [lowB_of rb3 gb] at this
        · have := base_RatioFrom n d W (fun _ => True) (fun _ _ => trivial) hd (by omega) (by omega) (by omega)
          rwa [lo3.1, lo3.2] at this
        · have := base_RatioFrom an ad W (fun _ => True) (fun _ _ => trivial) ra3 (by omega) (by omega) (by omega)
          rwa [lo1.1, lo1.2] at this
        · have := base_RatioFrom bn bd W (fun _ => True) (fun _ _ => trivial) rb3 (by omega) (by omega) (by omega)
          rwa [lo2.1, lo2.2] at this
        · rw [hln, hld]
          exact base_RatioSub 1 1 an ad r s W _ (fun _ _ => trivial) h5 h6 (by omega) ra3 (by omega) (by omega) (by omega) (by omega)
        · rw [hmn, hmd]
          exact base_RatioMul ln ld n d r s W _ (fun _ _ => trivial) h5 h6 hldp hd (by omega) (by omega) (by omega) (by omega)
        · rw [hqn, hqd, ← hcast]
          exact base_RatioMul _ 1 n d r s W _ (fun _ _ => trivial) h5 h6 (by omega) hd (by rw [hcast]; omega) (by omega) (by omega) (by omega)
        · rw [hsn, hsd]
          exact base_RatioAdd an ad mn md r s W _ (fun _ _ => trivial) h5 h6 ra3 hmdp (by omega) (by omega) (by omega) (by omega)
        · have := base_RatioCmp bn bd sn sd r s W _ (fun _ _ => trivial) h5 h6 rb3 hsdp (by omega) (by omega) (by omega) (by omega)
          rw [L1] at this
          exact this
        · exact base_RatioCmp bn bd qn qd r s W _ (fun _ _ => trivial) h5 h6 rb3 hqdp (by omega) (by omega) (by omega) (by omega)
      · rw [hbb, if_pos rfl] at HB
        cases hba : triBig d k
        · rw [hba, if_neg (by decide)] at HA
          exact law_Trials_big n d _ _ 0 k w hk (Or.inl rfl) (hid RT) (hid HA) (hid HB) (hid H1)
        · rw [hba, if_pos rfl] at HA
          exact law_Trials_big n d _ _ 8 k w hk (Or.inr rfl) (hid RT) (hid HA) (hid HB) (hid H1)
  · exact law_Trials_err n d t _ w (by simpa using hE) (by simpa using hE) (hid RT)
end Go.Proofs.Ytllddidjiabegaa

/- Arguments opened: what reads as data, as rows of cells. -/
set_option linter.unusedVariables false
set_option linter.unusedSimpArgs false
namespace Go.Proofs.Ytllddidjiabegaa
open Go.RowKit
section
variable {H : Type} {enc : TypeId × Value → H} {P : Program} {w : World} {base : Nat} {spare : Nat → Bool} {held : Bool}

theorem cell_lt {w : World} {a : Addr} {v : Value} (h : w.cell? a = some v) : a.block < w.heap.size := by
  unfold World.cell? at h
  cases e : w.heap[a.block]? with
  | none => simp [e] at h
  | some o => exact (Array.getElem?_eq_some_iff.1 e).1

theorem list_of {α : Type} (d : α) : ∀ (n : Nat) {R : Nat → α → Prop}, (∀ i, i < n → ∃ x, R i x) → ∃ l : List α, l.length = n ∧ ∀ i, i < n → R i (l.getD i d) := by
  intro n
  induction n with
  | zero => intro R _; exact ⟨[], rfl, fun i hi => absurd hi (by omega)⟩
  | succ n ih =>
    intro R h
    obtain ⟨l, hl, hr⟩ := ih (fun i hi => h i (by omega))
    obtain ⟨x, hx⟩ := h n (by omega)
    refine ⟨l ++ [x], by simp [hl], fun i hi => ?_⟩
    rcases Nat.lt_or_ge i n with h1 | h1
    · have : (l ++ [x]).getD i d = l.getD i d := by simp [List.getD, List.getElem?_append_left (show i < l.length by omega)]
      rw [this]; exact hr i h1
    · have e : i = n := by omega
      subst e
      have : (l ++ [x]).getD i d = x := by rw [← hl]; simp [List.getD]
      rw [this]; exact hx

theorem SlAt.congr {w : World} {v : Value} {n sz : Nat} {c d : Nat → Nat → Value} (h : SlAt w v n sz c) (e : ∀ i j, i < n → j < sz → c i j = d i j) : SlAt w v n sz d := by
  obtain ⟨ao, cap, rfl, h1, h2, h3, h4⟩ := h
  refine ⟨ao, cap, rfl, h1, h2, fun h0 => ?_, h4⟩
  obtain ⟨b, off, e1, hlt, hc⟩ := h3 h0
  exact ⟨b, off, e1, hlt, fun i j hi hj => by rw [hc i j hi hj, e i j hi hj]⟩

/-- a slice that reads as data: each element's cells read as data. -/
theorem slAt_of_trod {t e : TypeId} {sz fuel : Nat} {v : Value} {x : DataW H × List MemPlace} (ht : P.underlying t = some (.slice e)) (hc : P.cellsOf e = sz) (hsz : 0 < sz)
    (h : DataW.trod enc P w base spare held fuel t [v] = some x) :
    ∃ (n : Nat) (css : Nat → List Value), SlAt w v n sz (fun i j => (css i).getD j undef) ∧ ∀ i, i < n → (css i).length = sz ∧ ∃ m y, DataW.trod enc P w base spare held m e (css i) = some y := by
  rcases DataW.trod_slice ht h with ⟨h0, _⟩ | ⟨a, len, cap, elems, rest, m, _, h0, _, hb, hl, hm, hlen, hel, _, _⟩
  · obtain rfl : v = .slice none 0 0 := by simpa using h0
    exact ⟨0, fun _ => [], ⟨none, 0, rfl, by simp, by simp, fun h => absurd h (by omega), fun _ => rfl⟩, fun i hi => absurd hi (by omega)⟩
  · obtain rfl : v = .slice (some a) len cap := by simpa using h0
    have each : ∀ i, i < len → ∃ cs : List Value, w.cells? base (a.add (i * sz)) sz = some cs ∧ ∃ y, DataW.trod enc P w base spare held m e cs = some y := by
      intro i hi
      have h1 := hel i hi
      rw [hc] at h1
      have h2 : elems[i]? = some elems[i] := by simp
      rw [h2, Option.bind_eq_some_iff] at h1
      obtain ⟨cs, h3, h4⟩ := h1
      exact ⟨cs, h3, _, h4⟩
    obtain ⟨css, hcl, hcs⟩ := list_of ([] : List Value) len each
    have hcell : ∀ i j, i < len → j < sz → w.cell? ((a.add (i * sz)).add j) = some ((css.getD i []).getD j undef) := by
      intro i j hi hj
      obtain ⟨_, h2, h3⟩ := World.cells?_some (hcs i hi).1
      rw [h3 j hj]
      generalize css.getD i [] = c at h2 ⊢
      rw [List.getElem?_eq_getElem (by omega)]
      simp [List.getD, List.getElem?_eq_getElem (show j < c.length by omega)]
    refine ⟨len, fun i => css.getD i [], ⟨some a, cap, rfl, hl, hm, fun hp => ?_, fun h => by cases h⟩, fun i hi => ⟨(World.cells?_some (hcs i hi).1).2.1, m, (hcs i hi).2⟩⟩
    obtain ⟨b, off, spot⟩ := a
    have hspot : spot = none := by simpa [Addr.add] using World.cell?_spot (hcell 0 0 hp hsz)
    subst hspot
    refine ⟨b, off, rfl, by simpa [Addr.add] using cell_lt (hcell 0 0 hp hsz), fun i j hi hj => ?_⟩
    have := hcell i j hi hj
    rw [add_plain', add_plain'] at this
    exact this

theorem intAt_of_trod {t : TypeId} {k : IntKind} {fuel : Nat} {cs : List Value} {x : DataW H × List MemPlace} (ht : P.underlying t = some (.int k)) (h : DataW.trod enc P w base spare held fuel t cs = some x) : ∃ n, cs = [.int k n] ∧ (Lit.int k n).wf = true := by
  obtain ⟨n, h1, _, h2⟩ := DataW.trod_int ht h
  exact ⟨n, h1, h2⟩
/-- a struct of numbers. -/
def intsB' (P : Program) (t : TypeId) (fs : Array Field) : Bool :=
  (P.cellsOf t == fs.size) && (List.range fs.size).all fun i => match fs[i]? with
    | some f => f.offset == i && P.cellsOf f.type == 1 && (match P.underlying f.type with | some (.int .i64) => true | _ => false)
    | none => true
theorem ints_of_struct {t : TypeId} {fs : Array Field} {fuel : Nat} {cs : List Value} {x : DataW H × List MemPlace} (ht : P.underlying t = some (.struct fs)) (hB : intsB' P t fs = true) (h : DataW.trod enc P w base spare held fuel t cs = some x) :
    ∃ ns : List Int, ns.length = fs.size ∧ cs = ns.map (Value.int .i64) := by
  obtain ⟨xs, m', _, _, hl, hxs, hf⟩ := DataW.trod_struct ht h
  simp only [intsB', Bool.and_eq_true, beq_iff_eq] at hB
  have each : ∀ i, i < fs.size → ∃ n : Int, cs[i]? = some (.int .i64 n) := by
    intro i hi
    have h1 := List.all_eq_true.1 hB.2 i (List.mem_range.2 hi)
    have e : fs[i]? = some fs[i] := by simp [hi]
    rw [e] at h1
    simp only [Bool.and_eq_true, beq_iff_eq] at h1
    obtain ⟨⟨h2, h3⟩, h4⟩ := h1
    have h5 := hf i _ e
    have e2 : xs[i]? = some xs[i] := by simp [hxs, hi]
    rw [h2, h3, e2] at h5
    cases e3 : P.underlying fs[i].type with
    | none => rw [e3] at h4; cases h4
    | some d =>
      rw [e3] at h4
      split at h4
      · rename_i _ e4
        cases e4
        obtain ⟨n, hn, _⟩ := DataW.trod_int e3 h5
        refine ⟨n, ?_⟩
        have h6 := congrArg (fun l => l[0]?) hn
        simpa using h6
      · cases h4
  obtain ⟨ns, h1, h2⟩ := list_of (0 : Int) fs.size each
  refine ⟨ns, h1, List.ext_getElem? fun i => ?_⟩
  by_cases hi : i < fs.size
  · rw [h2 i hi]; simp [List.getD, h1, hi]
  · rw [List.getElem?_eq_none (by rw [hl, hB.1]; omega), List.getElem?_eq_none (by simp [h1]; omega)]
end
end Go.Proofs.Ytllddidjiabegaa

/- Arguments opened: arrays and structs of numbers. -/
set_option linter.unusedVariables false
set_option linter.unusedSimpArgs false
namespace Go.Proofs.Ytllddidjiabegaa
open Go.RowKit
section
variable {H : Type} {enc : TypeId × Value → H} {P : Program} {w : World} {base : Nat} {spare : Nat → Bool} {held : Bool}

theorem okWide_array {r : Reach} {b0 n : Nat} {t e : TypeId} {v : Value} (ht : P.underlying t = some (.array n e)) (h : Value.okWide P w r b0 t v) : ∃ cs, v = .agg cs ∧ cs.size = P.cellsOf t := by
  simp only [Value.okWide, ht] at h
  obtain ⟨cs, h1, h2, _⟩ := h
  exact ⟨cs, h1, h2⟩

theorem ints_of_array {t e : TypeId} {n fuel : Nat} {cs : List Value} {x : DataW H × List MemPlace} (ht : P.underlying t = some (.array n e)) (he : P.underlying e = some (.int .i64)) (hc : P.cellsOf e = 1) (hn : P.cellsOf t = n) (h : DataW.trod enc P w base spare held fuel t cs = some x) :
    ∃ ns : List Int, ns.length = n ∧ cs = ns.map (Value.int .i64) ∧ ∀ i, i < n → (Lit.int .i64 (ns.getD i 0)).wf = true := by
  obtain ⟨xs, m, _, _, hl, hxs, hf⟩ := DataW.trod_array ht h
  have each : ∀ i, i < n → ∃ k : Int, cs[i]? = some (.int .i64 k) ∧ (Lit.int .i64 k).wf = true := by
    intro i hi
    have h5 := hf i hi
    have e2 : xs[i]? = some xs[i] := by simp [hxs, hi]
    rw [hc, e2, Nat.mul_one] at h5
    obtain ⟨k, hk, _, hw⟩ := DataW.trod_int he h5
    refine ⟨k, ?_, hw⟩
    have h6 := congrArg (fun l => l[0]?) hk
    simpa using h6
  obtain ⟨ns, h1, h2⟩ := list_of (0 : Int) n each
  refine ⟨ns, h1, List.ext_getElem? fun i => ?_, fun i hi => (h2 i hi).2⟩
  by_cases hi : i < n
  · rw [(h2 i hi).1]; simp [List.getD, h1, hi]
  · rw [List.getElem?_eq_none (by rw [hl, hn]; omega), List.getElem?_eq_none (by simp [h1]; omega)]

theorem arr2_of_trod {r : Reach} {b0 : Nat} {t e : TypeId} {v : Value} {d : DataW H} {ps : List MemPlace} (ht : P.underlying t = some (.array 2 e)) (he : P.underlying e = some (.int .i64)) (hc : P.cellsOf e = 1) (hn : P.cellsOf t = 2) (hv : Value.okWide P w r b0 t v) (h : DataW.Trod enc P w base spare held t v d ps) :
    ∃ a b : Int, v = .agg #[.int .i64 a, .int .i64 b] ∧ (Lit.int .i64 a).wf = true ∧ (Lit.int .i64 b).wf = true := by
  obtain ⟨cs, rfl, hs⟩ := okWide_array ht hv
  obtain ⟨fuel, hf⟩ := h
  obtain ⟨ns, h1, h2, h3⟩ := ints_of_array ht he hc hn hf
  match ns, h1 with
  | [a, b], _ =>
    refine ⟨a, b, ?_, h3 0 (by omega), h3 1 (by omega)⟩
    have : cs = #[.int .i64 a, .int .i64 b] := by
      apply Array.ext'
      simpa [Value.cells] using h2
    rw [this]
/-- a struct of numbers, by value. -/
theorem struct_ints {r : Reach} {b0 : Nat} {t : TypeId} {fs : Array Field} {v : Value} {d : DataW H} {ps : List MemPlace} (ht : P.underlying t = some (.struct fs)) (hB : intsB' P t fs = true) (hv : Value.okWide P w r b0 t v) (h : DataW.Trod enc P w base spare held t v d ps) :
    ∃ ns : List Int, ns.length = fs.size ∧ v = .agg (ns.map (Value.int .i64)).toArray ∧ ∀ i, i < fs.size → (Lit.int .i64 (ns.getD i 0)).wf = true := by
  obtain ⟨cs, rfl, hs⟩ := WideShapes.okWide_struct ht hv
  obtain ⟨fuel, hf⟩ := h
  obtain ⟨xs, m', _, _, hl, hxs, hff⟩ := DataW.trod_struct ht hf
  have hB' := hB
  simp only [intsB', Bool.and_eq_true, beq_iff_eq] at hB
  have each : ∀ i, i < fs.size → ∃ n : Int, (Value.agg cs).cells.toList[i]? = some (.int .i64 n) ∧ (Lit.int .i64 n).wf = true := by
    intro i hi
    have h1 := List.all_eq_true.1 hB.2 i (List.mem_range.2 hi)
    have e : fs[i]? = some fs[i] := by simp [hi]
    rw [e] at h1
    simp only [Bool.and_eq_true, beq_iff_eq] at h1
    obtain ⟨⟨h2, h3⟩, h4⟩ := h1
    have h5 := hff i _ e
    have e2 : xs[i]? = some xs[i] := by simp [hxs, hi]
    rw [h2, h3, e2] at h5
    cases e3 : P.underlying fs[i].type with
    | none => rw [e3] at h4; cases h4
    | some d =>
      rw [e3] at h4
      split at h4
      · rename_i _ e4
        cases e4
        obtain ⟨n, hn, _, hw⟩ := DataW.trod_int e3 h5
        refine ⟨n, ?_, hw⟩
        have h6 := congrArg (fun l => l[0]?) hn
        simpa using h6
      · cases h4
  obtain ⟨ns, h1, h2⟩ := list_of (0 : Int) fs.size each
  refine ⟨ns, h1, ?_, fun i hi => (h2 i hi).2⟩
  have : cs = (ns.map (Value.int .i64)).toArray := by
    apply Array.ext'
    apply List.ext_getElem?
    intro i
    by_cases hi : i < fs.size
    · have := (h2 i hi).1
      simp only [Value.cells] at this
      rw [this]; simp [List.getD, h1, hi]
    · rw [List.getElem?_eq_none (by simp; rw [hs, hB.1]; omega), List.getElem?_eq_none (by simp [h1]; omega)]
  rw [this]
theorem agg2_of_trod {r : Reach} {b0 : Nat} {t : TypeId} {fs : Array Field} {v : Value} {d : DataW H} {ps : List MemPlace} (ht : P.underlying t = some (.struct fs)) (hB : intsB' P t fs = true) (hn : fs.size = 2) (hv : Value.okWide P w r b0 t v) (h : DataW.Trod enc P w base spare held t v d ps) :
    ∃ a b : Int, v = .agg #[.int .i64 a, .int .i64 b] ∧ (Lit.int .i64 a).wf = true ∧ (Lit.int .i64 b).wf = true := by
  obtain ⟨ns, h1, h2, h3⟩ := struct_ints ht hB hv h
  rw [hn] at h1 h3
  match ns, h1 with
  | [a, b], _ => exact ⟨a, b, h2, h3 0 (by omega), h3 1 (by omega)⟩
theorem agg4_of_trod {r : Reach} {b0 : Nat} {t : TypeId} {fs : Array Field} {v : Value} {d : DataW H} {ps : List MemPlace} (ht : P.underlying t = some (.struct fs)) (hB : intsB' P t fs = true) (hn : fs.size = 4) (hv : Value.okWide P w r b0 t v) (h : DataW.Trod enc P w base spare held t v d ps) :
    ∃ a b c e : Int, v = .agg #[.int .i64 a, .int .i64 b, .int .i64 c, .int .i64 e] ∧ (Lit.int .i64 a).wf = true ∧ (Lit.int .i64 b).wf = true ∧ (Lit.int .i64 c).wf = true ∧ (Lit.int .i64 e).wf = true := by
  obtain ⟨ns, h1, h2, h3⟩ := struct_ints ht hB hv h
  rw [hn] at h1 h3
  match ns, h1 with
  | [a, b, c, e], _ => exact ⟨a, b, c, e, h2, h3 0 (by omega), h3 1 (by omega), h3 2 (by omega), h3 3 (by omega)⟩
end
end Go.Proofs.Ytllddidjiabegaa

