/- Tracks: the law of reached places. -/
import Derived.Test.YtlmdmpjfehpjeaaK23
import Derived.Test.YtlmdmpjfehpjeaaK9
import Derived.Test.YtlmdmpjfehpjeaaK10
set_option linter.unusedVariables false
set_option linter.unusedSimpArgs false
namespace Go.Proofs.Ytlmdmpjfehpjeaa
open Go.RowKit

theorem fnz_l {a b : Int} (h : a ≠ 0) : firstNZ [a, b] = a := by simp [firstNZ, h]
theorem fnz_r {b : Int} : firstNZ [0, b] = b := by by_cases h : b = 0 <;> simp [firstNZ, h]
theorem q_ne {a : Int} (h : a ≠ 0) : (a == 0) = false ∧ (a != 0) = true := by constructor <;> simpa using h
theorem small_iff {n d : Int} (hn : 0 ≤ n) (hd : 1 ≤ d ∧ d ≤ 1200) : smallB n d = decide (n ≤ 1000000000) := by
  by_cases h : n ≤ 1000000000
  · rw [decide_eq_true h]
    unfold smallB
    rw [inB_true.2 ⟨by omega, h⟩, inB_true.2 ⟨by omega, by omega⟩]; rfl
  · rw [decide_eq_false h]
    unfold smallB
    rw [inB_false.2 (fun g => h g.2)]; rfl
theorem law_TrackReached (m : TMod) (s p : V3) (t : Int) (w : World) :
    Calls Try.prog 3 #[m.v, s.v, .agg #[.int .i64 p.x, .int .i64 p.y, .int .i64 p.z, .int .i64 t]] w fun e w' => e = .returned (.bool true) ∧ Below w.heap.size w w' := by
  have HC : Hid (∀ W, Calls Try.prog 14 #[m.v] W fun e w' => e = .returned (.int .i64 m.err) ∧ Below W.heap.size W w') := hid (fun W => track_CheckModel m W)
  have RM : Hid (∀ W, Calls Try.prog 18 #[m.v] W fun e w' => e = .returned (.int .i64 m.err) ∧ Below W.heap.size W w') := hid (fun W => ref_ModelErr m W)
  have RB : ∀ W, Calls Try.prog 19 #[m.v, s.v] W fun e w' => e = .returned (.int .i64 (m.both s)) ∧ Below W.heap.size W w' := fun W => ref_BothErr m s W RM
  have RMo : ∀ W, Calls Try.prog 20 #[.agg #[.int .i64 p.x, .int .i64 p.y, .int .i64 p.z, .int .i64 t]] W fun e w' => e = .returned (.int .i64 (momE p t)) ∧ Below W.heap.size W w' := fun W => ref_MomentErr p t W
  have RP : ∀ W, Calls Try.prog 21 #[.agg #[.int .i64 p.x, .int .i64 p.y, .int .i64 p.z]] W fun e w' => e = .returned (.int .i64 (plE p)) ∧ Below W.heap.size W w' := fun W => ref_PlaceErr p.x p.y p.z W
  by_cases hD : m.both s = 0
  · rw [hD] at RB
    by_cases hP : plE p = 0
    · rw [hP] at RP
      obtain ⟨o1, o2, o3, o4⟩ := both_ok hD
      have o5 := plE_ok hP
      have e0 : firstNZ [m.both s, plE p] = 0 := by rw [hD, hP]; rfl
      obtain ⟨n1, n2, n3, nS, nd, na, nds, naa, nn⟩ := near_nums o1 o2 o3 o5
      obtain ⟨u1, u2, u3, u4, _, _, _, _⟩ := r_pos nn.1 (show 0 < s.dot s by omega)
      have hsm := small_iff (n := rN (m.num s p) (s.dot s)) (d := rD (m.num s p) (s.dot s)) u1 ⟨u3, by omega⟩
      have RNE : Hid (∀ W, Calls Try.prog 25 #[m.v, s.v, p.v] W (RetRat W (rN (m.num s p) (s.dot s)) (rD (m.num s p) (s.dot s)) (fun _ => True))) := hid (fun W => ref_Nearest m s p W o1 o2 o3 o5)
      have RFR := fun W v (h : RatAt W v (rN (m.num s p) (s.dot s)) (rD (m.num s p) (s.dot s)) (fun _ => True)) => base_RatioFrac _ _ v W _ h (by omega) (by omega) (by omega) (by omega)
      rw [hsm] at RFR
      have HF := fun W => track_FirstAt m s p W
      have HN := fun W => track_NearestTo m s p W
      have RF := fun W => ref_First m s p W o1 o2 o3 o5
      have HR := fun W => track_ReachedBy m s p t W
      rw [e0] at HF HN
      rw [hD, fnz_r] at HR
      generalize hRN : rN (m.num s p) (s.dot s) = RN at *
      generalize hRD : rD (m.num s p) (s.dot s) = RD at *
      generalize hFF : m.first s p = FF at *
      by_cases hC : momE p t = 0
      · obtain ⟨g1, g2⟩ := momE_ok hC
        have RR : Hid (∀ W, Calls Try.prog 22 #[m.v, s.v, p.v, .int .i64 t] W fun e w' => e = .returned (.bool (m.reached s p t)) ∧ Below W.heap.size W w') := hid (fun W => ref_Reached m s p t W o1 o2 o3 o5 ⟨by omega, by omega⟩)
        rw [hC] at RMo HR
        have HR' := hid (fun W => (HR W).mono (fun e w' h => And.intro (h.1 rfl) h.2.2))
        cases hin : inB FF (-1000000) 1000000
        · have HF' := hid (fun W => (HF W).mono (fun e w' h => And.intro (h.2.1 rfl hin) h.2.2.2))
          have RF' := hid (fun W => (RF W).mono (fun e w' h => And.intro (h.2.1 hin) h.2.2))
          by_cases hs : RN ≤ 1000000000
          · have HN' := hid (fun W => (HN W).mono (fun e w' h => And.intro (h.1 rfl hs) h.2.2.2))
            have RFR' := hid (fun W v h => (RFR W v h).mono (fun e w' g => And.intro (g.1 (decide_eq_true hs)) g.2.2))
            exact law_Reached_E01 m.px m.py m.pz m.tm m.tk m.lo m.hi m.li m.ea m.la m.no m.mi s.x s.y s.z p.x p.y p.z t m.err RN RD RN RD (m.reached s p t) w HC RM HR' HF' HN' (hid RB) (hid RMo) (hid RP) RR RF' RNE RFR'
          · have HN' := hid (fun W => (HN W).mono (fun e w' h => And.intro (h.2.1 rfl hs) h.2.2.2))
            have RFR' := hid (fun W v h => (RFR W v h).mono (fun e w' g => And.intro (g.2.1 (decide_eq_false hs)) g.2.2))
            exact law_Reached_E00 m.px m.py m.pz m.tm m.tk m.lo m.hi m.li m.ea m.la m.no m.mi s.x s.y s.z p.x p.y p.z t m.err 0 0 RN RD (m.reached s p t) rfl rfl w HC RM HR' HF' HN' (hid RB) (hid RMo) (hid RP) RR RF' RNE RFR'
        · have HF' := hid (fun W => (HF W).mono (fun e w' h => And.intro (h.1 rfl hin) h.2.2.2))
          have RF' := hid (fun W => (RF W).mono (fun e w' h => And.intro (h.1 hin) h.2.2))
          by_cases hs : RN ≤ 1000000000
          · have HN' := hid (fun W => (HN W).mono (fun e w' h => And.intro (h.1 rfl hs) h.2.2.2))
            have RFR' := hid (fun W v h => (RFR W v h).mono (fun e w' g => And.intro (g.1 (decide_eq_true hs)) g.2.2))
            exact law_Reached_E11 m.px m.py m.pz m.tm m.tk m.lo m.hi m.li m.ea m.la m.no m.mi s.x s.y s.z p.x p.y p.z t m.err RN RD RN RD FF (m.reached s p t) w HC RM HR' HF' HN' (hid RB) (hid RMo) (hid RP) RR RF' RNE RFR'
          · have HN' := hid (fun W => (HN W).mono (fun e w' h => And.intro (h.2.1 rfl hs) h.2.2.2))
            have RFR' := hid (fun W v h => (RFR W v h).mono (fun e w' g => And.intro (g.2.1 (decide_eq_false hs)) g.2.2))
            exact law_Reached_E10 m.px m.py m.pz m.tm m.tk m.lo m.hi m.li m.ea m.la m.no m.mi s.x s.y s.z p.x p.y p.z t m.err 0 0 RN RD FF (m.reached s p t) rfl rfl w HC RM HR' HF' HN' (hid RB) (hid RMo) (hid RP) RR RF' RNE RFR'
      · obtain ⟨q1, q2⟩ := q_ne hC
        have HR' := hid (fun W => (HR W).mono (fun e w' h => And.intro (h.2.1 hC) h.2.2))
        generalize momE p t = C at *
        cases hin : inB FF (-1000000) 1000000
        · have HF' := hid (fun W => (HF W).mono (fun e w' h => And.intro (h.2.1 rfl hin) h.2.2.2))
          have RF' := hid (fun W => (RF W).mono (fun e w' h => And.intro (h.2.1 hin) h.2.2))
          by_cases hs : RN ≤ 1000000000
          · have HN' := hid (fun W => (HN W).mono (fun e w' h => And.intro (h.1 rfl hs) h.2.2.2))
            have RFR' := hid (fun W v h => (RFR W v h).mono (fun e w' g => And.intro (g.1 (decide_eq_true hs)) g.2.2))
            exact law_Reached_C01 m.px m.py m.pz m.tm m.tk m.lo m.hi m.li m.ea m.la m.no m.mi s.x s.y s.z p.x p.y p.z t m.err RN RD RN RD C q1 q2 w HC RM HR' HF' HN' (hid RB) (hid RMo) (hid RP) RF' RNE RFR'
          · have HN' := hid (fun W => (HN W).mono (fun e w' h => And.intro (h.2.1 rfl hs) h.2.2.2))
            have RFR' := hid (fun W v h => (RFR W v h).mono (fun e w' g => And.intro (g.2.1 (decide_eq_false hs)) g.2.2))
            exact law_Reached_C00 m.px m.py m.pz m.tm m.tk m.lo m.hi m.li m.ea m.la m.no m.mi s.x s.y s.z p.x p.y p.z t m.err 0 0 RN RD C q1 q2 rfl rfl w HC RM HR' HF' HN' (hid RB) (hid RMo) (hid RP) RF' RNE RFR'
        · have HF' := hid (fun W => (HF W).mono (fun e w' h => And.intro (h.1 rfl hin) h.2.2.2))
          have RF' := hid (fun W => (RF W).mono (fun e w' h => And.intro (h.1 hin) h.2.2))
          by_cases hs : RN ≤ 1000000000
          · have HN' := hid (fun W => (HN W).mono (fun e w' h => And.intro (h.1 rfl hs) h.2.2.2))
            have RFR' := hid (fun W v h => (RFR W v h).mono (fun e w' g => And.intro (g.1 (decide_eq_true hs)) g.2.2))
            exact law_Reached_C11 m.px m.py m.pz m.tm m.tk m.lo m.hi m.li m.ea m.la m.no m.mi s.x s.y s.z p.x p.y p.z t m.err RN RD RN RD C FF q1 q2 w HC RM HR' HF' HN' (hid RB) (hid RMo) (hid RP) RF' RNE RFR'
          · have HN' := hid (fun W => (HN W).mono (fun e w' h => And.intro (h.2.1 rfl hs) h.2.2.2))
            have RFR' := hid (fun W v h => (RFR W v h).mono (fun e w' g => And.intro (g.2.1 (decide_eq_false hs)) g.2.2))
            exact law_Reached_C10 m.px m.py m.pz m.tm m.tk m.lo m.hi m.li m.ea m.la m.no m.mi s.x s.y s.z p.x p.y p.z t m.err 0 0 RN RD C FF q1 q2 rfl rfl w HC RM HR' HF' HN' (hid RB) (hid RMo) (hid RP) RF' RNE RFR'
    · obtain ⟨q1, q2⟩ := q_ne hP
      have eM : momE p t = plE p := by unfold momE; exact fnz_l hP
      have HR := fun W => track_ReachedBy m s p t W
      have HF := fun W => track_FirstAt m s p W
      have HN := fun W => track_NearestTo m s p W
      rw [hD, fnz_r] at HR HF HN
      rw [eM] at HR RMo
      exact law_Reached_B m.px m.py m.pz m.tm m.tk m.lo m.hi m.li m.ea m.la m.no m.mi s.x s.y s.z p.x p.y p.z t m.err (plE p) (plE p) 0 0 q1 q2 rfl rfl rfl w HC RM (hid (fun W => (HR W).mono (fun e w' h => And.intro (h.2.1 hP) h.2.2))) (hid (fun W => (HF W).mono (fun e w' h => And.intro (h.2.2.1 hP) h.2.2.2))) (hid (fun W => (HN W).mono (fun e w' h => And.intro (h.2.2.1 hP) h.2.2.2))) (hid RB) (hid RMo) (hid RP)
  · obtain ⟨q1, q2⟩ := q_ne hD
    have HR := fun W => track_ReachedBy m s p t W
    have HF := fun W => track_FirstAt m s p W
    have HN := fun W => track_NearestTo m s p W
    rw [fnz_l hD] at HR HF HN
    exact law_Reached_A m.px m.py m.pz m.tm m.tk m.lo m.hi m.li m.ea m.la m.no m.mi s.x s.y s.z p.x p.y p.z t m.err (m.both s) 0 0 q1 q2 rfl rfl w HC RM (hid (fun W => (HR W).mono (fun e w' h => And.intro (h.2.1 hD) h.2.2))) (hid (fun W => (HF W).mono (fun e w' h => And.intro (h.2.2.1 hD) h.2.2.2))) (hid (fun W => (HN W).mono (fun e w' h => And.intro (h.2.2.1 hD) h.2.2.2))) (hid RB)
end Go.Proofs.Ytlmdmpjfehpjeaa

/- Tracks: arguments opened: values all of whose cells are numbers. -/
set_option linter.unusedVariables false
set_option linter.unusedSimpArgs false
namespace Go.Proofs.Ytlmdmpjfehpjeaa
open Go.RowKit
section
variable {H : Type} {enc : TypeId × Value → H} {P : Program} {w : World} {base : Nat} {spare : Nat → Bool} {held : Bool}

/-- every cell of a value of a type is a number. -/
def flB (P : Program) : Nat → TypeId → Bool
  | 0, _ => false
  | k + 1, t => match P.underlying t with
    | some (.int .i64) => P.cellsOf t == 1
    | some (.array n e) => flB P k e && (List.range (P.cellsOf t)).all (fun j => (List.range n).any (fun i => decide (i * P.cellsOf e ≤ j) && decide (j < i * P.cellsOf e + P.cellsOf e)))
    | some (.struct fs) => (List.range (P.cellsOf t)).all (fun j => (List.range fs.size).any (fun i => match fs[i]? with
      | some f => flB P k f.type && decide (f.offset ≤ j) && decide (j < f.offset + P.cellsOf f.type)
      | none => false))
    | _ => false
theorem cells_of_trod : ∀ (k : Nat) (t : TypeId) (fuel : Nat) (cs : List Value) (x : DataW H × List MemPlace), flB P k t = true → DataW.trod enc P w base spare held fuel t cs = some x → ∀ j, j < P.cellsOf t → ∃ n : Int, cs[j]? = some (.int .i64 n) ∧ (Lit.int .i64 n).wf = true := by
  intro k
  induction k with
  | zero => intro t fuel cs x h; cases h
  | succ k ih =>
    intro t fuel cs x hB h j hj
    unfold flB at hB
    split at hB
    · next ht =>
      obtain ⟨n, h1, _, h2⟩ := DataW.trod_int ht h
      simp only [beq_iff_eq] at hB
      rw [hB] at hj
      obtain rfl : j = 0 := by omega
      exact ⟨n, by rw [h1]; rfl, h2⟩
    · next n e ht =>
      simp only [Bool.and_eq_true] at hB
      obtain ⟨xs, m, _, _, hl, hxs, hf⟩ := DataW.trod_array ht h
      have h1 := List.all_eq_true.1 hB.2 j (List.mem_range.2 hj)
      obtain ⟨i, hi, h2⟩ := List.any_eq_true.1 h1
      have hi' := List.mem_range.1 hi
      simp only [Bool.and_eq_true, decide_eq_true_eq] at h2
      have h5 := hf i hi'
      have e2 : xs[i]? = some xs[i] := by simp [hxs, hi']
      rw [e2] at h5
      obtain ⟨q, hq, hw⟩ := ih e _ _ _ hB.1 h5 (j - i * P.cellsOf e) (by omega)
      refine ⟨q, ?_, hw⟩
      rw [List.getElem?_take, if_pos (by omega), List.getElem?_drop] at hq
      rwa [show i * P.cellsOf e + (j - i * P.cellsOf e) = j from by omega] at hq
    · next fs ht =>
      obtain ⟨xs, m, _, _, hl, hxs, hf⟩ := DataW.trod_struct ht h
      have h1 := List.all_eq_true.1 hB j (List.mem_range.2 hj)
      obtain ⟨i, hi, h2⟩ := List.any_eq_true.1 h1
      have hi' := List.mem_range.1 hi
      have e : fs[i]? = some fs[i] := by simp [hi']
      rw [e] at h2
      simp only [Bool.and_eq_true, decide_eq_true_eq] at h2
      have h5 := hf i _ e
      have e2 : xs[i]? = some xs[i] := by simp [hxs, hi']
      rw [e2] at h5
      obtain ⟨q, hq, hw⟩ := ih _ _ _ _ h2.1.1 h5 (j - fs[i].offset) (by omega)
      refine ⟨q, ?_, hw⟩
      rw [List.getElem?_take, if_pos (by omega), List.getElem?_drop] at hq
      rwa [show fs[i].offset + (j - fs[i].offset) = j from by omega] at hq
    · cases hB
theorem flat_cells {t : TypeId} {k n : Nat} {cs : Array Value} {d : DataW H} {ps : List MemPlace} (hB : flB P k t = true) (hn : P.cellsOf t = n) (hs : cs.size = n) (h : DataW.Trod enc P w base spare held t (.agg cs) d ps) :
    ∃ ns : List Int, ns.length = n ∧ Value.agg cs = .agg (ns.map (Value.int .i64)).toArray := by
  obtain ⟨fuel, hf⟩ := h
  have each := fun j (hj : j < n) => cells_of_trod k t fuel _ _ hB hf j (by rw [hn]; exact hj)
  obtain ⟨ns, h1, h2⟩ := list_of (0 : Int) n (R := fun j q => (Value.agg cs).cells.toList[j]? = some (.int .i64 q)) (fun j hj => by obtain ⟨q, hq, _⟩ := each j hj; exact ⟨q, hq⟩)
  refine ⟨ns, h1, ?_⟩
  have : cs = (ns.map (Value.int .i64)).toArray := by
    apply Array.ext'
    apply List.ext_getElem?
    intro i
    by_cases hi : i < n
    · have := h2 i hi
      simp only [Value.cells] at this
      rw [this]; simp [List.getD, h1, hi]
    · rw [List.getElem?_eq_none (by simp; omega), List.getElem?_eq_none (by simp [h1]; omega)]
  rw [this]
end
section
variable {H : Type} {enc : TypeId × Value → H} {w : World} {base : Nat} {spare : Nat → Bool} {held : Bool} {r : Reach} {b0 : Nat}
set_option maxRecDepth 100000 in
theorem vec_of_trod {v : Value} {d : DataW H} {ps : List MemPlace} (hv : Value.okWide Try.prog w r b0 22 v) (h : DataW.Trod enc Try.prog w base spare held 22 v d ps) : ∃ s : V3, v = s.v := by
  obtain ⟨cs, rfl, hs⟩ := okWide_array Try.underlying22 hv
  obtain ⟨ns, h1, h2⟩ := flat_cells (k := 4) (n := 3) (by kernel_rfl) (by kernel_rfl) hs h
  match ns, h1 with
  | [a, b, c], _ => exact ⟨⟨a, b, c⟩, h2⟩
set_option maxRecDepth 100000 in
theorem model_of_trod {v : Value} {d : DataW H} {ps : List MemPlace} (hv : Value.okWide Try.prog w r b0 26 v) (h : DataW.Trod enc Try.prog w base spare held 26 v d ps) : ∃ m : TMod, v = m.v := by
  obtain ⟨cs, rfl, hs⟩ := WideShapes.okWide_struct Try.underlying26 hv
  obtain ⟨ns, h1, h2⟩ := flat_cells (k := 4) (n := 12) (by kernel_rfl) (by kernel_rfl) hs h
  match ns, h1 with
  | [a, b, c, d, e, f, g, h, i, j, k, l], _ => exact ⟨⟨a, b, c, d, e, f, g, h, i, j, k, l⟩, h2⟩
set_option maxRecDepth 100000 in
theorem moment_of_trod {v : Value} {d : DataW H} {ps : List MemPlace} (hv : Value.okWide Try.prog w r b0 28 v) (h : DataW.Trod enc Try.prog w base spare held 28 v d ps) : ∃ (p : V3) (t : Int), v = .agg #[.int .i64 p.x, .int .i64 p.y, .int .i64 p.z, .int .i64 t] := by
  obtain ⟨cs, rfl, hs⟩ := WideShapes.okWide_struct Try.underlying28 hv
  obtain ⟨ns, h1, h2⟩ := flat_cells (k := 4) (n := 4) (by kernel_rfl) (by kernel_rfl) hs h
  match ns, h1 with
  | [a, b, c, d], _ => exact ⟨⟨a, b, c⟩, d, h2⟩
set_option maxRecDepth 100000 in
theorem box_of_trod {v : Value} {d : DataW H} {ps : List MemPlace} (hv : Value.okWide Try.prog w r b0 75 v) (h : DataW.Trod enc Try.prog w base spare held 75 v d ps) : ∃ b : TBox, v = b.v := by
  obtain ⟨cs, rfl, hs⟩ := WideShapes.okWide_struct Try.underlying75 hv
  obtain ⟨ns, h1, h2⟩ := flat_cells (k := 4) (n := 6) (by kernel_rfl) (by kernel_rfl) hs h
  match ns, h1 with
  | [a, b, c, d, e, f], _ => exact ⟨⟨⟨a, b, c⟩, ⟨d, e, f⟩⟩, h2⟩
end
end Go.Proofs.Ytlmdmpjfehpjeaa

