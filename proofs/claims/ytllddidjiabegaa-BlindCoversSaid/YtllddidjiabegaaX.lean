/- What a method selects and counts: the program. -/
import Derived.Test.YtllddidjiabegaaY
import Derived.Laws.EntriesVeiled
set_option linter.unusedVariables false
set_option linter.unusedSimpArgs false
namespace Go.Proofs.Ytllddidjiabegaa
open Go.RowKit

theorem clErr_okL {l : List Cut} (h : clErr l = 0) : okL l := by
  intro c hc
  unfold clErr at h
  rw [firstNZ_zero] at h
  have := h (cutErr c) (by simp only [List.mem_cons]; exact Or.inr (List.mem_map.2 ⟨c, hc, rfl⟩))
  unfold cutErr at this
  rw [firstNZ_zero] at this
  have h1 := this _ (List.mem_cons_self ..)
  unfold unl at h1
  split at h1
  · rename_i hb; exact inB_true.1 hb
  · cases h1
theorem methErr_okM {m : Meth} (h : methErr m = 0) : okM m.cs ∧ (m.cs.length ≤ 4 ∧ 0 < m.cs.length) ∧ (∀ l ∈ m.cs, clErr l = 0) ∧ winErr m.p m.fr m.to = 0 := by
  unfold methErr at h
  rw [firstNZ_zero] at h
  have h1 : cntErr m.cs.length = 0 := h _ (by simp)
  have h2 : scan (fun i => clErr (clAt m.cs i)) m.cs.length = 0 := h _ (by simp)
  have h3 : winErr m.p m.fr m.to = 0 := h _ (by simp)
  have h4 : ∀ l ∈ m.cs, clErr l = 0 := by
    intro l hl
    obtain ⟨j, hj, rfl⟩ := List.mem_iff_getElem.1 hl
    have := scan_zero h2 j hj
    rwa [clAt_lt hj] at this
  refine ⟨fun l hl => clErr_okL (h4 l hl), ?_, h4, h3⟩
  refine ⟨Nat.le_of_not_lt fun h5 => ?_, Nat.pos_of_ne_zero fun h5 => ?_⟩
  · rw [cntErr_big (by omega)] at h1; cases h1
  · rw [cntErr_zero (by omega)] at h1; cases h1
theorem winErr_ok {p fr to : Int} (h : winErr p fr to = 0) : (1 ≤ p ∧ p ≤ 100000) ∧ (0 ≤ fr ∧ fr ≤ p) ∧ (0 ≤ to ∧ to ≤ p) := by
  unfold winErr at h
  rw [firstNZ_zero] at h
  have h1 := h _ (List.mem_cons_self ..)
  unfold unl at h1
  split at h1
  · rename_i hb
    simp only [winB, Bool.and_eq_true, inB_true] at hb
    exact ⟨hb.1.1, hb.1.2, hb.2⟩
  · cases h1

def insB (t p fr to : Int) : Bool := inB (t % p) fr (to - 1)

theorem blind_fields (t en ze hi : Int) (w : World) : Calls Try.prog 120 #[.agg #[.int .i64 t, .int .i64 en, .int .i64 ze, .int .i64 hi]] w fun e w' => e = .returned (.agg #[.int .i64 en, .int .i64 ze, .int .i64 hi]) ∧ Below w.heap.size w w' := by
  go_enter Try.func120, Try.ntmps120
  go_wp2_with fail
  ((try simp only [Exit.inBlock, Exit.then]); refine bodyPost_ret (v := .agg #[.int .i64 en, .int .i64 ze, .int .i64 hi]) ?_ rfl ?_; (next => simp [results, Try.results120, go_sem]); refine ⟨?_, ?_⟩; (next => rfl); (next => (repeat (with_reducible first | exact Below.refl _ _ | assumption | refine Below.drewN _ ?_ | refine Below.drew ?_ | refine Below_alloc ?_ _ | refine Below.alloc ?_ (by first | (simp; done) | (simp; omega) | omega) _ | refine Below.setCell ?_ (by first | (simp; done) | (simp; omega) | omega) _ | refine Below_call ?_ (by assumption) | refine Below.trans ?_ (by assumption)))))

set_option maxRecDepth 100000 in
theorem blind_selects (cs : List (List Cut)) (cv : Value) (p fr to t en ze hi : Int) (w : World) (h : ClausesAt w cv cs) (hok : okM cs) :
    Calls Try.prog 81 #[.agg #[cv, .int .i64 p, .int .i64 fr, .int .i64 to], .agg #[.int .i64 t, .int .i64 en, .int .i64 ze, .int .i64 hi]] w fun e w' => e = .returned (.bool (selL ⟨t, en, ze, hi⟩ cs)) ∧ Below w.heap.size w w' := by
  have hmf : ∀ (fn : Fn) (first cap : Array Value) (w : World), (Instr.makeFunc fn first cap).run Try.prog w = .ok (.func fn first cap) w := fun _ _ _ _ => rfl
  have HC : Hid (∀ W bo bf, Below w.heap.size w W → OwnAt W bo ⟨t, en, ze, hi⟩ → bf < W.heap.size → W.cell? ⟨bf, 0, none⟩ = some (.func (.func 121) #[] #[.pointer (some ⟨bo, 0, none⟩)]) → Calls Try.prog 122 #[cv, .func (.func 123) #[] #[.pointer (some ⟨bf, 0, none⟩)]] W fun e w' => e = .returned (.bool (selL ⟨t, en, ze, hi⟩ cs)) ∧ Below W.heap.size W w') :=
    hid (fun W bo bf hW ho hbf hfn => cl_ContainsFunc ⟨t, en, ze, hi⟩ cs cv bo bf W (h.below hW) ho hok hbf hfn)
  clear h hok
  go_enter Try.func81, Try.ntmps81
  go_wp2_with (first | (go_at_call 120; refine (blind_fields t en ze hi _).mono ?_; rintro _ w1 ⟨rfl, hb1⟩; obtain ⟨hc1, hf1⟩ := bcell hb1; have hz1 := hb1.size; (try simp only [World.size_alloc, World.heap_drewN] at hz1); have hk1_0 : w.heap.size < w1.heap.size := (by omega); have q1_0_0 := hc1 (w.heap.size) 0 (by first | assumption | (simp; done) | (simp; omega)); (try simp at q1_0_0); have p1_0_0 := hf1 (w.heap.size) 0 (by first | assumption | (simp; done) | (simp; omega)); (try simp at p1_0_0); have q1_0_1 := hc1 (w.heap.size) 1 (by first | assumption | (simp; done) | (simp; omega)); (try simp at q1_0_1); have p1_0_1 := hf1 (w.heap.size) 1 (by first | assumption | (simp; done) | (simp; omega)); (try simp at p1_0_1); have q1_0_2 := hc1 (w.heap.size) 2 (by first | assumption | (simp; done) | (simp; omega)); (try simp at q1_0_2); have p1_0_2 := hf1 (w.heap.size) 2 (by first | assumption | (simp; done) | (simp; omega)); (try simp at p1_0_2); have q1_0_3 := hc1 (w.heap.size) 3 (by first | assumption | (simp; done) | (simp; omega)); (try simp at q1_0_3); have p1_0_3 := hf1 (w.heap.size) 3 (by first | assumption | (simp; done) | (simp; omega)); (try simp at p1_0_3)) | (go_at_call 122; refine (HC.out _ w1.heap.size (w1.heap.size + 1) ?_ ⟨?_, ?_, ?_, ?_⟩ ?_ ?_).mono ?_ ))
  · (repeat (with_reducible first | exact Below.refl _ _ | assumption | refine Below.drewN _ ?_ | refine Below.drew ?_ | refine Below_alloc ?_ _ | refine Below.alloc ?_ (by first | (simp; done) | (simp; omega) | omega) _ | refine Below.setCell ?_ (by first | (simp; done) | (simp; omega) | omega) _ | refine Below_call ?_ (by assumption) | refine Below.trans ?_ (by assumption)))
  all_goals try (first | (simp; done) | (simp; omega))
  rintro _ w2 ⟨rfl, hb2⟩
  go_wp2
  go_ret
  exact ⟨rfl, by (repeat (with_reducible first | exact Below.refl _ _ | assumption | refine Below.drewN _ ?_ | refine Below.drew ?_ | refine Below_alloc ?_ _ | refine Below.alloc ?_ (by first | (simp; done) | (simp; omega) | omega) _ | refine Below.setCell ?_ (by first | (simp; done) | (simp; omega) | omega) _ | refine Below_call ?_ (by assumption) | refine Below.trans ?_ (by assumption)))⟩

theorem blind_inside (cv : Value) (p fr to t en ze hi : Int) (w : World) (hp : 1 ≤ p) (ht : 0 ≤ t) (hto : 0 ≤ to) :
    Calls Try.prog 127 #[.agg #[cv, .int .i64 p, .int .i64 fr, .int .i64 to], .agg #[.int .i64 t, .int .i64 en, .int .i64 ze, .int .i64 hi]] w fun e w' => e = .returned (.bool (insB t p fr to)) ∧ Below w.heap.size w w' := by
  obtain ⟨a, ha⟩ : ∃ a, a = t % p := ⟨_, rfl⟩
  have HI : Hid (insB t p fr to = (decide (fr ≤ a) && decide (a < to))) := hid (by rw [ha]; simp only [insB, inB]; congr 1; rw [decide_eq_decide]; omega)
  have ha' : t % p = a := ha.symm
  clear ha
  have hmod : t.tmod p = a := by rw [← ha', Int.tmod_eq_emod_of_nonneg ht]
  by_cases h1 : fr ≤ a
  · go_enter Try.func127, Try.ntmps127
    go_wp2_with fail
    go_ret
    exact ⟨ret_bool (by rw [HI.out]; simp [h1]), by (repeat (with_reducible first | exact Below.refl _ _ | assumption | refine Below.drewN _ ?_ | refine Below.drew ?_ | refine Below_alloc ?_ _ | refine Below.alloc ?_ (by first | (simp; done) | (simp; omega) | omega) _ | refine Below.setCell ?_ (by first | (simp; done) | (simp; omega) | omega) _ | refine Below_call ?_ (by assumption) | refine Below.trans ?_ (by assumption)))⟩
  · go_enter Try.func127, Try.ntmps127
    go_wp2_with fail
    go_ret
    have h2 : ¬ fr ≤ a := by omega
    exact ⟨ret_bool (by rw [HI.out]; simp [h2]), by (repeat (with_reducible first | exact Below.refl _ _ | assumption | refine Below.drewN _ ?_ | refine Below.drew ?_ | refine Below_alloc ?_ _ | refine Below.alloc ?_ (by first | (simp; done) | (simp; omega) | omega) _ | refine Below.setCell ?_ (by first | (simp; done) | (simp; omega) | omega) _ | refine Below_call ?_ (by assumption) | refine Below.trans ?_ (by assumption)))⟩

end Go.Proofs.Ytllddidjiabegaa
