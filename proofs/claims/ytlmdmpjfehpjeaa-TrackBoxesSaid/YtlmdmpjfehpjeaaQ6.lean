/- Texts of this claim, together. -/
import Derived.Test.YtlmdmpjfehpjeaaQ5

/- Tracks: the error of a model by the reference. -/
set_option linter.unusedVariables false
set_option linter.unusedSimpArgs false
namespace Go.Proofs.Ytlmdmpjfehpjeaa
open Go.RowKit

theorem err_cases (m : TMod) : (plE m.pl ≠ 0 → m.err = plE m.pl) ∧ (plE m.pl = 0 → tmE m.tm ≠ 0 → m.err = tmE m.tm) ∧ (plE m.pl = 0 → tmE m.tm = 0 → m.right = false → m.err = 2) ∧
    (plE m.pl = 0 → tmE m.tm = 0 → m.right = true → m.err = if m.lo ≤ m.hi then (if m.slow < m.lo then 0 else 13) else 9) := by
  unfold TMod.err
  refine ⟨fun h => by simp [firstNZ, h], fun h h2 => by simp [firstNZ, h, h2], fun h h2 h3 => by simp [firstNZ, h, h2, h3, unl], fun h h2 h3 => ?_⟩
  by_cases a : m.lo ≤ m.hi <;> by_cases b : m.slow < m.lo <;> simp [firstNZ, h, h2, h3, unl, a, b]
theorem right_sz {m : TMod} (h : m.right = true) : 0 ≤ m.li * m.tk ∧ m.li * m.tk ≤ 2000 ∧ 0 ≤ m.li * m.tk * m.tk ∧ m.li * m.tk * m.tk ≤ 40000 := by
  unfold TMod.right at h
  simp only [Bool.and_eq_true, inB_true] at h
  obtain ⟨⟨⟨⟨⟨⟨⟨b1, b2⟩, b3⟩, b4⟩, b5⟩, b6⟩, b7⟩, b8⟩ := h
  have a := Int.mul_nonneg (show 0 ≤ m.li by omega) (show 0 ≤ m.tk by omega)
  have b := Int.mul_le_mul b4.2 b1.2 (by omega) (by omega)
  have c := Int.mul_nonneg a (show 0 ≤ m.tk by omega)
  have d := Int.mul_le_mul (show m.li * m.tk ≤ 2000 by omega) b1.2 (by omega) (by omega)
  omega

set_option maxRecDepth 100000 in
set_option maxHeartbeats 4000000 in
theorem ref_ModelErr (m : TMod) (w : World) : Calls Try.prog 18 #[m.v] w fun e w' => e = .returned (.int .i64 m.err) ∧ Below w.heap.size w w' := by
  obtain ⟨E1, E2, E3, E4⟩ := err_cases m
  have HE1 := hid E1
  have HE2 := hid E2
  have HE3 := hid E3
  have HE4 := hid E4
  have HSZ : Hid (m.right = true → 0 ≤ m.li * m.tk ∧ m.li * m.tk ≤ 2000 ∧ 0 ≤ m.li * m.tk * m.tk ∧ m.li * m.tk * m.tk ≤ 40000) := hid right_sz
  have HP : Hid (∀ W, Calls Try.prog 21 #[.agg #[.int .i64 m.px, .int .i64 m.py, .int .i64 m.pz]] W fun e w' => e = .returned (.int .i64 (plE m.pl)) ∧ Below W.heap.size W w') := hid (fun W => ref_PlaceErr _ _ _ W)
  have HT : Hid (∀ W, Calls Try.prog 45 #[.int .i64 m.tm] W fun e w' => e = .returned (.int .i64 (tmE m.tm)) ∧ W = w') := hid (fun W => ref_TimeErr _ W)
  have HR : Hid (m.right = (inB m.tk 1 20 && inB m.lo 1 1200 && inB m.hi 1 1200 && inB m.li 1 100 && inB m.ea 0 100 && inB m.la 0 100 && inB m.no 0 100 && inB m.mi 0 100)) := hid rfl
  have HSL : Hid (m.slow = m.li * m.tk * m.tk) := hid rfl
  obtain ⟨P, hP⟩ : ∃ P, P = plE m.pl := ⟨_, rfl⟩
  obtain ⟨T, hT⟩ : ∃ T, T = tmE m.tm := ⟨_, rfl⟩
  obtain ⟨E, hE⟩ : ∃ E, E = m.err := ⟨_, rfl⟩
  obtain ⟨R, hR⟩ : ∃ R, R = m.right := ⟨_, rfl⟩
  obtain ⟨S, hS⟩ : ∃ S, S = m.slow := ⟨_, rfl⟩
  rw [← hP, ← hE] at HE1
  rw [← hP, ← hT, ← hE] at HE2
  rw [← hP, ← hT, ← hR, ← hE] at HE3
  rw [← hP, ← hT, ← hR, ← hE, ← hS] at HE4
  rw [← hR] at HSZ HR
  rw [← hP] at HP
  rw [← hT] at HT
  rw [← hS] at HSL
  rw [← hE]
  clear E1 E2 E3 E4 hP hT hE hR hS
  obtain ⟨px, py, pz, tm, tk, lo, hi, li, ea, la, no, mi⟩ := m
  unfold TMod.v
  simp only at *
  by_cases hp : P = 0
  · subst hp
    by_cases ht : T = 0
    · subst ht
      cases R
      · have HE : Hid (E = 2) := hid (by have := HE3.out; simpa using this)
        have HB : Hid (¬ (inB tk 1 20 = true ∧ inB lo 1 1200 = true ∧ inB hi 1 1200 = true ∧ inB li 1 100 = true ∧ inB ea 0 100 = true ∧ inB la 0 100 = true ∧ inB no 0 100 = true ∧ inB mi 0 100 = true)) := hid (by
          rintro ⟨b1, b2, b3, b4, b5, b6, b7, b8⟩
          have := HR.out
          rw [b1, b2, b3, b4, b5, b6, b7, b8] at this
          exact absurd this (by decide))
        go_enter Try.func18, Try.ntmps18
        go_wp2_with (first | (go_at_call 21; refine (HP.out _).mono ?_; rintro _ w1 ⟨rfl, hb1⟩; obtain ⟨hc1, hf1⟩ := bcell hb1; have hz1 := hb1.size; (try simp only [World.size_alloc, World.heap_drewN] at hz1); have hk1_0 : w.heap.size < w1.heap.size := (by omega); have q1_0_0 := hc1 (w.heap.size) 0 (by first | assumption | (simp; done) | (simp; omega)); (try simp at q1_0_0); have p1_0_0 := hf1 (w.heap.size) 0 (by first | assumption | (simp; done) | (simp; omega)); (try simp at p1_0_0); have q1_0_1 := hc1 (w.heap.size) 1 (by first | assumption | (simp; done) | (simp; omega)); (try simp at q1_0_1); have p1_0_1 := hf1 (w.heap.size) 1 (by first | assumption | (simp; done) | (simp; omega)); (try simp at p1_0_1); have q1_0_2 := hc1 (w.heap.size) 2 (by first | assumption | (simp; done) | (simp; omega)); (try simp at q1_0_2); have p1_0_2 := hf1 (w.heap.size) 2 (by first | assumption | (simp; done) | (simp; omega)); (try simp at p1_0_2); have q1_0_3 := hc1 (w.heap.size) 3 (by first | assumption | (simp; done) | (simp; omega)); (try simp at q1_0_3); have p1_0_3 := hf1 (w.heap.size) 3 (by first | assumption | (simp; done) | (simp; omega)); (try simp at p1_0_3); have q1_0_4 := hc1 (w.heap.size) 4 (by first | assumption | (simp; done) | (simp; omega)); (try simp at q1_0_4); have p1_0_4 := hf1 (w.heap.size) 4 (by first | assumption | (simp; done) | (simp; omega)); (try simp at p1_0_4); have q1_0_5 := hc1 (w.heap.size) 5 (by first | assumption | (simp; done) | (simp; omega)); (try simp at q1_0_5); have p1_0_5 := hf1 (w.heap.size) 5 (by first | assumption | (simp; done) | (simp; omega)); (try simp at p1_0_5); have q1_0_6 := hc1 (w.heap.size) 6 (by first | assumption | (simp; done) | (simp; omega)); (try simp at q1_0_6); have p1_0_6 := hf1 (w.heap.size) 6 (by first | assumption | (simp; done) | (simp; omega)); (try simp at p1_0_6); have q1_0_7 := hc1 (w.heap.size) 7 (by first | assumption | (simp; done) | (simp; omega)); (try simp at q1_0_7); have p1_0_7 := hf1 (w.heap.size) 7 (by first | assumption | (simp; done) | (simp; omega)); (try simp at p1_0_7); have q1_0_8 := hc1 (w.heap.size) 8 (by first | assumption | (simp; done) | (simp; omega)); (try simp at q1_0_8); have p1_0_8 := hf1 (w.heap.size) 8 (by first | assumption | (simp; done) | (simp; omega)); (try simp at p1_0_8); have q1_0_9 := hc1 (w.heap.size) 9 (by first | assumption | (simp; done) | (simp; omega)); (try simp at q1_0_9); have p1_0_9 := hf1 (w.heap.size) 9 (by first | assumption | (simp; done) | (simp; omega)); (try simp at p1_0_9); have q1_0_10 := hc1 (w.heap.size) 10 (by first | assumption | (simp; done) | (simp; omega)); (try simp at q1_0_10); have p1_0_10 := hf1 (w.heap.size) 10 (by first | assumption | (simp; done) | (simp; omega)); (try simp at p1_0_10); have q1_0_11 := hc1 (w.heap.size) 11 (by first | assumption | (simp; done) | (simp; omega)); (try simp at q1_0_11); have p1_0_11 := hf1 (w.heap.size) 11 (by first | assumption | (simp; done) | (simp; omega)); (try simp at p1_0_11)) | (go_at_call 45; refine (HT.out _).mono ?_; rintro _ _ ⟨rfl, rfl⟩) | (go_at_call 26; refine (base_Within _ _ _ _).mono ?_; rintro _ _ ⟨rfl, rfl⟩) | (go_at_call 80; refine (ref_isWeight _ _).mono ?_; rintro _ _ ⟨rfl, rfl⟩))
        all_goals (try simp only [Bool.not_eq_true', Bool.not_eq_false', Bool.not_eq_true, Bool.not_eq_false] at *)
        all_goals first
          | (exfalso; exact HB.out ⟨by assumption, by assumption, by assumption, by assumption, by assumption, by assumption, by assumption, by assumption⟩)
          | (go_ret; exact ⟨ret_int HE.out.symm, by (repeat (with_reducible first | exact Below.refl _ _ | assumption | refine Below.drewN _ ?_ | refine Below.drew ?_ | refine Below_alloc ?_ _ | refine Below.alloc ?_ (by first | (simp; done) | (simp; omega) | omega) _ | refine Below.setCell ?_ (by first | (simp; done) | (simp; omega) | omega) _ | refine Below_call ?_ (by assumption) | refine Below.trans ?_ (by assumption)))⟩)
      · have hall := HR.out.symm
        simp only [Bool.and_eq_true] at hall
        obtain ⟨⟨⟨⟨⟨⟨⟨b1, b2⟩, b3⟩, b4⟩, b5⟩, b6⟩, b7⟩, b8⟩ := hall
        obtain ⟨z1, z2, z3, z4⟩ := HSZ.out rfl
        have HEE : Hid (E = if lo ≤ hi then (if S < lo then 0 else 13) else 9) := hid (HE4.out rfl rfl rfl)
        obtain ⟨A, hA⟩ : ∃ A, A = li * tk := ⟨_, rfl⟩
        rw [← hA] at z1 z2 z3 z4 HSL
        obtain ⟨B, hB⟩ : ∃ B, B = A * tk := ⟨_, rfl⟩
        rw [← hB] at z3 z4 HSL
        have e1 : li * tk = A := hA.symm
        have e2 : A * tk = B := hB.symm
        clear hA hB
        obtain rfl : S = B := HSL.out
        by_cases g1 : lo ≤ hi
        · have g1' : ¬ hi < lo := by omega
          by_cases g2 : S < lo
          · have g2' : ¬ lo ≤ S := by omega
            have HV : Hid (E = 0) := hid (by rw [HEE.out, if_pos g1, if_pos g2])
            go_enter Try.func18, Try.ntmps18
            go_wp2_with (first | (go_at_call 21; refine (HP.out _).mono ?_; rintro _ w1 ⟨rfl, hb1⟩; obtain ⟨hc1, hf1⟩ := bcell hb1; have hz1 := hb1.size; (try simp only [World.size_alloc, World.heap_drewN] at hz1); have hk1_0 : w.heap.size < w1.heap.size := (by omega); have q1_0_0 := hc1 (w.heap.size) 0 (by first | assumption | (simp; done) | (simp; omega)); (try simp at q1_0_0); have p1_0_0 := hf1 (w.heap.size) 0 (by first | assumption | (simp; done) | (simp; omega)); (try simp at p1_0_0); have q1_0_1 := hc1 (w.heap.size) 1 (by first | assumption | (simp; done) | (simp; omega)); (try simp at q1_0_1); have p1_0_1 := hf1 (w.heap.size) 1 (by first | assumption | (simp; done) | (simp; omega)); (try simp at p1_0_1); have q1_0_2 := hc1 (w.heap.size) 2 (by first | assumption | (simp; done) | (simp; omega)); (try simp at q1_0_2); have p1_0_2 := hf1 (w.heap.size) 2 (by first | assumption | (simp; done) | (simp; omega)); (try simp at p1_0_2); have q1_0_3 := hc1 (w.heap.size) 3 (by first | assumption | (simp; done) | (simp; omega)); (try simp at q1_0_3); have p1_0_3 := hf1 (w.heap.size) 3 (by first | assumption | (simp; done) | (simp; omega)); (try simp at p1_0_3); have q1_0_4 := hc1 (w.heap.size) 4 (by first | assumption | (simp; done) | (simp; omega)); (try simp at q1_0_4); have p1_0_4 := hf1 (w.heap.size) 4 (by first | assumption | (simp; done) | (simp; omega)); (try simp at p1_0_4); have q1_0_5 := hc1 (w.heap.size) 5 (by first | assumption | (simp; done) | (simp; omega)); (try simp at q1_0_5); have p1_0_5 := hf1 (w.heap.size) 5 (by first | assumption | (simp; done) | (simp; omega)); (try simp at p1_0_5); have q1_0_6 := hc1 (w.heap.size) 6 (by first | assumption | (simp; done) | (simp; omega)); (try simp at q1_0_6); have p1_0_6 := hf1 (w.heap.size) 6 (by first | assumption | (simp; done) | (simp; omega)); (try simp at p1_0_6); have q1_0_7 := hc1 (w.heap.size) 7 (by first | assumption | (simp; done) | (simp; omega)); (try simp at q1_0_7); have p1_0_7 := hf1 (w.heap.size) 7 (by first | assumption | (simp; done) | (simp; omega)); (try simp at p1_0_7); have q1_0_8 := hc1 (w.heap.size) 8 (by first | assumption | (simp; done) | (simp; omega)); (try simp at q1_0_8); have p1_0_8 := hf1 (w.heap.size) 8 (by first | assumption | (simp; done) | (simp; omega)); (try simp at p1_0_8); have q1_0_9 := hc1 (w.heap.size) 9 (by first | assumption | (simp; done) | (simp; omega)); (try simp at q1_0_9); have p1_0_9 := hf1 (w.heap.size) 9 (by first | assumption | (simp; done) | (simp; omega)); (try simp at p1_0_9); have q1_0_10 := hc1 (w.heap.size) 10 (by first | assumption | (simp; done) | (simp; omega)); (try simp at q1_0_10); have p1_0_10 := hf1 (w.heap.size) 10 (by first | assumption | (simp; done) | (simp; omega)); (try simp at p1_0_10); have q1_0_11 := hc1 (w.heap.size) 11 (by first | assumption | (simp; done) | (simp; omega)); (try simp at q1_0_11); have p1_0_11 := hf1 (w.heap.size) 11 (by first | assumption | (simp; done) | (simp; omega)); (try simp at p1_0_11)) | (go_at_call 45; refine (HT.out _).mono ?_; rintro _ _ ⟨rfl, rfl⟩) | (go_at_call 26; refine (base_Within _ _ _ _).mono ?_; rintro _ _ ⟨rfl, rfl⟩) | (go_at_call 80; refine (ref_isWeight _ _).mono ?_; rintro _ _ ⟨rfl, rfl⟩))
            go_ret
            exact ⟨ret_int HV.out.symm, by (repeat (with_reducible first | exact Below.refl _ _ | assumption | refine Below.drewN _ ?_ | refine Below.drew ?_ | refine Below_alloc ?_ _ | refine Below.alloc ?_ (by first | (simp; done) | (simp; omega) | omega) _ | refine Below.setCell ?_ (by first | (simp; done) | (simp; omega) | omega) _ | refine Below_call ?_ (by assumption) | refine Below.trans ?_ (by assumption)))⟩
          · have g2' : lo ≤ S := by omega
            have HV : Hid (E = 13) := hid (by rw [HEE.out, if_pos g1, if_neg g2])
            go_enter Try.func18, Try.ntmps18
            go_wp2_with (first | (go_at_call 21; refine (HP.out _).mono ?_; rintro _ w1 ⟨rfl, hb1⟩; obtain ⟨hc1, hf1⟩ := bcell hb1; have hz1 := hb1.size; (try simp only [World.size_alloc, World.heap_drewN] at hz1); have hk1_0 : w.heap.size < w1.heap.size := (by omega); have q1_0_0 := hc1 (w.heap.size) 0 (by first | assumption | (simp; done) | (simp; omega)); (try simp at q1_0_0); have p1_0_0 := hf1 (w.heap.size) 0 (by first | assumption | (simp; done) | (simp; omega)); (try simp at p1_0_0); have q1_0_1 := hc1 (w.heap.size) 1 (by first | assumption | (simp; done) | (simp; omega)); (try simp at q1_0_1); have p1_0_1 := hf1 (w.heap.size) 1 (by first | assumption | (simp; done) | (simp; omega)); (try simp at p1_0_1); have q1_0_2 := hc1 (w.heap.size) 2 (by first | assumption | (simp; done) | (simp; omega)); (try simp at q1_0_2); have p1_0_2 := hf1 (w.heap.size) 2 (by first | assumption | (simp; done) | (simp; omega)); (try simp at p1_0_2); have q1_0_3 := hc1 (w.heap.size) 3 (by first | assumption | (simp; done) | (simp; omega)); (try simp at q1_0_3); have p1_0_3 := hf1 (w.heap.size) 3 (by first | assumption | (simp; done) | (simp; omega)); (try simp at p1_0_3); have q1_0_4 := hc1 (w.heap.size) 4 (by first | assumption | (simp; done) | (simp; omega)); (try simp at q1_0_4); have p1_0_4 := hf1 (w.heap.size) 4 (by first | assumption | (simp; done) | (simp; omega)); (try simp at p1_0_4); have q1_0_5 := hc1 (w.heap.size) 5 (by first | assumption | (simp; done) | (simp; omega)); (try simp at q1_0_5); have p1_0_5 := hf1 (w.heap.size) 5 (by first | assumption | (simp; done) | (simp; omega)); (try simp at p1_0_5); have q1_0_6 := hc1 (w.heap.size) 6 (by first | assumption | (simp; done) | (simp; omega)); (try simp at q1_0_6); have p1_0_6 := hf1 (w.heap.size) 6 (by first | assumption | (simp; done) | (simp; omega)); (try simp at p1_0_6); have q1_0_7 := hc1 (w.heap.size) 7 (by first | assumption | (simp; done) | (simp; omega)); (try simp at q1_0_7); have p1_0_7 := hf1 (w.heap.size) 7 (by first | assumption | (simp; done) | (simp; omega)); (try simp at p1_0_7); have q1_0_8 := hc1 (w.heap.size) 8 (by first | assumption | (simp; done) | (simp; omega)); (try simp at q1_0_8); have p1_0_8 := hf1 (w.heap.size) 8 (by first | assumption | (simp; done) | (simp; omega)); (try simp at p1_0_8); have q1_0_9 := hc1 (w.heap.size) 9 (by first | assumption | (simp; done) | (simp; omega)); (try simp at q1_0_9); have p1_0_9 := hf1 (w.heap.size) 9 (by first | assumption | (simp; done) | (simp; omega)); (try simp at p1_0_9); have q1_0_10 := hc1 (w.heap.size) 10 (by first | assumption | (simp; done) | (simp; omega)); (try simp at q1_0_10); have p1_0_10 := hf1 (w.heap.size) 10 (by first | assumption | (simp; done) | (simp; omega)); (try simp at p1_0_10); have q1_0_11 := hc1 (w.heap.size) 11 (by first | assumption | (simp; done) | (simp; omega)); (try simp at q1_0_11); have p1_0_11 := hf1 (w.heap.size) 11 (by first | assumption | (simp; done) | (simp; omega)); (try simp at p1_0_11)) | (go_at_call 45; refine (HT.out _).mono ?_; rintro _ _ ⟨rfl, rfl⟩) | (go_at_call 26; refine (base_Within _ _ _ _).mono ?_; rintro _ _ ⟨rfl, rfl⟩) | (go_at_call 80; refine (ref_isWeight _ _).mono ?_; rintro _ _ ⟨rfl, rfl⟩))
            go_ret
            exact ⟨ret_int HV.out.symm, by (repeat (with_reducible first | exact Below.refl _ _ | assumption | refine Below.drewN _ ?_ | refine Below.drew ?_ | refine Below_alloc ?_ _ | refine Below.alloc ?_ (by first | (simp; done) | (simp; omega) | omega) _ | refine Below.setCell ?_ (by first | (simp; done) | (simp; omega) | omega) _ | refine Below_call ?_ (by assumption) | refine Below.trans ?_ (by assumption)))⟩
        · have g1' : hi < lo := by omega
          have HV : Hid (E = 9) := hid (by rw [HEE.out, if_neg g1])
          go_enter Try.func18, Try.ntmps18
          go_wp2_with (first | (go_at_call 21; refine (HP.out _).mono ?_; rintro _ w1 ⟨rfl, hb1⟩; obtain ⟨hc1, hf1⟩ := bcell hb1; have hz1 := hb1.size; (try simp only [World.size_alloc, World.heap_drewN] at hz1); have hk1_0 : w.heap.size < w1.heap.size := (by omega); have q1_0_0 := hc1 (w.heap.size) 0 (by first | assumption | (simp; done) | (simp; omega)); (try simp at q1_0_0); have p1_0_0 := hf1 (w.heap.size) 0 (by first | assumption | (simp; done) | (simp; omega)); (try simp at p1_0_0); have q1_0_1 := hc1 (w.heap.size) 1 (by first | assumption | (simp; done) | (simp; omega)); (try simp at q1_0_1); have p1_0_1 := hf1 (w.heap.size) 1 (by first | assumption | (simp; done) | (simp; omega)); (try simp at p1_0_1); have q1_0_2 := hc1 (w.heap.size) 2 (by first | assumption | (simp; done) | (simp; omega)); (try simp at q1_0_2); have p1_0_2 := hf1 (w.heap.size) 2 (by first | assumption | (simp; done) | (simp; omega)); (try simp at p1_0_2); have q1_0_3 := hc1 (w.heap.size) 3 (by first | assumption | (simp; done) | (simp; omega)); (try simp at q1_0_3); have p1_0_3 := hf1 (w.heap.size) 3 (by first | assumption | (simp; done) | (simp; omega)); (try simp at p1_0_3); have q1_0_4 := hc1 (w.heap.size) 4 (by first | assumption | (simp; done) | (simp; omega)); (try simp at q1_0_4); have p1_0_4 := hf1 (w.heap.size) 4 (by first | assumption | (simp; done) | (simp; omega)); (try simp at p1_0_4); have q1_0_5 := hc1 (w.heap.size) 5 (by first | assumption | (simp; done) | (simp; omega)); (try simp at q1_0_5); have p1_0_5 := hf1 (w.heap.size) 5 (by first | assumption | (simp; done) | (simp; omega)); (try simp at p1_0_5); have q1_0_6 := hc1 (w.heap.size) 6 (by first | assumption | (simp; done) | (simp; omega)); (try simp at q1_0_6); have p1_0_6 := hf1 (w.heap.size) 6 (by first | assumption | (simp; done) | (simp; omega)); (try simp at p1_0_6); have q1_0_7 := hc1 (w.heap.size) 7 (by first | assumption | (simp; done) | (simp; omega)); (try simp at q1_0_7); have p1_0_7 := hf1 (w.heap.size) 7 (by first | assumption | (simp; done) | (simp; omega)); (try simp at p1_0_7); have q1_0_8 := hc1 (w.heap.size) 8 (by first | assumption | (simp; done) | (simp; omega)); (try simp at q1_0_8); have p1_0_8 := hf1 (w.heap.size) 8 (by first | assumption | (simp; done) | (simp; omega)); (try simp at p1_0_8); have q1_0_9 := hc1 (w.heap.size) 9 (by first | assumption | (simp; done) | (simp; omega)); (try simp at q1_0_9); have p1_0_9 := hf1 (w.heap.size) 9 (by first | assumption | (simp; done) | (simp; omega)); (try simp at p1_0_9); have q1_0_10 := hc1 (w.heap.size) 10 (by first | assumption | (simp; done) | (simp; omega)); (try simp at q1_0_10); have p1_0_10 := hf1 (w.heap.size) 10 (by first | assumption | (simp; done) | (simp; omega)); (try simp at p1_0_10); have q1_0_11 := hc1 (w.heap.size) 11 (by first | assumption | (simp; done) | (simp; omega)); (try simp at q1_0_11); have p1_0_11 := hf1 (w.heap.size) 11 (by first | assumption | (simp; done) | (simp; omega)); (try simp at p1_0_11)) | (go_at_call 45; refine (HT.out _).mono ?_; rintro _ _ ⟨rfl, rfl⟩) | (go_at_call 26; refine (base_Within _ _ _ _).mono ?_; rintro _ _ ⟨rfl, rfl⟩) | (go_at_call 80; refine (ref_isWeight _ _).mono ?_; rintro _ _ ⟨rfl, rfl⟩))
          go_ret
          exact ⟨ret_int HV.out.symm, by (repeat (with_reducible first | exact Below.refl _ _ | assumption | refine Below.drewN _ ?_ | refine Below.drew ?_ | refine Below_alloc ?_ _ | refine Below.alloc ?_ (by first | (simp; done) | (simp; omega) | omega) _ | refine Below.setCell ?_ (by first | (simp; done) | (simp; omega) | omega) _ | refine Below_call ?_ (by assumption) | refine Below.trans ?_ (by assumption)))⟩
    · have h1 : (T != 0) = true := by simpa using ht
      have HN : Hid (E = T) := hid (HE2.out rfl ht)
      clear ht
      go_enter Try.func18, Try.ntmps18
      go_wp2_with (first | (go_at_call 21; refine (HP.out _).mono ?_; rintro _ w1 ⟨rfl, hb1⟩; obtain ⟨hc1, hf1⟩ := bcell hb1; have hz1 := hb1.size; (try simp only [World.size_alloc, World.heap_drewN] at hz1); have hk1_0 : w.heap.size < w1.heap.size := (by omega); have q1_0_0 := hc1 (w.heap.size) 0 (by first | assumption | (simp; done) | (simp; omega)); (try simp at q1_0_0); have p1_0_0 := hf1 (w.heap.size) 0 (by first | assumption | (simp; done) | (simp; omega)); (try simp at p1_0_0); have q1_0_1 := hc1 (w.heap.size) 1 (by first | assumption | (simp; done) | (simp; omega)); (try simp at q1_0_1); have p1_0_1 := hf1 (w.heap.size) 1 (by first | assumption | (simp; done) | (simp; omega)); (try simp at p1_0_1); have q1_0_2 := hc1 (w.heap.size) 2 (by first | assumption | (simp; done) | (simp; omega)); (try simp at q1_0_2); have p1_0_2 := hf1 (w.heap.size) 2 (by first | assumption | (simp; done) | (simp; omega)); (try simp at p1_0_2); have q1_0_3 := hc1 (w.heap.size) 3 (by first | assumption | (simp; done) | (simp; omega)); (try simp at q1_0_3); have p1_0_3 := hf1 (w.heap.size) 3 (by first | assumption | (simp; done) | (simp; omega)); (try simp at p1_0_3); have q1_0_4 := hc1 (w.heap.size) 4 (by first | assumption | (simp; done) | (simp; omega)); (try simp at q1_0_4); have p1_0_4 := hf1 (w.heap.size) 4 (by first | assumption | (simp; done) | (simp; omega)); (try simp at p1_0_4); have q1_0_5 := hc1 (w.heap.size) 5 (by first | assumption | (simp; done) | (simp; omega)); (try simp at q1_0_5); have p1_0_5 := hf1 (w.heap.size) 5 (by first | assumption | (simp; done) | (simp; omega)); (try simp at p1_0_5); have q1_0_6 := hc1 (w.heap.size) 6 (by first | assumption | (simp; done) | (simp; omega)); (try simp at q1_0_6); have p1_0_6 := hf1 (w.heap.size) 6 (by first | assumption | (simp; done) | (simp; omega)); (try simp at p1_0_6); have q1_0_7 := hc1 (w.heap.size) 7 (by first | assumption | (simp; done) | (simp; omega)); (try simp at q1_0_7); have p1_0_7 := hf1 (w.heap.size) 7 (by first | assumption | (simp; done) | (simp; omega)); (try simp at p1_0_7); have q1_0_8 := hc1 (w.heap.size) 8 (by first | assumption | (simp; done) | (simp; omega)); (try simp at q1_0_8); have p1_0_8 := hf1 (w.heap.size) 8 (by first | assumption | (simp; done) | (simp; omega)); (try simp at p1_0_8); have q1_0_9 := hc1 (w.heap.size) 9 (by first | assumption | (simp; done) | (simp; omega)); (try simp at q1_0_9); have p1_0_9 := hf1 (w.heap.size) 9 (by first | assumption | (simp; done) | (simp; omega)); (try simp at p1_0_9); have q1_0_10 := hc1 (w.heap.size) 10 (by first | assumption | (simp; done) | (simp; omega)); (try simp at q1_0_10); have p1_0_10 := hf1 (w.heap.size) 10 (by first | assumption | (simp; done) | (simp; omega)); (try simp at p1_0_10); have q1_0_11 := hc1 (w.heap.size) 11 (by first | assumption | (simp; done) | (simp; omega)); (try simp at q1_0_11); have p1_0_11 := hf1 (w.heap.size) 11 (by first | assumption | (simp; done) | (simp; omega)); (try simp at p1_0_11)) | (go_at_call 45; refine (HT.out _).mono ?_; rintro _ _ ⟨rfl, rfl⟩))
      go_ret
      exact ⟨ret_int HN.out.symm, by (repeat (with_reducible first | exact Below.refl _ _ | assumption | refine Below.drewN _ ?_ | refine Below.drew ?_ | refine Below_alloc ?_ _ | refine Below.alloc ?_ (by first | (simp; done) | (simp; omega) | omega) _ | refine Below.setCell ?_ (by first | (simp; done) | (simp; omega) | omega) _ | refine Below_call ?_ (by assumption) | refine Below.trans ?_ (by assumption)))⟩
  · have h1 : (P != 0) = true := by simpa using hp
    have HN : Hid (E = P) := hid (HE1.out hp)
    clear hp
    go_enter Try.func18, Try.ntmps18
    go_wp2_with (first | (go_at_call 21; refine (HP.out _).mono ?_; rintro _ w1 ⟨rfl, hb1⟩; obtain ⟨hc1, hf1⟩ := bcell hb1; have hz1 := hb1.size; (try simp only [World.size_alloc, World.heap_drewN] at hz1); have hk1_0 : w.heap.size < w1.heap.size := (by omega); have q1_0_0 := hc1 (w.heap.size) 0 (by first | assumption | (simp; done) | (simp; omega)); (try simp at q1_0_0); have p1_0_0 := hf1 (w.heap.size) 0 (by first | assumption | (simp; done) | (simp; omega)); (try simp at p1_0_0); have q1_0_1 := hc1 (w.heap.size) 1 (by first | assumption | (simp; done) | (simp; omega)); (try simp at q1_0_1); have p1_0_1 := hf1 (w.heap.size) 1 (by first | assumption | (simp; done) | (simp; omega)); (try simp at p1_0_1); have q1_0_2 := hc1 (w.heap.size) 2 (by first | assumption | (simp; done) | (simp; omega)); (try simp at q1_0_2); have p1_0_2 := hf1 (w.heap.size) 2 (by first | assumption | (simp; done) | (simp; omega)); (try simp at p1_0_2); have q1_0_3 := hc1 (w.heap.size) 3 (by first | assumption | (simp; done) | (simp; omega)); (try simp at q1_0_3); have p1_0_3 := hf1 (w.heap.size) 3 (by first | assumption | (simp; done) | (simp; omega)); (try simp at p1_0_3); have q1_0_4 := hc1 (w.heap.size) 4 (by first | assumption | (simp; done) | (simp; omega)); (try simp at q1_0_4); have p1_0_4 := hf1 (w.heap.size) 4 (by first | assumption | (simp; done) | (simp; omega)); (try simp at p1_0_4); have q1_0_5 := hc1 (w.heap.size) 5 (by first | assumption | (simp; done) | (simp; omega)); (try simp at q1_0_5); have p1_0_5 := hf1 (w.heap.size) 5 (by first | assumption | (simp; done) | (simp; omega)); (try simp at p1_0_5); have q1_0_6 := hc1 (w.heap.size) 6 (by first | assumption | (simp; done) | (simp; omega)); (try simp at q1_0_6); have p1_0_6 := hf1 (w.heap.size) 6 (by first | assumption | (simp; done) | (simp; omega)); (try simp at p1_0_6); have q1_0_7 := hc1 (w.heap.size) 7 (by first | assumption | (simp; done) | (simp; omega)); (try simp at q1_0_7); have p1_0_7 := hf1 (w.heap.size) 7 (by first | assumption | (simp; done) | (simp; omega)); (try simp at p1_0_7); have q1_0_8 := hc1 (w.heap.size) 8 (by first | assumption | (simp; done) | (simp; omega)); (try simp at q1_0_8); have p1_0_8 := hf1 (w.heap.size) 8 (by first | assumption | (simp; done) | (simp; omega)); (try simp at p1_0_8); have q1_0_9 := hc1 (w.heap.size) 9 (by first | assumption | (simp; done) | (simp; omega)); (try simp at q1_0_9); have p1_0_9 := hf1 (w.heap.size) 9 (by first | assumption | (simp; done) | (simp; omega)); (try simp at p1_0_9); have q1_0_10 := hc1 (w.heap.size) 10 (by first | assumption | (simp; done) | (simp; omega)); (try simp at q1_0_10); have p1_0_10 := hf1 (w.heap.size) 10 (by first | assumption | (simp; done) | (simp; omega)); (try simp at p1_0_10); have q1_0_11 := hc1 (w.heap.size) 11 (by first | assumption | (simp; done) | (simp; omega)); (try simp at q1_0_11); have p1_0_11 := hf1 (w.heap.size) 11 (by first | assumption | (simp; done) | (simp; omega)); (try simp at p1_0_11)) | (go_at_call 45; refine (HT.out _).mono ?_; rintro _ _ ⟨rfl, rfl⟩))
    go_ret
    exact ⟨ret_int HN.out.symm, by (repeat (with_reducible first | exact Below.refl _ _ | assumption | refine Below.drewN _ ?_ | refine Below.drew ?_ | refine Below_alloc ?_ _ | refine Below.alloc ?_ (by first | (simp; done) | (simp; omega) | omega) _ | refine Below.setCell ?_ (by first | (simp; done) | (simp; omega) | omega) _ | refine Below_call ?_ (by assumption) | refine Below.trans ?_ (by assumption)))⟩
end Go.Proofs.Ytlmdmpjfehpjeaa

/- Tracks: sizes of what is reckoned for a place reached; coordinates by number. -/
set_option linter.unusedVariables false
set_option linter.unusedSimpArgs false
namespace Go.Proofs.Ytlmdmpjfehpjeaa
open Go.RowKit

def V3.at (a : V3) (k : Nat) : Int := if k = 0 then a.x else if k = 1 then a.y else a.z
theorem at_rg {a : V3} {A : Int} (h : a.inS A = true) (k : Nat) : -A ≤ a.at k ∧ a.at k ≤ A := by
  obtain ⟨h1, h2, h3⟩ := inS_iff.1 h
  unfold V3.at
  split
  · exact h1
  · split
    · exact h2
    · exact h3
/-- a way's coordinate. -/
theorem way_at (m : TMod) (s p : V3) (t : Int) {k : Nat} (hk : k < 3) : (m.way s p t).at k = m.tk * (p.at k - m.pl.at k) - (t - m.tm) * s.at k := by
  match k, hk with
  | 0, _ => rfl
  | 1, _ => rfl
  | 2, _ => rfl
/-- the numbers on the way to a coordinate of a way. -/
theorem way_nums {m : TMod} {s p : V3} {t : Int} (ho : m.Ok) (hs : s.inS 20 = true) (hp : p.inS 1000 = true) (ht : -1000101 ≤ t ∧ t ≤ 1000100) (k : Nat) :
    (-2000 ≤ p.at k - m.pl.at k ∧ p.at k - m.pl.at k ≤ 2000) ∧ (-40000 ≤ m.tk * (p.at k - m.pl.at k) ∧ m.tk * (p.at k - m.pl.at k) ≤ 40000) ∧ (-1010101 ≤ t - m.tm ∧ t - m.tm ≤ 1010101) ∧ (-20202020 ≤ (t - m.tm) * s.at k ∧ (t - m.tm) * s.at k ≤ 20202020) := by
  have hpl : m.pl.inS 1000 = true := inS_iff.2 ⟨ho.px, ho.py, ho.pz⟩
  have h1 := at_rg hpl k
  have h2 := at_rg hp k
  have h3 := at_rg hs k
  have h4 := ho.tm
  have h5 := ho.tk
  exact ⟨by omega, mul_rg (A := 20) (B := 2000) (by omega) (by omega) (by decide), by omega, mul_rg (A := 1010101) (B := 20) (by omega) h3 (by decide)⟩
/-- the numbers of a place reached. -/
theorem reach_nums {m : TMod} {s p : V3} {t : Int} (ho : m.Ok) (hs : s.inS 20 = true) (hpm : m.permit s) (hp : p.inS 1000 = true) (ht : -1000101 ≤ t ∧ t ≤ 1000100) :
    s.sm s ∧ (m.way s p t).sm s ∧ (m.way s p t).sm (m.way s p t) ∧ (1 ≤ s.dot s ∧ s.dot s ≤ 1200) ∧ (1 ≤ s.dot s - m.slow ∧ s.dot s - m.slow ≤ 1200) ∧
    (-1214521200 ≤ (m.way s p t).dot s ∧ (m.way s p t).dot s ≤ 1214521200) ∧ (0 ≤ (m.way s p t).dot (m.way s p t) ∧ (m.way s p t).dot (m.way s p t) ≤ 1229218121041200) ∧
    (0 ≤ (m.way s p t).dot s * (m.way s p t).dot s ∧ (m.way s p t).dot s * (m.way s p t).dot s ≤ 2000000000000000000) ∧
    (0 ≤ (s.dot s - m.slow) * (m.way s p t).dot (m.way s p t) ∧ (s.dot s - m.slow) * (m.way s p t).dot (m.way s p t) ≤ 2000000000000000000) := by
  have hw := way_sz ho hs hp ht
  have h1 := dot_sz hs hs (by omega) (by omega)
  have h2 := dot_sz hw hs (by omega) (by omega)
  have h3 := dot_sz hw hw (by omega) (by omega)
  have hS := hpm.1
  have hS2 := hpm.2
  have hl := ho.lo
  have hh := ho.hi
  have hsl := ho.slo
  have hsp := ho.slp
  have hn := V3.dot_self (m.way s p t)
  have hb : -1214521200 ≤ (m.way s p t).dot s ∧ (m.way s p t).dot s ≤ 1214521200 := by unfold V3.dot; omega
  have hc : (m.way s p t).dot (m.way s p t) ≤ 1229218121041200 := by unfold V3.dot; omega
  have hbb := mul_rg hb hb (C := 1475061745249440000) (by decide)
  have hac := mul_rg (x := s.dot s - m.slow) (y := (m.way s p t).dot (m.way s p t)) (A := 1200) (B := 1229218121041200) (C := 1475061745249440000) (by omega) (by omega) (by decide)
  have hbn := sq_nn ((m.way s p t).dot s)
  have han := Int.mul_nonneg (show 0 ≤ s.dot s - m.slow by omega) hn
  refine ⟨?_, ?_, ?_, by omega, by omega, hb, ⟨hn, hc⟩, ⟨hbn, by omega⟩, ⟨han, by omega⟩⟩
  all_goals (unfold V3.sm; omega)
/-- cells that hold coordinates. -/
def At3 (w : World) (b : Nat) (a : V3) : Prop := ∀ k, k < 3 → w.cell? ⟨b, k, none⟩ = some (.int .i64 (a.at k))
theorem At3.below {w w' : World} {B b : Nat} {a : V3} (h : At3 w b a) (hb : Below B w w') (hlt : b < B) : At3 w' b a := fun k hk => (hb.cell (p := ⟨b, k, none⟩) hlt).trans (h k hk)
end Go.Proofs.Ytlmdmpjfehpjeaa

/- Tracks: the reference's way. -/
set_option linter.unusedVariables false
set_option linter.unusedSimpArgs false
namespace Go.Proofs.Ytlmdmpjfehpjeaa
open Go.RowKit

theorem three_cells {w : World} {g : Nat} {x y z : Value} {t : TypeId} (h : w.heap[g]? = some (.cells #[x, y, z] t (0, 0))) :
    w.cell? ⟨g, 0, none⟩ = some x ∧ w.cell? ⟨g, 1, none⟩ = some y ∧ w.cell? ⟨g, 2, none⟩ = some z ∧ w.frozen? ⟨g, 0, none⟩ = false ∧ w.frozen? ⟨g, 1, none⟩ = false ∧ w.frozen? ⟨g, 2, none⟩ = false ∧ g < w.heap.size := by
  refine ⟨?_, ?_, ?_, frozen_of_row w g 0 _ t h, frozen_of_row w g 1 _ t h, frozen_of_row w g 2 _ t h, (Array.getElem?_eq_some_iff.1 h).1⟩
  · rw [cell_of_row w g 0 _ t (0, 0) h]; rfl
  · rw [cell_of_row w g 1 _ t (0, 0) h]; rfl
  · rw [cell_of_row w g 2 _ t (0, 0) h]; rfl

end Go.Proofs.Ytlmdmpjfehpjeaa

/- Tracks: places reached, by the reference. -/
set_option linter.unusedVariables false
set_option linter.unusedSimpArgs false
namespace Go.Proofs.Ytlmdmpjfehpjeaa
open Go.RowKit

theorem al3 (w : World) (a b c : Array Value) (t s r : TypeId) : ∀ W, W = ((w.alloc (.cells a t)).alloc (.cells b s)).alloc (.cells c r) →
    W.heap[w.heap.size]? = some (.cells a t (0, 0)) ∧ W.heap[w.heap.size + 1]? = some (.cells b s (0, 0)) ∧ W.heap[w.heap.size + 1 + 1]? = some (.cells c r (0, 0)) := by
  rintro W rfl
  refine ⟨?_, ?_, ?_⟩
  · rw [Below.heap_alloc _ _ _ (by simp <;> omega), Below.heap_alloc _ _ _ (by simp), heap_alloc_new]
  · rw [Below.heap_alloc _ _ _ (by simp)]
    have := heap_alloc_new (w.alloc (.cells a t)) (.cells b s)
    simpa using this
  · have := heap_alloc_new ((w.alloc (.cells a t)).alloc (.cells b s)) (.cells c r)
    simpa using this
end Go.Proofs.Ytlmdmpjfehpjeaa

/- Tracks: places reached, by the program. -/
set_option linter.unusedVariables false
set_option linter.unusedSimpArgs false
namespace Go.Proofs.Ytlmdmpjfehpjeaa
open Go.RowKit

/-- what a coordinate of what is left is made of, step by step. -/
theorem left_steps {m : TMod} {s p : V3} {t : Int} (ho : m.Ok) (hs : s.inS 20 = true) (hp : p.inS 1000 = true) (ht : -1000101 ≤ t ∧ t ≤ 1000100) {k : Nat} (hk : k < 3) :
    ∃ T P, IntKind.i64.wrap (m.tk * (p.at k - m.pl.at k)) = T ∧ IntKind.i64.wrap ((t - m.tm) * s.at k) = P ∧ IntKind.i64.wrap (T - P) = (m.way s p t).at k := by
  obtain ⟨h1, h2, h3, h4⟩ := way_nums ho hs hp ht k
  refine ⟨m.tk * (p.at k - m.pl.at k), (t - m.tm) * s.at k, IntWalk.i64_in _ (by omega), IntWalk.i64_in _ (by omega), ?_⟩
  rw [way_at m s p t hk]
  exact IntWalk.i64_in _ (by omega)

theorem row_drew {w w1 : World} {a : Array Value} {t : TypeId} (hb : Below (w.alloc (.cells a t)).drew.heap.size (w.alloc (.cells a t)).drew w1) : w1.heap[w.heap.size]? = some (.cells a t (0, 0)) := (hb.block _ (by simp)).trans (heap_alloc_new w _)
theorem row_k {Q : Prop} {w w1 : World} {a : Array Value} {t : TypeId} (hb : Below (w.alloc (.cells a t)).drew.heap.size (w.alloc (.cells a t)).drew w1) (k : w1.heap[w.heap.size]? = some (.cells a t (0, 0)) → Q) : Q := k (row_drew hb)
set_option maxRecDepth 100000 in
set_option maxHeartbeats 8000000 in
theorem track_reached (m : TMod) (s p : V3) (t : Int) (w : World) (ho : m.Ok) (hs : s.inS 20 = true) (hpm : m.permit s) (hp : p.inS 1000 = true) (ht : -1000101 ≤ t ∧ t ≤ 1000100) :
    Calls Try.prog 75 #[m.v, s.v, .agg #[.int .i64 p.x, .int .i64 p.y, .int .i64 p.z, .int .i64 t]] w fun e w' => e = .returned (.bool (m.reached s p t)) ∧ Below w.heap.size w w' := by
  obtain ⟨n1, n2, n3, nS, na, nb, nc, nbb, nac⟩ := reach_nums ho hs hpm hp ht
  have hpl : m.pl.inS 100000000 = true := inS_iff.2 (by have h1 := ho.px; have h2 := ho.py; have h3 := ho.pz; unfold TMod.pl; simp only; omega)
  have hpp : p.inS 100000000 = true := inS_iff.2 (by have := inS_iff.1 hp; omega)
  have hat : IntKind.i64.wrap (t - m.tm) = t - m.tm := IntWalk.i64_in _ (by have := ho.tm; omega)
  have HS0 := hid (left_steps ho hs hp ht (k := 0) (by omega))
  have HS1 := hid (left_steps ho hs hp ht (k := 1) (by omega))
  have HS2 := hid (left_steps ho hs hp ht (k := 2) (by omega))
  have HMI : Hid (∀ W, Calls Try.prog 77 #[p.v, m.pl.v] W fun e w' => e = .returned (V3.v ⟨p.x - m.px, p.y - m.py, p.z - m.pz⟩) ∧ Below W.heap.size W w') := hid (fun W => track_minus p m.pl W hpp hpl)
  have HSL : Hid (∀ W, Calls Try.prog 121 #[m.v] W fun e w' => e = .returned (.int .i64 m.slow) ∧ Below W.heap.size W w') := hid (fun W => track_slow m W ho)
  have HD1 : Hid (∀ W, Calls Try.prog 78 #[s.v, s.v] W fun e w' => e = .returned (.int .i64 (s.dot s)) ∧ Below W.heap.size W w') := hid (fun W => track_dot s s W n1)
  have HD2 : Hid (∀ W, Calls Try.prog 78 #[(m.way s p t).v, s.v] W fun e w' => e = .returned (.int .i64 ((m.way s p t).dot s)) ∧ Below W.heap.size W w') := hid (fun W => track_dot _ s W n2)
  have HD3 : Hid (∀ W, Calls Try.prog 78 #[(m.way s p t).v, (m.way s p t).v] W fun e w' => e = .returned (.int .i64 ((m.way s p t).dot (m.way s p t))) ∧ Below W.heap.size W w') := hid (fun W => track_dot _ _ W n3)
  have HE : Hid (m.reached s p t = reachB (s.dot s - m.slow) ((m.way s p t).dot s) ((m.way s p t).dot (m.way s p t))) := hid rfl
  have k3 : IntKind.i64.wrap (s.dot s - m.slow) = s.dot s - m.slow := IntWalk.i64_in _ (by omega)
  have k4 : IntKind.i64.wrap ((m.way s p t).dot s * (m.way s p t).dot s) = (m.way s p t).dot s * (m.way s p t).dot s := IntWalk.i64_in _ (by omega)
  have k5 : IntKind.i64.wrap ((s.dot s - m.slow) * (m.way s p t).dot (m.way s p t)) = (s.dot s - m.slow) * (m.way s p t).dot (m.way s p t) := IntWalk.i64_in _ (by omega)
  generalize m.reached s p t = R at HE ⊢
  generalize m.way s p t = V at HS0 HS1 HS2 HD2 HD3 HE nb nc nbb nac k4 k5
  generalize s.dot s = S at HD1 HE nS na nac k3 k5
  generalize m.slow = L at HE na nac HSL k3 k5
  generalize V.dot s = B at HD2 HE nb nbb k4
  generalize V.dot V = C at HD3 HE nc nac k5
  generalize hF : S - L = F at HE na nac k3 k5
  have k3' : IntKind.i64.wrap (S - L) = F := by rw [hF]; exact k3
  clear k3 hF
  obtain ⟨BB, hBB⟩ : ∃ BB, BB = B * B := ⟨_, rfl⟩
  rw [← hBB] at k4 nbb
  have hBB' : B * B = BB := hBB.symm
  obtain ⟨FC, hFC⟩ : ∃ FC, FC = F * C := ⟨_, rfl⟩
  rw [← hFC] at k5 nac
  have hFC' : F * C = FC := hFC.symm
  have HER : Hid (R = (decide (C = 0) || (decide (B ≤ 0) && decide (FC ≤ BB)))) := hid (by rw [HE.out, ← hFC', ← hBB']; rfl)
  obtain ⟨px, py, pz, tm, tk, lo, hi, li, ea, la, no, mi⟩ := m
  obtain ⟨sx, sy, sz⟩ := s
  obtain ⟨qx, qy, qz⟩ := p
  obtain ⟨vx, vy, vz⟩ := V
  simp only [V3.at, TMod.pl, if_true, if_false, Nat.one_ne_zero, show ¬ ((2:Nat) = 0) from by decide, show ¬ ((2:Nat) = 1) from by decide] at HS0 HS1 HS2 HMI
  unfold TMod.v V3.v at *
  simp only at *
  generalize qx - px = dx at HS0 HMI
  generalize qy - py = dy at HS1 HMI
  generalize qz - pz = dz at HS2 HMI
  generalize hA : t - tm = A at HS0 HS1 HS2 hat
  have hat' : IntKind.i64.wrap (t - tm) = A := by rw [hA]; exact hat
  clear hBB hFC HE ho hs hpm hp ht n1 n2 n3 hpl hpp hA hat
  obtain ⟨W0, hW0⟩ : ∃ W0, W0 = ((w.alloc (.cells #[.int .i64 px, .int .i64 py, .int .i64 pz, .int .i64 tm, .int .i64 tk, .int .i64 lo, .int .i64 hi, .int .i64 li, .int .i64 ea, .int .i64 la, .int .i64 no, .int .i64 mi] 134)).alloc (.cells #[.int .i64 sx, .int .i64 sy, .int .i64 sz] 135)).alloc (.cells #[.int .i64 qx, .int .i64 qy, .int .i64 qz, .int .i64 t] 28) := ⟨_, rfl⟩
  have hbW0 : Below w.heap.size w W0 := by rw [hW0]; (repeat (with_reducible first | exact Below.refl _ _ | assumption | refine Below.drewN _ ?_ | refine Below.drew ?_ | refine Below_alloc ?_ _ | refine Below.alloc ?_ (by first | (simp; done) | (simp; omega) | omega) _ | refine Below.setCell ?_ (by first | (simp; done) | (simp; omega) | omega) _ | refine Below_call ?_ (by assumption) | refine Below.trans ?_ (by assumption)))
  obtain ⟨q0, q1, q2⟩ := al3 w _ _ _ _ _ _ W0 hW0
  have l0 := (Array.getElem?_eq_some_iff.1 q0).1
  have l1 := (Array.getElem?_eq_some_iff.1 q1).1
  have l2 := (Array.getElem?_eq_some_iff.1 q2).1
  have H0 := hid q0
  have H1 := hid q1
  have c0 : W0.cell? ⟨w.heap.size, 0, none⟩ = some (.int .i64 px) := by rw [cell_of_row W0 _ 0 _ _ (0, 0) q0]; rfl
  have c1 : W0.cell? ⟨w.heap.size, 1, none⟩ = some (.int .i64 py) := by rw [cell_of_row W0 _ 1 _ _ (0, 0) q0]; rfl
  have c2 : W0.cell? ⟨w.heap.size, 2, none⟩ = some (.int .i64 pz) := by rw [cell_of_row W0 _ 2 _ _ (0, 0) q0]; rfl
  have c3 : W0.cell? ⟨w.heap.size, 3, none⟩ = some (.int .i64 tm) := by rw [cell_of_row W0 _ 3 _ _ (0, 0) q0]; rfl
  have e0 : W0.cell? ⟨w.heap.size + 1 + 1, 0, none⟩ = some (.int .i64 qx) := by rw [cell_of_row W0 _ 0 _ _ (0, 0) q2]; rfl
  have e1 : W0.cell? ⟨w.heap.size + 1 + 1, 1, none⟩ = some (.int .i64 qy) := by rw [cell_of_row W0 _ 1 _ _ (0, 0) q2]; rfl
  have e2 : W0.cell? ⟨w.heap.size + 1 + 1, 2, none⟩ = some (.int .i64 qz) := by rw [cell_of_row W0 _ 2 _ _ (0, 0) q2]; rfl
  have e3 : W0.cell? ⟨w.heap.size + 1 + 1, 3, none⟩ = some (.int .i64 t) := by rw [cell_of_row W0 _ 3 _ _ (0, 0) q2]; rfl
  clear q0 q1 q2
  have GB : Hid ((C == 0) = decide (C = 0)) := hid (by by_cases h : C = 0 <;> simp [h])
  go_enter Try.func75, Try.ntmps75
  go_wp2_with fail
  rw [← hW0]
  clear hW0
  refine wp_mixC (fun wc => Below (W0.heap.size) W0 wc) 14 [.q [0, 1, 2, 3, 4, 6, 7, 8, 9, 10, 11], .p 5 12, .f [13]] [.q [14]] (by kernel_rfl) (by kernel_rfl) ((Below.refl _ _).drew) ?_
  intro Q' hQ'
  (rw [wpMixC]; simp only [pick, List.drop_succ_cons, List.drop_zero, List.head?_cons, Option.toList_some, List.cons_append, List.nil_append])
  (repeat (first | go_big_quiet_skip | (go_big_quiet_want; refine quiet_simple rfl ?_; go_big_quiet_op; go_big_quiet_on) | (go_big_quiet_want; refine quiet_cellB (ty := 3) rfl rfl (by kernel_rfl) (by assumption) (by first | omega | (simp; omega)) ?_; simp only [Act.put, List.setIfInBounds_toArray, List.set_cons_succ, List.set_cons_zero]; go_big_quiet_on) | (go_big_quiet_want; refine quiet_agg3B (ty := 22) rfl rfl (by kernel_rfl) (by assumption) (by assumption) (by assumption) (by first | omega | (simp; omega)) ?_; simp only [Act.put, List.setIfInBounds_toArray, List.set_cons_succ, List.set_cons_zero]; go_big_quiet_on)))
  (try refine wpQuiet_nil ?_)
  (rw [wpMixC]; simp only [pick, List.drop_succ_cons, List.drop_zero, List.head?_cons, Option.toList_some, List.cons_append, List.nil_append])
  (refine ⟨?_, ?_⟩)
  all_goals (rw [wpSteps]; go_wp2_with ((go_at_call 77; refine (HMI.out _).mono ?_; rintro _ w1 ⟨rfl, hb1⟩; (try (refine row_k hb1 (fun hrow => ?_); obtain ⟨f0, f1, f2, ff0, ff1, ff2, hlf⟩ := three_cells hrow)))); rw [contF]; refine ⟨?_, ?_⟩; (next => (repeat (with_reducible first | exact Below.refl _ _ | assumption | refine Below.drewN _ ?_ | refine Below.drew ?_ | refine Below_alloc ?_ _ | refine Below.alloc ?_ (by first | (simp; done) | (simp; omega) | omega) _ | refine Below.setCell ?_ (by first | (simp; done) | (simp; omega) | omega) _ | refine Below_call ?_ (by assumption) | refine Below.trans ?_ (by assumption)))))
  all_goals (rw [wpSteps]; go_wp2_with ((go_at_call 77; refine (HMI.out _).mono ?_; rintro _ w1 ⟨rfl, hb1⟩; (try (refine row_k hb1 (fun hrow => ?_); obtain ⟨f0, f1, f2, ff0, ff1, ff2, hlf⟩ := three_cells hrow)))); rw [contF]; refine ⟨?_, ?_⟩; (next => (repeat (with_reducible first | exact Below.refl _ _ | assumption | refine Below.drewN _ ?_ | refine Below.drew ?_ | refine Below_alloc ?_ _ | refine Below.alloc ?_ (by first | (simp; done) | (simp; omega) | omega) _ | refine Below.setCell ?_ (by first | (simp; done) | (simp; omega) | omega) _ | refine Below_call ?_ (by assumption) | refine Below.trans ?_ (by assumption)))))
  all_goals (rw [wpSteps])
  all_goals (rw [wpMixC]; simp only [pick, List.drop_succ_cons, List.drop_zero, List.head?_cons, Option.toList_some, List.cons_append, List.nil_append])
  all_goals (rw [wpSteps]; go_wp2_with (fail); rw [contF]; refine ⟨?_, ?_⟩; (next => (repeat (with_reducible first | exact Below.refl _ _ | assumption | refine Below.drewN _ ?_ | refine Below.drew ?_ | refine Below_alloc ?_ _ | refine Below.alloc ?_ (by first | (simp; done) | (simp; omega) | omega) _ | refine Below.setCell ?_ (by first | (simp; done) | (simp; omega) | omega) _ | refine Below_call ?_ (by assumption) | refine Below.trans ?_ (by assumption)))))
  all_goals (rw [wpSteps])
  all_goals (rw [wpMixC])
  all_goals (rw [wpMix]; simp only [pick, List.drop_succ_cons, List.drop_zero, List.head?_cons, Option.toList_some, List.cons_append, List.nil_append])
  all_goals (repeat (first | (go_big_quiet_step (fail)) | (quiet_step (fail))))
  all_goals (try refine wpQuiet_nil ?_)
  all_goals (rw [wpMix])
  all_goals (refine hQ' _ _ ?_)
  all_goals first
    | (have hb2 : Below W0.heap.size W0 w1 := by (repeat (with_reducible first | exact Below.refl _ _ | assumption | refine Below.drewN _ ?_ | refine Below.drew ?_ | refine Below_alloc ?_ _ | refine Below.alloc ?_ (by first | (simp; done) | (simp; omega) | omega) _ | refine Below.setCell ?_ (by first | (simp; done) | (simp; omega) | omega) _ | refine Below_call ?_ (by assumption) | refine Below.trans ?_ (by assumption)))
       obtain ⟨W, hW⟩ : ∃ W, W = w1.alloc (.cells #[.int .i64 dx, .int .i64 dy, .int .i64 dz] 135) := ⟨_, rfl⟩
       have hrow : W.heap[w1.heap.size]? = some (.cells #[.int .i64 dx, .int .i64 dy, .int .i64 dz] 135 (0, 0)) := by rw [hW]; exact heap_alloc_new w1 _
       have hgg : W0.heap.size ≤ w1.heap.size := hb2.size
       have hbb : Below W0.heap.size W0 W := by rw [hW]; (repeat (with_reducible first | exact Below.refl _ _ | assumption | refine Below.drewN _ ?_ | refine Below.drew ?_ | refine Below_alloc ?_ _ | refine Below.alloc ?_ (by first | (simp; done) | (simp; omega) | omega) _ | refine Below.setCell ?_ (by first | (simp; done) | (simp; omega) | omega) _ | refine Below_call ?_ (by assumption) | refine Below.trans ?_ (by assumption)))
       rw [← hW]
       generalize w1.heap.size = g at hrow hgg ⊢
       clear hW hb1 hb2)
    | (have hb2 : Below W0.heap.size W0 w1 := by (repeat (with_reducible first | exact Below.refl _ _ | assumption | refine Below.drewN _ ?_ | refine Below.drew ?_ | refine Below_alloc ?_ _ | refine Below.alloc ?_ (by first | (simp; done) | (simp; omega) | omega) _ | refine Below.setCell ?_ (by first | (simp; done) | (simp; omega) | omega) _ | refine Below_call ?_ (by assumption) | refine Below.trans ?_ (by assumption)))
       obtain ⟨W, hW⟩ : ∃ W, W = ((w1.setCell ⟨W0.heap.size, 0, none⟩ (.int .i64 dx)).setCell ⟨W0.heap.size, 1, none⟩ (.int .i64 dy)).setCell ⟨W0.heap.size, 2, none⟩ (.int .i64 dz) := ⟨_, rfl⟩
       have hrow : W.heap[W0.heap.size]? = some (.cells #[.int .i64 dx, .int .i64 dy, .int .i64 dz] 135 (0, 0)) := by rw [hW]; exact heap_setCell_same _ _ 2 _ _ (.int .i64 dz) (heap_setCell_same _ _ 1 _ _ (.int .i64 dy) (heap_setCell_same _ _ 0 _ _ (.int .i64 dx) hrow))
       have hbb : Below W0.heap.size W0 W := by rw [hW]; (repeat (with_reducible first | exact Below.refl _ _ | assumption | refine Below.drewN _ ?_ | refine Below.drew ?_ | refine Below_alloc ?_ _ | refine Below.alloc ?_ (by first | (simp; done) | (simp; omega) | omega) _ | refine Below.setCell ?_ (by first | (simp; done) | (simp; omega) | omega) _ | refine Below_call ?_ (by assumption) | refine Below.trans ?_ (by assumption)))
       rw [← hW]
       obtain ⟨g, hg⟩ : ∃ g, g = W0.heap.size := ⟨_, rfl⟩
       have hgg : W0.heap.size ≤ g := by omega
       rw [← hg] at hrow ⊢
       clear hW hg hb1 hb2 f0 f1 f2 ff0 ff1 ff2 hlf)
  all_goals
    have hlg := (Array.getElem?_eq_some_iff.1 hrow).1
    have hzWW : W0.heap.size ≤ W.heap.size := hbb.size
    obtain ⟨W2, hW2⟩ : ∃ W2, W2 = W.alloc (.cells #[.int .i64 0, .int .i64 0, .int .i64 0] 135) := ⟨_, rfl⟩
    have hb2 : Below W.heap.size W W2 := by rw [hW2]; (repeat (with_reducible first | exact Below.refl _ _ | assumption | refine Below.drewN _ ?_ | refine Below.drew ?_ | refine Below_alloc ?_ _ | refine Below.alloc ?_ (by first | (simp; done) | (simp; omega) | omega) _ | refine Below.setCell ?_ (by first | (simp; done) | (simp; omega) | omega) _ | refine Below_call ?_ (by assumption) | refine Below.trans ?_ (by assumption)))
    have R9 : Hid (W2.heap[W.heap.size]? = some (.cells #[.int .i64 0, .int .i64 0, .int .i64 0] 135 (0, 0))) := hid (by rw [hW2]; exact heap_alloc_new W _)
    have R0 := hid ((hb2.block w.heap.size (by omega)).trans ((hbb.block w.heap.size l0).trans H0.out))
    have R1 := hid ((hb2.block (w.heap.size + 1) (by omega)).trans ((hbb.block (w.heap.size + 1) l1).trans H1.out))
    have RG := hid ((hb2.block g hlg).trans hrow)
    have hbx : Below w.heap.size w W2 := (hbW0.trans (hbb.mono (by omega))).trans (hb2.mono (by omega))
    go_wp2_with fail
    rw [← hW2]
    clear hW2 hrow
    go_loopw [25] (fun i wr => ∃ (k : Nat) (o0 o1 o2 : Int), k ≤ 3 ∧ i = .int .i64 k ∧ Hid (wr.heap[W.heap.size]? = some (.cells #[.int .i64 o0, .int .i64 o1, .int .i64 o2] 135 (0, 0))) ∧ Hid ((0 < k → o0 = vx) ∧ (1 < k → o1 = vy) ∧ (2 < k → o2 = vz)) ∧ Below W.heap.size W2 wr) (fun i _ => 3 - (intOf i).toNat)
    case atStart => exact ⟨0, 0, 0, 0, by omega, rfl, R9, hid ⟨by omega, by omega, by omega⟩, Below.refl _ _⟩
    case round =>
      obtain ⟨k, o0, o1, o2, hk, rfl, HR, HO, hbel⟩ := hrel
      have hzw := hbel.size
      have r0 := (hbel.block w.heap.size (by omega)).trans R0.out
      have r1 := (hbel.block (w.heap.size + 1) (by omega)).trans R1.out
      have rg := (hbel.block g hlg).trans RG.out
      have hby : Below w.heap.size w wr := hbx.trans (hbel.mono (by omega))
      have a4 : wr.cell? ⟨w.heap.size, 4, none⟩ = some (.int .i64 tk) := by rw [cell_of_row wr _ 4 _ _ (0, 0) r0]; rfl
      obtain ⟨b0, b1, b2, fb0, fb1, fb2, hl1⟩ := three_cells r1
      obtain ⟨d0, d1, d2, fd0, fd1, fd2, hlg'⟩ := three_cells rg
      have hro := HR.out
      obtain ⟨f0, f1, f2, ff0, ff1, ff2, hl9⟩ := three_cells hro
      have hl0 : w.heap.size < wr.heap.size := (Array.getElem?_eq_some_iff.1 r0).1
      clear c0 c1 c2 c3 e0 e1 e2 e3 fb0 fb1 fb2 fd0 fd1 fd2 hro r0 r1 rg
      have hl0W : w.heap.size < W.heap.size := by omega
      have hl1W : w.heap.size + 1 < W.heap.size := by omega
      rcases (by omega : k = 0 ∨ k = 1 ∨ k = 2 ∨ k = 3) with rfl | rfl | rfl | rfl
      · obtain ⟨T, P, k1, k2, k6⟩ := HS0.out
        go_wp2_with fail
        refine wp_mixC (fun wc => Below (W.heap.size) wr wc) 14 [.q [0, 1, 2, 3, 4, 5, 6, 7, 8, 9, 10, 11, 12, 13]] [.q [14], .f [15]] (by kernel_rfl) (by kernel_rfl) ((Below.refl _ _).drew) ?_
        intro Q' hQ'
        (rw [wpMixC]; simp only [pick, List.drop_succ_cons, List.drop_zero, List.head?_cons, Option.toList_some, List.cons_append, List.nil_append])
        (repeat (first | go_big_quiet_skip | (go_big_quiet_want; refine quiet_simple rfl ?_; go_big_quiet_op; go_big_quiet_on) | (go_big_quiet_want; refine quiet_cellB (ty := 3) rfl rfl (by kernel_rfl) (by assumption) (by first | omega | (simp; omega)) ?_; simp only [Act.put, List.setIfInBounds_toArray, List.set_cons_succ, List.set_cons_zero]; go_big_quiet_on)))
        (try refine wpQuiet_nil ?_)
        (rw [wpMixC])
        (rw [wpMix]; simp only [pick, List.drop_succ_cons, List.drop_zero, List.head?_cons, Option.toList_some, List.cons_append, List.nil_append])
        (repeat (first | (go_big_quiet_step (fail)) | (quiet_step (fail))))
        (try refine wpQuiet_nil ?_)
        (rw [wpMix]; simp only [pick, List.drop_succ_cons, List.drop_zero, List.head?_cons, Option.toList_some, List.cons_append, List.nil_append])
        (go_wp2_with ((first | fail)); rw [contF])
        (rw [wpMix])
        (refine hQ' _ _ ?_)
        go_wp2_with fail
        go_roundw
        case rel => exact ⟨1, vx, o1, o2, by omega, by go_num, hid (heap_setCell_same _ _ 0 _ _ _ HR.out), hid ⟨fun _ => rfl, fun h => absurd h (by omega), fun h => absurd h (by omega)⟩, by (repeat (with_reducible first | exact Below.refl _ _ | assumption | refine Below.drewN _ ?_ | refine Below.drew ?_ | refine Below_alloc ?_ _ | refine Below.alloc ?_ (by first | (simp; done) | (simp; omega) | omega) _ | refine Below.setCell ?_ (by first | (simp; done) | (simp; omega) | omega) _ | refine Below_call ?_ (by assumption) | refine Below.trans ?_ (by assumption)))⟩
        case measure => simp [intOf]
      · obtain ⟨T, P, k1, k2, k6⟩ := HS1.out
        go_wp2_with fail
        refine wp_mixC (fun wc => Below (W.heap.size) wr wc) 14 [.q [0, 1, 2, 3, 4, 5, 6, 7, 8, 9, 10, 11, 12, 13]] [.q [14], .f [15]] (by kernel_rfl) (by kernel_rfl) ((Below.refl _ _).drew) ?_
        intro Q' hQ'
        (rw [wpMixC]; simp only [pick, List.drop_succ_cons, List.drop_zero, List.head?_cons, Option.toList_some, List.cons_append, List.nil_append])
        (repeat (first | go_big_quiet_skip | (go_big_quiet_want; refine quiet_simple rfl ?_; go_big_quiet_op; go_big_quiet_on) | (go_big_quiet_want; refine quiet_cellB (ty := 3) rfl rfl (by kernel_rfl) (by assumption) (by first | omega | (simp; omega)) ?_; simp only [Act.put, List.setIfInBounds_toArray, List.set_cons_succ, List.set_cons_zero]; go_big_quiet_on)))
        (try refine wpQuiet_nil ?_)
        (rw [wpMixC])
        (rw [wpMix]; simp only [pick, List.drop_succ_cons, List.drop_zero, List.head?_cons, Option.toList_some, List.cons_append, List.nil_append])
        (repeat (first | (go_big_quiet_step (fail)) | (quiet_step (fail))))
        (try refine wpQuiet_nil ?_)
        (rw [wpMix]; simp only [pick, List.drop_succ_cons, List.drop_zero, List.head?_cons, Option.toList_some, List.cons_append, List.nil_append])
        (go_wp2_with ((first | fail)); rw [contF])
        (rw [wpMix])
        (refine hQ' _ _ ?_)
        go_wp2_with fail
        go_roundw
        case rel => exact ⟨2, o0, vy, o2, by omega, by go_num, hid (heap_setCell_same _ _ 1 _ _ _ HR.out), hid ⟨fun _ => HO.out.1 (by omega), fun h => rfl, fun h => absurd h (by omega)⟩, by (repeat (with_reducible first | exact Below.refl _ _ | assumption | refine Below.drewN _ ?_ | refine Below.drew ?_ | refine Below_alloc ?_ _ | refine Below.alloc ?_ (by first | (simp; done) | (simp; omega) | omega) _ | refine Below.setCell ?_ (by first | (simp; done) | (simp; omega) | omega) _ | refine Below_call ?_ (by assumption) | refine Below.trans ?_ (by assumption)))⟩
        case measure => simp [intOf]
      · obtain ⟨T, P, k1, k2, k6⟩ := HS2.out
        go_wp2_with fail
        refine wp_mixC (fun wc => Below (W.heap.size) wr wc) 14 [.q [0, 1, 2, 3, 4, 5, 6, 7, 8, 9, 10, 11, 12, 13]] [.q [14], .f [15]] (by kernel_rfl) (by kernel_rfl) ((Below.refl _ _).drew) ?_
        intro Q' hQ'
        (rw [wpMixC]; simp only [pick, List.drop_succ_cons, List.drop_zero, List.head?_cons, Option.toList_some, List.cons_append, List.nil_append])
        (repeat (first | go_big_quiet_skip | (go_big_quiet_want; refine quiet_simple rfl ?_; go_big_quiet_op; go_big_quiet_on) | (go_big_quiet_want; refine quiet_cellB (ty := 3) rfl rfl (by kernel_rfl) (by assumption) (by first | omega | (simp; omega)) ?_; simp only [Act.put, List.setIfInBounds_toArray, List.set_cons_succ, List.set_cons_zero]; go_big_quiet_on)))
        (try refine wpQuiet_nil ?_)
        (rw [wpMixC])
        (rw [wpMix]; simp only [pick, List.drop_succ_cons, List.drop_zero, List.head?_cons, Option.toList_some, List.cons_append, List.nil_append])
        (repeat (first | (go_big_quiet_step (fail)) | (quiet_step (fail))))
        (try refine wpQuiet_nil ?_)
        (rw [wpMix]; simp only [pick, List.drop_succ_cons, List.drop_zero, List.head?_cons, Option.toList_some, List.cons_append, List.nil_append])
        (go_wp2_with ((first | fail)); rw [contF])
        (rw [wpMix])
        (refine hQ' _ _ ?_)
        go_wp2_with fail
        go_roundw
        case rel => exact ⟨3, o0, o1, vz, by omega, by go_num, hid (heap_setCell_same _ _ 2 _ _ _ HR.out), hid ⟨fun _ => HO.out.1 (by omega), fun _ => HO.out.2.1 (by omega), fun _ => rfl⟩, by (repeat (with_reducible first | exact Below.refl _ _ | assumption | refine Below.drewN _ ?_ | refine Below.drew ?_ | refine Below_alloc ?_ _ | refine Below.alloc ?_ (by first | (simp; done) | (simp; omega) | omega) _ | refine Below.setCell ?_ (by first | (simp; done) | (simp; omega) | omega) _ | refine Below_call ?_ (by assumption) | refine Below.trans ?_ (by assumption)))⟩
        case measure => simp [intOf]
      · have r0x := (hbel.block w.heap.size (by omega)).trans R0.out
        obtain rfl := HO.out.1 (by omega)
        obtain rfl := HO.out.2.1 (by omega)
        obtain rfl := HO.out.2.2 (by omega)
        go_wp2_with fail
        have hB3 := hid hby
        have R0z := hid r0x
        have R1z := hid ((hbel.block (w.heap.size + 1) (by omega)).trans R1.out)
        clear r0x
        refine wp_mixC (fun wc => Below (wr.heap.size) wr wc) 7 [.q [0, 1, 3, 4], .f [2, 5], .q [6]] [.q [7]] (by kernel_rfl) (by kernel_rfl) ((Below.refl _ _).drew) ?_
        intro Q' hQ'
        (rw [wpMixC]; simp only [pick, List.drop_succ_cons, List.drop_zero, List.head?_cons, Option.toList_some, List.cons_append, List.nil_append])
        (repeat (first | go_big_quiet_skip | (go_big_quiet_want; refine quiet_simple rfl ?_; go_big_quiet_op; go_big_quiet_on) | (go_big_quiet_want; refine quiet_agg3B (ty := 135) rfl rfl (by kernel_rfl) (by assumption) (by assumption) (by assumption) (by first | omega | (simp; omega)) ?_; simp only [Act.put, List.setIfInBounds_toArray, List.set_cons_succ, List.set_cons_zero]; go_big_quiet_on)))
        (try refine wpQuiet_nil ?_)
        (rw [wpMixC]; simp only [pick, List.drop_succ_cons, List.drop_zero, List.head?_cons, Option.toList_some, List.cons_append, List.nil_append])
        (rw [wpSteps]; go_wp2_with ((first | (go_at_call 78; ((with_reducible refine (HD2.out _).mono ?_); rintro _ w3 ⟨rfl, hb3⟩)) | (go_at_call 78; ((with_reducible refine (HD3.out _).mono ?_); rintro _ w4 ⟨rfl, hb4⟩)))); rw [contF]; refine ⟨?_, ?_⟩; (next => (repeat (with_reducible first | exact Below.refl _ _ | assumption | refine Below.drewN _ ?_ | refine Below.drew ?_ | refine Below_alloc ?_ _ | refine Below.alloc ?_ (by first | (simp; done) | (simp; omega) | omega) _ | refine Below.setCell ?_ (by first | (simp; done) | (simp; omega) | omega) _ | refine Below_call ?_ (by assumption) | refine Below.trans ?_ (by assumption)))))
        (rw [wpSteps]; go_wp2_with ((first | (go_at_call 78; ((with_reducible refine (HD2.out _).mono ?_); rintro _ w3 ⟨rfl, hb3⟩)) | (go_at_call 78; ((with_reducible refine (HD3.out _).mono ?_); rintro _ w4 ⟨rfl, hb4⟩)))); rw [contF]; refine ⟨?_, ?_⟩; (next => (repeat (with_reducible first | exact Below.refl _ _ | assumption | refine Below.drewN _ ?_ | refine Below.drew ?_ | refine Below_alloc ?_ _ | refine Below.alloc ?_ (by first | (simp; done) | (simp; omega) | omega) _ | refine Below.setCell ?_ (by first | (simp; done) | (simp; omega) | omega) _ | refine Below_call ?_ (by assumption) | refine Below.trans ?_ (by assumption)))))
        (rw [wpSteps])
        (rw [wpMixC]; simp only [pick, List.drop_succ_cons, List.drop_zero, List.head?_cons, Option.toList_some, List.cons_append, List.nil_append])
        (repeat (first | go_big_quiet_skip | (go_big_quiet_want; refine quiet_simple rfl ?_; go_big_quiet_op; go_big_quiet_on) | (go_big_quiet_want; refine quiet_agg3B (ty := 135) rfl rfl (by kernel_rfl) (by assumption) (by assumption) (by assumption) (by first | omega | (simp; omega)) ?_; simp only [Act.put, List.setIfInBounds_toArray, List.set_cons_succ, List.set_cons_zero]; go_big_quiet_on)))
        (try refine wpQuiet_nil ?_)
        (rw [wpMixC])
        (rw [wpMix]; simp only [pick, List.drop_succ_cons, List.drop_zero, List.head?_cons, Option.toList_some, List.cons_append, List.nil_append])
        (repeat (first | (go_big_quiet_step (fail)) | (quiet_step (fail))))
        (try refine wpQuiet_nil ?_)
        (rw [wpMix])
        (refine hQ' _ _ ?_)
        go_wp2_with fail
        have hb5 : Below wr.heap.size wr w4 := by (repeat (with_reducible first | exact Below.refl _ _ | assumption | refine Below.drewN _ ?_ | refine Below.drew ?_ | refine Below_alloc ?_ _ | refine Below.alloc ?_ (by first | (simp; done) | (simp; omega) | omega) _ | refine Below.setCell ?_ (by first | (simp; done) | (simp; omega) | omega) _ | refine Below_call ?_ (by assumption) | refine Below.trans ?_ (by assumption)))
        have hb6 : Below w.heap.size w w4 := hB3.out.trans (hb5.mono (by omega))
        have hB6 := hid hb6
        have y0 := (hb5.block w.heap.size (by omega)).trans R0z.out
        have y1 := (hb5.block (w.heap.size + 1) (by omega)).trans R1z.out
        obtain ⟨s0, s1, s2, fs0, fs1, fs2, hls⟩ := three_cells y1
        have m0 : w4.cell? ⟨w.heap.size, 0, none⟩ = some (.int .i64 px) := by rw [cell_of_row w4 _ 0 _ _ (0, 0) y0]; rfl
        have m1 : w4.cell? ⟨w.heap.size, 1, none⟩ = some (.int .i64 py) := by rw [cell_of_row w4 _ 1 _ _ (0, 0) y0]; rfl
        have m2 : w4.cell? ⟨w.heap.size, 2, none⟩ = some (.int .i64 pz) := by rw [cell_of_row w4 _ 2 _ _ (0, 0) y0]; rfl
        have m3 : w4.cell? ⟨w.heap.size, 3, none⟩ = some (.int .i64 tm) := by rw [cell_of_row w4 _ 3 _ _ (0, 0) y0]; rfl
        have m4 : w4.cell? ⟨w.heap.size, 4, none⟩ = some (.int .i64 tk) := by rw [cell_of_row w4 _ 4 _ _ (0, 0) y0]; rfl
        have m5 : w4.cell? ⟨w.heap.size, 5, none⟩ = some (.int .i64 lo) := by rw [cell_of_row w4 _ 5 _ _ (0, 0) y0]; rfl
        have m6 : w4.cell? ⟨w.heap.size, 6, none⟩ = some (.int .i64 hi) := by rw [cell_of_row w4 _ 6 _ _ (0, 0) y0]; rfl
        have m7 : w4.cell? ⟨w.heap.size, 7, none⟩ = some (.int .i64 li) := by rw [cell_of_row w4 _ 7 _ _ (0, 0) y0]; rfl
        have m8 : w4.cell? ⟨w.heap.size, 8, none⟩ = some (.int .i64 ea) := by rw [cell_of_row w4 _ 8 _ _ (0, 0) y0]; rfl
        have m9 : w4.cell? ⟨w.heap.size, 9, none⟩ = some (.int .i64 la) := by rw [cell_of_row w4 _ 9 _ _ (0, 0) y0]; rfl
        have m10 : w4.cell? ⟨w.heap.size, 10, none⟩ = some (.int .i64 no) := by rw [cell_of_row w4 _ 10 _ _ (0, 0) y0]; rfl
        have m11 : w4.cell? ⟨w.heap.size, 11, none⟩ = some (.int .i64 mi) := by rw [cell_of_row w4 _ 11 _ _ (0, 0) y0]; rfl
        have hlm : w.heap.size < w4.heap.size := (Array.getElem?_eq_some_iff.1 y0).1
        clear y0 y1 fs0 fs1 fs2 hb3 hb4 hb5 f0 f1 f2 ff0 ff1 ff2 b0 b1 b2 d0 d1 d2 a4 hby hbel
        by_cases g1 : C = 0
        · have g1a : (C == 0) = true := by simpa using g1
          have HV : Hid (R = true) := hid (by rw [HER.out]; simp [g1])
          clear g1
          refine wp_mixC (fun wc => Below (w4.heap.size) w4 wc) 20 [.q [0, 1, 2, 3, 4, 5, 6, 7, 8, 9, 10, 12, 15], .f [11, 13], .q [14, 16, 17, 18, 19]] [.q [20]] (by kernel_rfl) (by kernel_rfl) ((Below.refl _ _).drew) ?_
          intro Q' hQ'
          (rw [wpMixC]; simp only [pick, List.drop_succ_cons, List.drop_zero, List.head?_cons, Option.toList_some, List.cons_append, List.nil_append])
          (repeat (first | go_big_quiet_skip | (go_big_quiet_want; refine quiet_simple rfl ?_; go_big_quiet_op; go_big_quiet_on) | (go_big_quiet_want; refine quiet_agg12B (ty := 134) rfl rfl (by kernel_rfl) (by assumption) (by assumption) (by assumption) (by assumption) (by assumption) (by assumption) (by assumption) (by assumption) (by assumption) (by assumption) (by assumption) (by assumption) (by first | omega | (simp; omega)) ?_; simp only [Act.put, List.setIfInBounds_toArray, List.set_cons_succ, List.set_cons_zero]; go_big_quiet_on) | (go_big_quiet_want; refine quiet_agg3B (ty := 135) rfl rfl (by kernel_rfl) (by assumption) (by assumption) (by assumption) (by first | omega | (simp; omega)) ?_; simp only [Act.put, List.setIfInBounds_toArray, List.set_cons_succ, List.set_cons_zero]; go_big_quiet_on)))
          (try refine wpQuiet_nil ?_)
          (rw [wpMixC]; simp only [pick, List.drop_succ_cons, List.drop_zero, List.head?_cons, Option.toList_some, List.cons_append, List.nil_append])
          (rw [wpSteps]; go_wp2_with ((go_at_call 78; ((with_reducible refine (HD1.out _).mono ?_); rintro _ w5 ⟨rfl, hb5⟩))); rw [contF]; refine ⟨?_, ?_⟩; (next => (repeat (with_reducible first | exact Below.refl _ _ | assumption | refine Below.drewN _ ?_ | refine Below.drew ?_ | refine Below_alloc ?_ _ | refine Below.alloc ?_ (by first | (simp; done) | (simp; omega) | omega) _ | refine Below.setCell ?_ (by first | (simp; done) | (simp; omega) | omega) _ | refine Below_call ?_ (by assumption) | refine Below.trans ?_ (by assumption)))))
          (rw [wpSteps]; go_wp2_with ((go_at_call 121; ((with_reducible refine (HSL.out _).mono ?_); rintro _ w6 ⟨rfl, hb6'⟩))); rw [contF]; refine ⟨?_, ?_⟩; (next => (repeat (with_reducible first | exact Below.refl _ _ | assumption | refine Below.drewN _ ?_ | refine Below.drew ?_ | refine Below_alloc ?_ _ | refine Below.alloc ?_ (by first | (simp; done) | (simp; omega) | omega) _ | refine Below.setCell ?_ (by first | (simp; done) | (simp; omega) | omega) _ | refine Below_call ?_ (by assumption) | refine Below.trans ?_ (by assumption)))))
          (rw [wpSteps])
          (rw [wpMixC]; simp only [pick, List.drop_succ_cons, List.drop_zero, List.head?_cons, Option.toList_some, List.cons_append, List.nil_append])
          (repeat (first | go_big_quiet_skip | (go_big_quiet_want; refine quiet_simple rfl ?_; go_big_quiet_op; go_big_quiet_on) | (go_big_quiet_want; refine quiet_agg12B (ty := 134) rfl rfl (by kernel_rfl) (by assumption) (by assumption) (by assumption) (by assumption) (by assumption) (by assumption) (by assumption) (by assumption) (by assumption) (by assumption) (by assumption) (by assumption) (by first | omega | (simp; omega)) ?_; simp only [Act.put, List.setIfInBounds_toArray, List.set_cons_succ, List.set_cons_zero]; go_big_quiet_on) | (go_big_quiet_want; refine quiet_agg3B (ty := 135) rfl rfl (by kernel_rfl) (by assumption) (by assumption) (by assumption) (by first | omega | (simp; omega)) ?_; simp only [Act.put, List.setIfInBounds_toArray, List.set_cons_succ, List.set_cons_zero]; go_big_quiet_on)))
          (try refine wpQuiet_nil ?_)
          (rw [wpMixC])
          (rw [wpMix]; simp only [pick, List.drop_succ_cons, List.drop_zero, List.head?_cons, Option.toList_some, List.cons_append, List.nil_append])
          (repeat (first | (go_big_quiet_step (fail)) | (quiet_step (fail))))
          (try refine wpQuiet_nil ?_)
          (rw [wpMix])
          (refine hQ' _ _ ?_)
          go_wp2_with fail
          go_ret
          exact ⟨ret_bool (by rw [HV.out]), by (repeat (with_reducible first | exact Below.refl _ _ | assumption | refine Below.drewN _ ?_ | refine Below.drew ?_ | refine Below_alloc ?_ _ | refine Below.alloc ?_ (by first | (simp; done) | (simp; omega) | omega) _ | refine Below.setCell ?_ (by first | (simp; done) | (simp; omega) | omega) _ | refine Below_call ?_ (by assumption) | refine Below.trans ?_ (by assumption)))⟩
        · have g1a : (C == 0) = false := by simpa using g1
          by_cases g2 : B ≤ 0
          · have g2a : decide (B ≤ 0) = true := by simpa using g2
            have HV : Hid (R = decide (FC ≤ BB)) := hid (by rw [HER.out]; simp [g1, g2])
            refine wp_mixC (fun wc => Below (w4.heap.size) w4 wc) 20 [.q [0, 1, 2, 3, 4, 5, 6, 7, 8, 9, 10, 12, 15], .f [11, 13], .q [14, 16, 17, 18, 19]] [.q [20]] (by kernel_rfl) (by kernel_rfl) ((Below.refl _ _).drew) ?_
            intro Q' hQ'
            (rw [wpMixC]; simp only [pick, List.drop_succ_cons, List.drop_zero, List.head?_cons, Option.toList_some, List.cons_append, List.nil_append])
            (repeat (first | go_big_quiet_skip | (go_big_quiet_want; refine quiet_simple rfl ?_; go_big_quiet_op; go_big_quiet_on) | (go_big_quiet_want; refine quiet_agg12B (ty := 134) rfl rfl (by kernel_rfl) (by assumption) (by assumption) (by assumption) (by assumption) (by assumption) (by assumption) (by assumption) (by assumption) (by assumption) (by assumption) (by assumption) (by assumption) (by first | omega | (simp; omega)) ?_; simp only [Act.put, List.setIfInBounds_toArray, List.set_cons_succ, List.set_cons_zero]; go_big_quiet_on) | (go_big_quiet_want; refine quiet_agg3B (ty := 135) rfl rfl (by kernel_rfl) (by assumption) (by assumption) (by assumption) (by first | omega | (simp; omega)) ?_; simp only [Act.put, List.setIfInBounds_toArray, List.set_cons_succ, List.set_cons_zero]; go_big_quiet_on)))
            (try refine wpQuiet_nil ?_)
            (rw [wpMixC]; simp only [pick, List.drop_succ_cons, List.drop_zero, List.head?_cons, Option.toList_some, List.cons_append, List.nil_append])
            (rw [wpSteps]; go_wp2_with ((go_at_call 78; ((with_reducible refine (HD1.out _).mono ?_); rintro _ w5 ⟨rfl, hb5⟩))); rw [contF]; refine ⟨?_, ?_⟩; (next => (repeat (with_reducible first | exact Below.refl _ _ | assumption | refine Below.drewN _ ?_ | refine Below.drew ?_ | refine Below_alloc ?_ _ | refine Below.alloc ?_ (by first | (simp; done) | (simp; omega) | omega) _ | refine Below.setCell ?_ (by first | (simp; done) | (simp; omega) | omega) _ | refine Below_call ?_ (by assumption) | refine Below.trans ?_ (by assumption)))))
            (rw [wpSteps]; go_wp2_with ((go_at_call 121; ((with_reducible refine (HSL.out _).mono ?_); rintro _ w6 ⟨rfl, hb6'⟩))); rw [contF]; refine ⟨?_, ?_⟩; (next => (repeat (with_reducible first | exact Below.refl _ _ | assumption | refine Below.drewN _ ?_ | refine Below.drew ?_ | refine Below_alloc ?_ _ | refine Below.alloc ?_ (by first | (simp; done) | (simp; omega) | omega) _ | refine Below.setCell ?_ (by first | (simp; done) | (simp; omega) | omega) _ | refine Below_call ?_ (by assumption) | refine Below.trans ?_ (by assumption)))))
            (rw [wpSteps])
            (rw [wpMixC]; simp only [pick, List.drop_succ_cons, List.drop_zero, List.head?_cons, Option.toList_some, List.cons_append, List.nil_append])
            (repeat (first | go_big_quiet_skip | (go_big_quiet_want; refine quiet_simple rfl ?_; go_big_quiet_op; go_big_quiet_on) | (go_big_quiet_want; refine quiet_agg12B (ty := 134) rfl rfl (by kernel_rfl) (by assumption) (by assumption) (by assumption) (by assumption) (by assumption) (by assumption) (by assumption) (by assumption) (by assumption) (by assumption) (by assumption) (by assumption) (by first | omega | (simp; omega)) ?_; simp only [Act.put, List.setIfInBounds_toArray, List.set_cons_succ, List.set_cons_zero]; go_big_quiet_on) | (go_big_quiet_want; refine quiet_agg3B (ty := 135) rfl rfl (by kernel_rfl) (by assumption) (by assumption) (by assumption) (by first | omega | (simp; omega)) ?_; simp only [Act.put, List.setIfInBounds_toArray, List.set_cons_succ, List.set_cons_zero]; go_big_quiet_on)))
            (try refine wpQuiet_nil ?_)
            (rw [wpMixC])
            (rw [wpMix]; simp only [pick, List.drop_succ_cons, List.drop_zero, List.head?_cons, Option.toList_some, List.cons_append, List.nil_append])
            (repeat (first | (go_big_quiet_step (fail)) | (quiet_step (fail))))
            (try refine wpQuiet_nil ?_)
            (rw [wpMix])
            (refine hQ' _ _ ?_)
            go_wp2_with fail
            go_ret
            exact ⟨ret_bool (by rw [HV.out]), by (repeat (with_reducible first | exact Below.refl _ _ | assumption | refine Below.drewN _ ?_ | refine Below.drew ?_ | refine Below_alloc ?_ _ | refine Below.alloc ?_ (by first | (simp; done) | (simp; omega) | omega) _ | refine Below.setCell ?_ (by first | (simp; done) | (simp; omega) | omega) _ | refine Below_call ?_ (by assumption) | refine Below.trans ?_ (by assumption)))⟩
          · have g2a : decide (B ≤ 0) = false := by simpa using g2
            have HV : Hid (R = false) := hid (by rw [HER.out]; simp [g1, g2])
            refine wp_mixC (fun wc => Below (w4.heap.size) w4 wc) 20 [.q [0, 1, 2, 3, 4, 5, 6, 7, 8, 9, 10, 12, 15], .f [11, 13], .q [14, 16, 17, 18, 19]] [.q [20]] (by kernel_rfl) (by kernel_rfl) ((Below.refl _ _).drew) ?_
            intro Q' hQ'
            (rw [wpMixC]; simp only [pick, List.drop_succ_cons, List.drop_zero, List.head?_cons, Option.toList_some, List.cons_append, List.nil_append])
            (repeat (first | go_big_quiet_skip | (go_big_quiet_want; refine quiet_simple rfl ?_; go_big_quiet_op; go_big_quiet_on) | (go_big_quiet_want; refine quiet_agg12B (ty := 134) rfl rfl (by kernel_rfl) (by assumption) (by assumption) (by assumption) (by assumption) (by assumption) (by assumption) (by assumption) (by assumption) (by assumption) (by assumption) (by assumption) (by assumption) (by first | omega | (simp; omega)) ?_; simp only [Act.put, List.setIfInBounds_toArray, List.set_cons_succ, List.set_cons_zero]; go_big_quiet_on) | (go_big_quiet_want; refine quiet_agg3B (ty := 135) rfl rfl (by kernel_rfl) (by assumption) (by assumption) (by assumption) (by first | omega | (simp; omega)) ?_; simp only [Act.put, List.setIfInBounds_toArray, List.set_cons_succ, List.set_cons_zero]; go_big_quiet_on)))
            (try refine wpQuiet_nil ?_)
            (rw [wpMixC]; simp only [pick, List.drop_succ_cons, List.drop_zero, List.head?_cons, Option.toList_some, List.cons_append, List.nil_append])
            (rw [wpSteps]; go_wp2_with ((go_at_call 78; ((with_reducible refine (HD1.out _).mono ?_); rintro _ w5 ⟨rfl, hb5⟩))); rw [contF]; refine ⟨?_, ?_⟩; (next => (repeat (with_reducible first | exact Below.refl _ _ | assumption | refine Below.drewN _ ?_ | refine Below.drew ?_ | refine Below_alloc ?_ _ | refine Below.alloc ?_ (by first | (simp; done) | (simp; omega) | omega) _ | refine Below.setCell ?_ (by first | (simp; done) | (simp; omega) | omega) _ | refine Below_call ?_ (by assumption) | refine Below.trans ?_ (by assumption)))))
            (rw [wpSteps]; go_wp2_with ((go_at_call 121; ((with_reducible refine (HSL.out _).mono ?_); rintro _ w6 ⟨rfl, hb6'⟩))); rw [contF]; refine ⟨?_, ?_⟩; (next => (repeat (with_reducible first | exact Below.refl _ _ | assumption | refine Below.drewN _ ?_ | refine Below.drew ?_ | refine Below_alloc ?_ _ | refine Below.alloc ?_ (by first | (simp; done) | (simp; omega) | omega) _ | refine Below.setCell ?_ (by first | (simp; done) | (simp; omega) | omega) _ | refine Below_call ?_ (by assumption) | refine Below.trans ?_ (by assumption)))))
            (rw [wpSteps])
            (rw [wpMixC]; simp only [pick, List.drop_succ_cons, List.drop_zero, List.head?_cons, Option.toList_some, List.cons_append, List.nil_append])
            (repeat (first | go_big_quiet_skip | (go_big_quiet_want; refine quiet_simple rfl ?_; go_big_quiet_op; go_big_quiet_on) | (go_big_quiet_want; refine quiet_agg12B (ty := 134) rfl rfl (by kernel_rfl) (by assumption) (by assumption) (by assumption) (by assumption) (by assumption) (by assumption) (by assumption) (by assumption) (by assumption) (by assumption) (by assumption) (by assumption) (by first | omega | (simp; omega)) ?_; simp only [Act.put, List.setIfInBounds_toArray, List.set_cons_succ, List.set_cons_zero]; go_big_quiet_on) | (go_big_quiet_want; refine quiet_agg3B (ty := 135) rfl rfl (by kernel_rfl) (by assumption) (by assumption) (by assumption) (by first | omega | (simp; omega)) ?_; simp only [Act.put, List.setIfInBounds_toArray, List.set_cons_succ, List.set_cons_zero]; go_big_quiet_on)))
            (try refine wpQuiet_nil ?_)
            (rw [wpMixC])
            (rw [wpMix]; simp only [pick, List.drop_succ_cons, List.drop_zero, List.head?_cons, Option.toList_some, List.cons_append, List.nil_append])
            (repeat (first | (go_big_quiet_step (fail)) | (quiet_step (fail))))
            (try refine wpQuiet_nil ?_)
            (rw [wpMix])
            (refine hQ' _ _ ?_)
            go_wp2_with fail
            go_ret
            exact ⟨ret_bool (by rw [HV.out]), by (repeat (with_reducible first | exact Below.refl _ _ | assumption | refine Below.drewN _ ?_ | refine Below.drew ?_ | refine Below_alloc ?_ _ | refine Below.alloc ?_ (by first | (simp; done) | (simp; omega) | omega) _ | refine Below.setCell ?_ (by first | (simp; done) | (simp; omega) | omega) _ | refine Below_call ?_ (by assumption) | refine Below.trans ?_ (by assumption)))⟩
end Go.Proofs.Ytlmdmpjfehpjeaa

/- Tracks: models opened by the program. -/
set_option linter.unusedVariables false
set_option linter.unusedSimpArgs false
namespace Go.Proofs.Ytlmdmpjfehpjeaa
open Go.RowKit

end Go.Proofs.Ytlmdmpjfehpjeaa

/- Tracks: the error of a model by the program. -/
set_option linter.unusedVariables false
set_option linter.unusedSimpArgs false
namespace Go.Proofs.Ytlmdmpjfehpjeaa
open Go.RowKit

theorem err_two (m : TMod) : (firstNZ [plE m.pl, tmE m.tm, unl m.right 2] ≠ 0 → m.err = firstNZ [plE m.pl, tmE m.tm, unl m.right 2]) ∧ (firstNZ [plE m.pl, tmE m.tm, unl m.right 2] = 0 → m.right = true ∧ m.err = firstNZ [unl (decide (m.lo ≤ m.hi)) 9, unl (decide (m.slow < m.lo)) 13]) := by
  unfold TMod.err
  by_cases h1 : plE m.pl = 0
  · by_cases h2 : tmE m.tm = 0
    · cases h3 : m.right
      · simp [firstNZ, h1, h2, unl]
      · simp [firstNZ, h1, h2, unl]
    · simp [firstNZ, h1, h2]
  · simp [firstNZ, h1]

set_option maxRecDepth 100000 in
set_option maxHeartbeats 8000000 in
theorem track_CheckModel (m : TMod) (w : World) : Calls Try.prog 14 #[m.v] w fun e w' => e = .returned (.int .i64 m.err) ∧ Below w.heap.size w w' := by
  have HE := hid (err_two m)
  have HSZ : Hid (m.right = true → 0 ≤ m.li * m.tk ∧ m.li * m.tk ≤ 2000 ∧ 0 ≤ m.li * m.tk * m.tk ∧ m.li * m.tk * m.tk ≤ 40000) := hid right_sz
  have HP : Hid (∀ W, Calls Try.prog 70 #[m.pl.v] W fun e w' => e = .returned (.int .i64 (plE m.pl)) ∧ Below W.heap.size W w') := hid (fun W => track_placeErr m.pl W)
  have HT : Hid (∀ W, Calls Try.prog 71 #[.int .i64 m.tm] W fun e w' => e = .returned (.int .i64 (tmE m.tm)) ∧ W = w') := hid (fun W => track_timeErr _ W)
  have HR : Hid (m.right = (inB m.tk 1 20 && inB m.lo 1 1200 && inB m.hi 1 1200 && inB m.li 1 100 && inB m.ea 0 100 && inB m.la 0 100 && inB m.no 0 100 && inB m.mi 0 100)) := hid rfl
  have HSL : Hid (m.slow = m.li * m.tk * m.tk) := hid rfl
  generalize plE m.pl = P at HE HP
  generalize tmE m.tm = T at HE HT
  generalize m.err = E at HE ⊢
  generalize m.right = R at HE HSZ HR
  generalize m.slow = S at HE HSL
  obtain ⟨px, py, pz, tm, tk, lo, hi, li, ea, la, no, mi⟩ := m
  unfold TMod.v
  simp only [TMod.pl, V3.v] at *
  obtain ⟨W, hW⟩ : ∃ W, W = w.alloc (.cells #[.int .i64 px, .int .i64 py, .int .i64 pz, .int .i64 tm, .int .i64 tk, .int .i64 lo, .int .i64 hi, .int .i64 li, .int .i64 ea, .int .i64 la, .int .i64 no, .int .i64 mi] 26) := ⟨_, rfl⟩
  have hbW : Below w.heap.size w W := by rw [hW]; (repeat (with_reducible first | exact Below.refl _ _ | assumption | refine Below.drewN _ ?_ | refine Below.drew ?_ | refine Below_alloc ?_ _ | refine Below.alloc ?_ (by first | (simp; done) | (simp; omega) | omega) _ | refine Below.setCell ?_ (by first | (simp; done) | (simp; omega) | omega) _ | refine Below_call ?_ (by assumption) | refine Below.trans ?_ (by assumption)))
  have q0 : W.heap[w.heap.size]? = some (.cells #[.int .i64 px, .int .i64 py, .int .i64 pz, .int .i64 tm, .int .i64 tk, .int .i64 lo, .int .i64 hi, .int .i64 li, .int .i64 ea, .int .i64 la, .int .i64 no, .int .i64 mi] 26 (0, 0)) := by rw [hW]; exact heap_alloc_new w _
  have Q0 := hid q0
  have c0 : W.cell? ⟨w.heap.size, 0, none⟩ = some (.int .i64 px) := by rw [cell_of_row W _ 0 _ _ (0, 0) q0]; rfl
  have c1 : W.cell? ⟨w.heap.size, 1, none⟩ = some (.int .i64 py) := by rw [cell_of_row W _ 1 _ _ (0, 0) q0]; rfl
  have c2 : W.cell? ⟨w.heap.size, 2, none⟩ = some (.int .i64 pz) := by rw [cell_of_row W _ 2 _ _ (0, 0) q0]; rfl
  have c3 : W.cell? ⟨w.heap.size, 3, none⟩ = some (.int .i64 tm) := by rw [cell_of_row W _ 3 _ _ (0, 0) q0]; rfl
  have hl0 := (Array.getElem?_eq_some_iff.1 q0).1
  clear q0
  have hi0 : ∀ (a b c d : Int) (w : World), (Instr.index 128 (.agg #[.int .i64 a, .int .i64 b, .int .i64 c, .int .i64 d]) (.int .i64 0)).run Try.prog w = .ok (.int .i64 a) w := fun _ _ _ _ _ => by kernel_rfl
  have hi1 : ∀ (a b c d : Int) (w : World), (Instr.index 128 (.agg #[.int .i64 a, .int .i64 b, .int .i64 c, .int .i64 d]) (.int .i64 1)).run Try.prog w = .ok (.int .i64 b) w := fun _ _ _ _ _ => by kernel_rfl
  have hi2 : ∀ (a b c d : Int) (w : World), (Instr.index 128 (.agg #[.int .i64 a, .int .i64 b, .int .i64 c, .int .i64 d]) (.int .i64 2)).run Try.prog w = .ok (.int .i64 c) w := fun _ _ _ _ _ => by kernel_rfl
  have hi3 : ∀ (a b c d : Int) (w : World), (Instr.index 128 (.agg #[.int .i64 a, .int .i64 b, .int .i64 c, .int .i64 d]) (.int .i64 3)).run Try.prog w = .ok (.int .i64 d) w := fun _ _ _ _ _ => by kernel_rfl
  cases R
  · have HN : Hid (E = firstNZ [P, T, 2] ∧ firstNZ [P, T, 2] ≠ 0) := hid (by
      have h0 : firstNZ [P, T, unl false 2] ≠ 0 := by
        by_cases h1 : P = 0 <;> by_cases h2 : T = 0 <;> simp [firstNZ, unl, h1, h2]
      exact ⟨HE.out.1 h0, h0⟩)
    have HB : Hid (¬ (inB tk 1 20 = true ∧ inB lo 1 1200 = true ∧ inB hi 1 1200 = true ∧ inB li 1 100 = true ∧ inB ea 0 100 = true ∧ inB la 0 100 = true ∧ inB no 0 100 = true ∧ inB mi 0 100 = true)) := hid (by
      rintro ⟨b1, b2, b3, b4, b5, b6, b7, b8⟩
      have := HR.out
      rw [b1, b2, b3, b4, b5, b6, b7, b8] at this
      exact absurd this (by decide))
    have hne : (E != 0) = true := by have h1 := HN.out.1; have h2 := HN.out.2; rw [← h1] at h2; simpa using h2
    have HF : Hid (∀ v w, IntsAt w v [P, T, unl false 2] → Calls Try.prog 69 #[v] w fun e w' => e = .returned (.int .i64 E) ∧ w = w') := hid (fun v w h => by rw [HN.out.1]; exact track_first _ v w h)
    cases hm : inB mi 0 100
    all_goals
      go_enter Try.func14, Try.ntmps14
      go_wp2_with (go_at_call 68; refine (track_within _ _ _ _).mono ?_; rintro _ _ ⟨rfl, rfl⟩)
      all_goals (refine wp_loop_rounds 5 ?_)
      repeat any_goals (rw [rounds_succ]; go_wp2_with (go_at_call 68; refine (track_within _ _ _ _).mono ?_; rintro _ _ ⟨rfl, rfl⟩))
      all_goals (try simp only [Bool.not_eq_true', Bool.not_eq_false', Bool.not_eq_true, Bool.not_eq_false] at *)
      all_goals (try (exfalso; exact HB.out ⟨by assumption, by assumption, by assumption, by assumption, by assumption, by assumption, by assumption, by assumption⟩))
      all_goals (rw [← hW])
      all_goals (clear hW)
      all_goals
        refine wp_mixC (fun wc => Below (W.heap.size) W wc) 10 [.q [0, 1, 3, 4, 6], .f [2, 5, 7, 8, 9]] [.q [10]] (by kernel_rfl) (by kernel_rfl) ((Below.refl _ _).drew) ?_
        intro Q' hQ'
        (rw [wpMixC]; simp only [pick, List.drop_succ_cons, List.drop_zero, List.head?_cons, Option.toList_some, List.cons_append, List.nil_append])
        (repeat (first | go_big_quiet_skip | (go_big_quiet_want; refine quiet_simple rfl ?_; go_big_quiet_op; go_big_quiet_on) | (go_big_quiet_want; refine quiet_cellB (ty := 3) rfl rfl (by kernel_rfl) (by assumption) (by first | omega | (simp; omega)) ?_; simp only [Act.put, List.setIfInBounds_toArray, List.set_cons_succ, List.set_cons_zero]; go_big_quiet_on) | (go_big_quiet_want; refine quiet_agg3B (ty := 22) rfl rfl (by kernel_rfl) (by assumption) (by assumption) (by assumption) (by first | omega | (simp; omega)) ?_; simp only [Act.put, List.setIfInBounds_toArray, List.set_cons_succ, List.set_cons_zero]; go_big_quiet_on)))
        (try refine wpQuiet_nil ?_)
        (rw [wpMixC]; simp only [pick, List.drop_succ_cons, List.drop_zero, List.head?_cons, Option.toList_some, List.cons_append, List.nil_append])
        (rw [wpSteps]; go_wp2_with ((go_at_call 70; refine (HP.out _).mono ?_; rintro _ w1 ⟨rfl, hb1⟩)); rw [contF]; refine ⟨?_, ?_⟩; (next => (repeat (with_reducible first | exact Below.refl _ _ | assumption | refine Below.drewN _ ?_ | refine Below.drew ?_ | refine Below_alloc ?_ _ | refine Below.alloc ?_ (by first | (simp; done) | (simp; omega) | omega) _ | refine Below.setCell ?_ (by first | (simp; done) | (simp; omega) | omega) _ | refine Below_call ?_ (by assumption) | refine Below.trans ?_ (by assumption)))))
        (rw [wpSteps]; go_wp2_with ((go_at_call 71; refine (HT.out _).mono ?_; rintro _ _ ⟨rfl, rfl⟩)); rw [contF]; refine ⟨?_, ?_⟩; (next => (repeat (with_reducible first | exact Below.refl _ _ | assumption | refine Below.drewN _ ?_ | refine Below.drew ?_ | refine Below_alloc ?_ _ | refine Below.alloc ?_ (by first | (simp; done) | (simp; omega) | omega) _ | refine Below.setCell ?_ (by first | (simp; done) | (simp; omega) | omega) _ | refine Below_call ?_ (by assumption) | refine Below.trans ?_ (by assumption)))))
        (rw [wpSteps]; go_wp2_with ((go_at_call 72; refine (track_unless _ _ _).mono ?_; rintro _ _ ⟨rfl, rfl⟩)); rw [contF]; refine ⟨?_, ?_⟩; (next => (repeat (with_reducible first | exact Below.refl _ _ | assumption | refine Below.drewN _ ?_ | refine Below.drew ?_ | refine Below_alloc ?_ _ | refine Below.alloc ?_ (by first | (simp; done) | (simp; omega) | omega) _ | refine Below.setCell ?_ (by first | (simp; done) | (simp; omega) | omega) _ | refine Below_call ?_ (by assumption) | refine Below.trans ?_ (by assumption)))))
        (rw [wpSteps]; go_wp2_with (fail); rw [contF]; refine ⟨?_, ?_⟩; (next => (repeat (with_reducible first | exact Below.refl _ _ | assumption | refine Below.drewN _ ?_ | refine Below.drew ?_ | refine Below_alloc ?_ _ | refine Below.alloc ?_ (by first | (simp; done) | (simp; omega) | omega) _ | refine Below.setCell ?_ (by first | (simp; done) | (simp; omega) | omega) _ | refine Below_call ?_ (by assumption) | refine Below.trans ?_ (by assumption)))))
        (rw [wpSteps]; go_wp2_with ((go_at_call 69; refine (HF.out _ _ (intsAt_new _ _ _ _ _ rfl (by simp) (by first | rfl | simp))).mono ?_; rintro _ _ ⟨rfl, rfl⟩)); rw [contF]; refine ⟨?_, ?_⟩; (next => (repeat (with_reducible first | exact Below.refl _ _ | assumption | refine Below.drewN _ ?_ | refine Below.drew ?_ | refine Below_alloc ?_ _ | refine Below.alloc ?_ (by first | (simp; done) | (simp; omega) | omega) _ | refine Below.setCell ?_ (by first | (simp; done) | (simp; omega) | omega) _ | refine Below_call ?_ (by assumption) | refine Below.trans ?_ (by assumption)))))
        (rw [wpSteps])
        (rw [wpMixC])
        (rw [wpMix]; simp only [pick, List.drop_succ_cons, List.drop_zero, List.head?_cons, Option.toList_some, List.cons_append, List.nil_append])
        (repeat (first | (go_big_quiet_step (fail)) | (quiet_step (fail))))
        (try refine wpQuiet_nil ?_)
        (rw [wpMix])
        (refine hQ' _ _ ?_)
        go_wp2_with fail
        go_ret
        exact ⟨rfl, by (repeat (with_reducible first | exact Below.refl _ _ | assumption | refine Below.drewN _ ?_ | refine Below.drew ?_ | refine Below_alloc ?_ _ | refine Below.alloc ?_ (by first | (simp; done) | (simp; omega) | omega) _ | refine Below.setCell ?_ (by first | (simp; done) | (simp; omega) | omega) _ | refine Below_call ?_ (by assumption) | refine Below.trans ?_ (by assumption)))⟩
  · have hall := HR.out.symm
    simp only [Bool.and_eq_true] at hall
    obtain ⟨⟨⟨⟨⟨⟨⟨b1, b2⟩, b3⟩, b4⟩, b5⟩, b6⟩, b7⟩, b8⟩ := hall
    obtain ⟨z1, z2, z3, z4⟩ := HSZ.out rfl
    have k1 : IntKind.i64.wrap (li * tk) = li * tk := IntWalk.i64_in _ (by omega)
    have k2 : IntKind.i64.wrap (li * tk * tk) = li * tk * tk := IntWalk.i64_in _ (by omega)
    rw [← HSL.out] at k2 z3 z4
    generalize hA : li * tk = A at k1 HSL z1 z2
    have k2' : IntKind.i64.wrap (A * tk) = S := by rw [← HSL.out]; exact k2
    have k1' : IntKind.i64.wrap (li * tk) = A := by rw [hA]; exact k1
    clear k1 k2 hA
    have HF : Hid (∀ v w, IntsAt w v [P, T, unl true 2] → Calls Try.prog 69 #[v] w fun e w' => e = .returned (.int .i64 (firstNZ [P, T, unl true 2])) ∧ w = w') := hid (fun v w h => track_first _ v w h)
    generalize firstNZ [P, T, unl true 2] = E1 at HE HF
    by_cases h1 : E1 = 0
    · subst h1
      have HV : Hid (E = firstNZ [unl (decide (lo ≤ hi)) 9, unl (decide (S < lo)) 13]) := hid ((HE.out.2 rfl).2)
      go_enter Try.func14, Try.ntmps14
      go_wp2_with (go_at_call 68; refine (track_within _ _ _ _).mono ?_; rintro _ _ ⟨rfl, rfl⟩)
      refine wp_loop_rounds 5 ?_
      repeat any_goals (rw [rounds_succ]; go_wp2_with (go_at_call 68; refine (track_within _ _ _ _).mono ?_; rintro _ _ ⟨rfl, rfl⟩))
      rw [← hW]
      clear hW
      refine wp_mixC (fun wc => Below (W.heap.size) W wc) 10 [.q [0, 1, 3, 4, 6], .f [2, 5, 7, 8, 9]] [.q [10]] (by kernel_rfl) (by kernel_rfl) ((Below.refl _ _).drew) ?_
      intro Q' hQ'
      (rw [wpMixC]; simp only [pick, List.drop_succ_cons, List.drop_zero, List.head?_cons, Option.toList_some, List.cons_append, List.nil_append])
      (repeat (first | go_big_quiet_skip | (go_big_quiet_want; refine quiet_simple rfl ?_; go_big_quiet_op; go_big_quiet_on) | (go_big_quiet_want; refine quiet_cellB (ty := 3) rfl rfl (by kernel_rfl) (by assumption) (by first | omega | (simp; omega)) ?_; simp only [Act.put, List.setIfInBounds_toArray, List.set_cons_succ, List.set_cons_zero]; go_big_quiet_on) | (go_big_quiet_want; refine quiet_agg3B (ty := 22) rfl rfl (by kernel_rfl) (by assumption) (by assumption) (by assumption) (by first | omega | (simp; omega)) ?_; simp only [Act.put, List.setIfInBounds_toArray, List.set_cons_succ, List.set_cons_zero]; go_big_quiet_on)))
      (try refine wpQuiet_nil ?_)
      (rw [wpMixC]; simp only [pick, List.drop_succ_cons, List.drop_zero, List.head?_cons, Option.toList_some, List.cons_append, List.nil_append])
      (rw [wpSteps]; go_wp2_with ((go_at_call 70; refine (HP.out _).mono ?_; rintro _ w1 ⟨rfl, hb1⟩)); rw [contF]; refine ⟨?_, ?_⟩; (next => (repeat (with_reducible first | exact Below.refl _ _ | assumption | refine Below.drewN _ ?_ | refine Below.drew ?_ | refine Below_alloc ?_ _ | refine Below.alloc ?_ (by first | (simp; done) | (simp; omega) | omega) _ | refine Below.setCell ?_ (by first | (simp; done) | (simp; omega) | omega) _ | refine Below_call ?_ (by assumption) | refine Below.trans ?_ (by assumption)))))
      (rw [wpSteps]; go_wp2_with ((go_at_call 71; refine (HT.out _).mono ?_; rintro _ _ ⟨rfl, rfl⟩)); rw [contF]; refine ⟨?_, ?_⟩; (next => (repeat (with_reducible first | exact Below.refl _ _ | assumption | refine Below.drewN _ ?_ | refine Below.drew ?_ | refine Below_alloc ?_ _ | refine Below.alloc ?_ (by first | (simp; done) | (simp; omega) | omega) _ | refine Below.setCell ?_ (by first | (simp; done) | (simp; omega) | omega) _ | refine Below_call ?_ (by assumption) | refine Below.trans ?_ (by assumption)))))
      (rw [wpSteps]; go_wp2_with ((go_at_call 72; refine (track_unless _ _ _).mono ?_; rintro _ _ ⟨rfl, rfl⟩)); rw [contF]; refine ⟨?_, ?_⟩; (next => (repeat (with_reducible first | exact Below.refl _ _ | assumption | refine Below.drewN _ ?_ | refine Below.drew ?_ | refine Below_alloc ?_ _ | refine Below.alloc ?_ (by first | (simp; done) | (simp; omega) | omega) _ | refine Below.setCell ?_ (by first | (simp; done) | (simp; omega) | omega) _ | refine Below_call ?_ (by assumption) | refine Below.trans ?_ (by assumption)))))
      (rw [wpSteps]; go_wp2_with (fail); rw [contF]; refine ⟨?_, ?_⟩; (next => (repeat (with_reducible first | exact Below.refl _ _ | assumption | refine Below.drewN _ ?_ | refine Below.drew ?_ | refine Below_alloc ?_ _ | refine Below.alloc ?_ (by first | (simp; done) | (simp; omega) | omega) _ | refine Below.setCell ?_ (by first | (simp; done) | (simp; omega) | omega) _ | refine Below_call ?_ (by assumption) | refine Below.trans ?_ (by assumption)))))
      (rw [wpSteps]; go_wp2_with ((go_at_call 69; refine (HF.out _ _ (intsAt_new _ _ _ _ _ rfl (by simp) (by first | rfl | simp))).mono ?_; rintro _ _ ⟨rfl, rfl⟩)); rw [contF]; refine ⟨?_, ?_⟩; (next => (repeat (with_reducible first | exact Below.refl _ _ | assumption | refine Below.drewN _ ?_ | refine Below.drew ?_ | refine Below_alloc ?_ _ | refine Below.alloc ?_ (by first | (simp; done) | (simp; omega) | omega) _ | refine Below.setCell ?_ (by first | (simp; done) | (simp; omega) | omega) _ | refine Below_call ?_ (by assumption) | refine Below.trans ?_ (by assumption)))))
      (rw [wpSteps])
      (rw [wpMixC])
      (rw [wpMix]; simp only [pick, List.drop_succ_cons, List.drop_zero, List.head?_cons, Option.toList_some, List.cons_append, List.nil_append])
      (repeat (first | (go_big_quiet_step (fail)) | (quiet_step (fail))))
      (try refine wpQuiet_nil ?_)
      (rw [wpMix])
      (refine hQ' _ _ ?_)
      go_wp2_with fail
      have hb2 : Below W.heap.size W (w1.alloc (.cells #[.int .i64 P, .int .i64 T, .int .i64 (unl true 2)] 30)) := by (repeat (with_reducible first | exact Below.refl _ _ | assumption | refine Below.drewN _ ?_ | refine Below.drew ?_ | refine Below_alloc ?_ _ | refine Below.alloc ?_ (by first | (simp; done) | (simp; omega) | omega) _ | refine Below.setCell ?_ (by first | (simp; done) | (simp; omega) | omega) _ | refine Below_call ?_ (by assumption) | refine Below.trans ?_ (by assumption)))
      obtain ⟨W3, hW3⟩ : ∃ W3, W3 = w1.alloc (.cells #[.int .i64 P, .int .i64 T, .int .i64 (unl true 2)] 30) := ⟨_, rfl⟩
      rw [← hW3] at hb2 ⊢
      clear hW3 c0 c1 c2 c3
      have y0 := (hb2.block w.heap.size hl0).trans Q0.out
      have c4 : W3.cell? ⟨w.heap.size, 4, none⟩ = some (.int .i64 tk) := by rw [cell_of_row W3 _ 4 _ _ (0, 0) y0]; rfl
      have c5 : W3.cell? ⟨w.heap.size, 5, none⟩ = some (.int .i64 lo) := by rw [cell_of_row W3 _ 5 _ _ (0, 0) y0]; rfl
      have c6 : W3.cell? ⟨w.heap.size, 6, none⟩ = some (.int .i64 hi) := by rw [cell_of_row W3 _ 6 _ _ (0, 0) y0]; rfl
      have c7 : W3.cell? ⟨w.heap.size, 7, none⟩ = some (.int .i64 li) := by rw [cell_of_row W3 _ 7 _ _ (0, 0) y0]; rfl
      have hlx : w.heap.size < W3.heap.size := (Array.getElem?_eq_some_iff.1 y0).1
      clear y0
      refine wp_mixC (fun wc => Below (W3.heap.size) W3 wc) 23 [.q [0, 1, 2, 3, 4, 5, 6, 8, 9, 10, 11, 12, 13, 14, 15, 16, 17, 18, 19], .f [7, 20, 21, 22]] [.q [23]] (by kernel_rfl) (by kernel_rfl) ((Below.refl _ _).drew) ?_
      intro Q' hQ'
      (rw [wpMixC]; simp only [pick, List.drop_succ_cons, List.drop_zero, List.head?_cons, Option.toList_some, List.cons_append, List.nil_append])
      (repeat (first | go_big_quiet_skip | (go_big_quiet_want; refine quiet_simple rfl ?_; go_big_quiet_op; go_big_quiet_on) | (go_big_quiet_want; refine quiet_cellB (ty := 3) rfl rfl (by kernel_rfl) (by assumption) (by first | omega | (simp; omega)) ?_; simp only [Act.put, List.setIfInBounds_toArray, List.set_cons_succ, List.set_cons_zero]; go_big_quiet_on)))
      (try refine wpQuiet_nil ?_)
      (rw [wpMixC]; simp only [pick, List.drop_succ_cons, List.drop_zero, List.head?_cons, Option.toList_some, List.cons_append, List.nil_append])
      (rw [wpSteps]; go_wp2_with ((first | (go_at_call 72; refine (track_unless _ _ _).mono ?_; rintro _ _ ⟨rfl, rfl⟩) | (first | (go_at_call 69; refine (track_first [unl (decide (lo ≤ hi)) 9, unl (decide (S < lo)) 13] _ _ (intsAt_new _ _ _ _ _ rfl (by simp) (by first | rfl | simp))).mono ?_; rintro _ _ ⟨rfl, rfl⟩) | (go_at_call 69; refine (track_first [unl (decide (lo ≤ hi)) 9, unl (decide (S < lo)) 13] _ _ ((intsAt_new _ _ _ _ _ rfl (by simp) (by first | rfl | simp)).below (Below.drew (Below.refl _ _)))).mono ?_; rintro _ _ ⟨rfl, rfl⟩)))); rw [contF]; refine ⟨?_, ?_⟩; (next => (repeat (with_reducible first | exact Below.refl _ _ | assumption | refine Below.drewN _ ?_ | refine Below.drew ?_ | refine Below_alloc ?_ _ | refine Below.alloc ?_ (by first | (simp; done) | (simp; omega) | omega) _ | refine Below.setCell ?_ (by first | (simp; done) | (simp; omega) | omega) _ | refine Below_call ?_ (by assumption) | refine Below.trans ?_ (by assumption)))))
      (rw [wpSteps]; go_wp2_with ((first | (go_at_call 72; refine (track_unless _ _ _).mono ?_; rintro _ _ ⟨rfl, rfl⟩) | (first | (go_at_call 69; refine (track_first [unl (decide (lo ≤ hi)) 9, unl (decide (S < lo)) 13] _ _ (intsAt_new _ _ _ _ _ rfl (by simp) (by first | rfl | simp))).mono ?_; rintro _ _ ⟨rfl, rfl⟩) | (go_at_call 69; refine (track_first [unl (decide (lo ≤ hi)) 9, unl (decide (S < lo)) 13] _ _ ((intsAt_new _ _ _ _ _ rfl (by simp) (by first | rfl | simp)).below (Below.drew (Below.refl _ _)))).mono ?_; rintro _ _ ⟨rfl, rfl⟩)))); rw [contF]; refine ⟨?_, ?_⟩; (next => (repeat (with_reducible first | exact Below.refl _ _ | assumption | refine Below.drewN _ ?_ | refine Below.drew ?_ | refine Below_alloc ?_ _ | refine Below.alloc ?_ (by first | (simp; done) | (simp; omega) | omega) _ | refine Below.setCell ?_ (by first | (simp; done) | (simp; omega) | omega) _ | refine Below_call ?_ (by assumption) | refine Below.trans ?_ (by assumption)))))
      (rw [wpSteps]; go_wp2_with ((first | (go_at_call 69; refine (track_first [unl (decide (lo ≤ hi)) 9, unl (decide (S < lo)) 13] _ _ (intsAt_new _ _ _ _ _ rfl (by simp) (by first | rfl | simp))).mono ?_; rintro _ _ ⟨rfl, rfl⟩) | (go_at_call 69; refine (track_first [unl (decide (lo ≤ hi)) 9, unl (decide (S < lo)) 13] _ _ ((intsAt_new _ _ _ _ _ rfl (by simp) (by first | rfl | simp)).below (Below.drew (Below.refl _ _)))).mono ?_; rintro _ _ ⟨rfl, rfl⟩))); rw [contF]; refine ⟨?_, ?_⟩; (next => (repeat (with_reducible first | exact Below.refl _ _ | assumption | refine Below.drewN _ ?_ | refine Below.drew ?_ | refine Below_alloc ?_ _ | refine Below.alloc ?_ (by first | (simp; done) | (simp; omega) | omega) _ | refine Below.setCell ?_ (by first | (simp; done) | (simp; omega) | omega) _ | refine Below_call ?_ (by assumption) | refine Below.trans ?_ (by assumption)))))
      (rw [wpSteps]; go_wp2_with ((first | (go_at_call 69; refine (track_first [unl (decide (lo ≤ hi)) 9, unl (decide (S < lo)) 13] _ _ (intsAt_new _ _ _ _ _ rfl (by simp) (by first | rfl | simp))).mono ?_; rintro _ _ ⟨rfl, rfl⟩) | (go_at_call 69; refine (track_first [unl (decide (lo ≤ hi)) 9, unl (decide (S < lo)) 13] _ _ ((intsAt_new _ _ _ _ _ rfl (by simp) (by first | rfl | simp)).below (Below.drew (Below.refl _ _)))).mono ?_; rintro _ _ ⟨rfl, rfl⟩))); rw [contF]; refine ⟨?_, ?_⟩; (next => (repeat (with_reducible first | exact Below.refl _ _ | assumption | refine Below.drewN _ ?_ | refine Below.drew ?_ | refine Below_alloc ?_ _ | refine Below.alloc ?_ (by first | (simp; done) | (simp; omega) | omega) _ | refine Below.setCell ?_ (by first | (simp; done) | (simp; omega) | omega) _ | refine Below_call ?_ (by assumption) | refine Below.trans ?_ (by assumption)))))
      (rw [wpSteps])
      (rw [wpMixC])
      (rw [wpMix]; simp only [pick, List.drop_succ_cons, List.drop_zero, List.head?_cons, Option.toList_some, List.cons_append, List.nil_append])
      (repeat (first | (go_big_quiet_step (fail)) | (quiet_step (fail))))
      (try refine wpQuiet_nil ?_)
      (rw [wpMix])
      (refine hQ' _ _ ?_)
      go_wp2_with fail
      go_ret
      exact ⟨ret_int HV.out.symm, by (repeat (with_reducible first | exact Below.refl _ _ | assumption | refine Below.drewN _ ?_ | refine Below.drew ?_ | refine Below_alloc ?_ _ | refine Below.alloc ?_ (by first | (simp; done) | (simp; omega) | omega) _ | refine Below.setCell ?_ (by first | (simp; done) | (simp; omega) | omega) _ | refine Below_call ?_ (by assumption) | refine Below.trans ?_ (by assumption)))⟩
    · have hne : (E1 != 0) = true := by simpa using h1
      have HV : Hid (E = E1) := hid (HE.out.1 h1)
      clear h1
      go_enter Try.func14, Try.ntmps14
      go_wp2_with (go_at_call 68; refine (track_within _ _ _ _).mono ?_; rintro _ _ ⟨rfl, rfl⟩)
      refine wp_loop_rounds 5 ?_
      repeat any_goals (rw [rounds_succ]; go_wp2_with (go_at_call 68; refine (track_within _ _ _ _).mono ?_; rintro _ _ ⟨rfl, rfl⟩))
      rw [← hW]
      clear hW
      refine wp_mixC (fun wc => Below (W.heap.size) W wc) 10 [.q [0, 1, 3, 4, 6], .f [2, 5, 7, 8, 9]] [.q [10]] (by kernel_rfl) (by kernel_rfl) ((Below.refl _ _).drew) ?_
      intro Q' hQ'
      (rw [wpMixC]; simp only [pick, List.drop_succ_cons, List.drop_zero, List.head?_cons, Option.toList_some, List.cons_append, List.nil_append])
      (repeat (first | go_big_quiet_skip | (go_big_quiet_want; refine quiet_simple rfl ?_; go_big_quiet_op; go_big_quiet_on) | (go_big_quiet_want; refine quiet_cellB (ty := 3) rfl rfl (by kernel_rfl) (by assumption) (by first | omega | (simp; omega)) ?_; simp only [Act.put, List.setIfInBounds_toArray, List.set_cons_succ, List.set_cons_zero]; go_big_quiet_on) | (go_big_quiet_want; refine quiet_agg3B (ty := 22) rfl rfl (by kernel_rfl) (by assumption) (by assumption) (by assumption) (by first | omega | (simp; omega)) ?_; simp only [Act.put, List.setIfInBounds_toArray, List.set_cons_succ, List.set_cons_zero]; go_big_quiet_on)))
      (try refine wpQuiet_nil ?_)
      (rw [wpMixC]; simp only [pick, List.drop_succ_cons, List.drop_zero, List.head?_cons, Option.toList_some, List.cons_append, List.nil_append])
      (rw [wpSteps]; go_wp2_with ((go_at_call 70; refine (HP.out _).mono ?_; rintro _ w1 ⟨rfl, hb1⟩)); rw [contF]; refine ⟨?_, ?_⟩; (next => (repeat (with_reducible first | exact Below.refl _ _ | assumption | refine Below.drewN _ ?_ | refine Below.drew ?_ | refine Below_alloc ?_ _ | refine Below.alloc ?_ (by first | (simp; done) | (simp; omega) | omega) _ | refine Below.setCell ?_ (by first | (simp; done) | (simp; omega) | omega) _ | refine Below_call ?_ (by assumption) | refine Below.trans ?_ (by assumption)))))
      (rw [wpSteps]; go_wp2_with ((go_at_call 71; refine (HT.out _).mono ?_; rintro _ _ ⟨rfl, rfl⟩)); rw [contF]; refine ⟨?_, ?_⟩; (next => (repeat (with_reducible first | exact Below.refl _ _ | assumption | refine Below.drewN _ ?_ | refine Below.drew ?_ | refine Below_alloc ?_ _ | refine Below.alloc ?_ (by first | (simp; done) | (simp; omega) | omega) _ | refine Below.setCell ?_ (by first | (simp; done) | (simp; omega) | omega) _ | refine Below_call ?_ (by assumption) | refine Below.trans ?_ (by assumption)))))
      (rw [wpSteps]; go_wp2_with ((go_at_call 72; refine (track_unless _ _ _).mono ?_; rintro _ _ ⟨rfl, rfl⟩)); rw [contF]; refine ⟨?_, ?_⟩; (next => (repeat (with_reducible first | exact Below.refl _ _ | assumption | refine Below.drewN _ ?_ | refine Below.drew ?_ | refine Below_alloc ?_ _ | refine Below.alloc ?_ (by first | (simp; done) | (simp; omega) | omega) _ | refine Below.setCell ?_ (by first | (simp; done) | (simp; omega) | omega) _ | refine Below_call ?_ (by assumption) | refine Below.trans ?_ (by assumption)))))
      (rw [wpSteps]; go_wp2_with (fail); rw [contF]; refine ⟨?_, ?_⟩; (next => (repeat (with_reducible first | exact Below.refl _ _ | assumption | refine Below.drewN _ ?_ | refine Below.drew ?_ | refine Below_alloc ?_ _ | refine Below.alloc ?_ (by first | (simp; done) | (simp; omega) | omega) _ | refine Below.setCell ?_ (by first | (simp; done) | (simp; omega) | omega) _ | refine Below_call ?_ (by assumption) | refine Below.trans ?_ (by assumption)))))
      (rw [wpSteps]; go_wp2_with ((go_at_call 69; refine (HF.out _ _ (intsAt_new _ _ _ _ _ rfl (by simp) (by first | rfl | simp))).mono ?_; rintro _ _ ⟨rfl, rfl⟩)); rw [contF]; refine ⟨?_, ?_⟩; (next => (repeat (with_reducible first | exact Below.refl _ _ | assumption | refine Below.drewN _ ?_ | refine Below.drew ?_ | refine Below_alloc ?_ _ | refine Below.alloc ?_ (by first | (simp; done) | (simp; omega) | omega) _ | refine Below.setCell ?_ (by first | (simp; done) | (simp; omega) | omega) _ | refine Below_call ?_ (by assumption) | refine Below.trans ?_ (by assumption)))))
      (rw [wpSteps])
      (rw [wpMixC])
      (rw [wpMix]; simp only [pick, List.drop_succ_cons, List.drop_zero, List.head?_cons, Option.toList_some, List.cons_append, List.nil_append])
      (repeat (first | (go_big_quiet_step (fail)) | (quiet_step (fail))))
      (try refine wpQuiet_nil ?_)
      (rw [wpMix])
      (refine hQ' _ _ ?_)
      go_wp2_with fail
      go_ret
      exact ⟨ret_int HV.out.symm, by (repeat (with_reducible first | exact Below.refl _ _ | assumption | refine Below.drewN _ ?_ | refine Below.drew ?_ | refine Below_alloc ?_ _ | refine Below.alloc ?_ (by first | (simp; done) | (simp; omega) | omega) _ | refine Below.setCell ?_ (by first | (simp; done) | (simp; omega) | omega) _ | refine Below_call ?_ (by assumption) | refine Below.trans ?_ (by assumption)))⟩
end Go.Proofs.Ytlmdmpjfehpjeaa

/- Tracks: models and steps opened by the program. -/
set_option linter.unusedVariables false
set_option linter.unusedSimpArgs false
namespace Go.Proofs.Ytlmdmpjfehpjeaa
open Go.RowKit

set_option maxRecDepth 100000 in
set_option maxHeartbeats 4000000 in
theorem track_open (m : TMod) (w : World) : Calls Try.prog 119 #[m.v] w fun e w' => e = .returned (.tuple #[m.v, .int .i64 m.err]) ∧ Below w.heap.size w w' := by
  have HC : Hid (∀ W, Calls Try.prog 14 #[m.v] W fun e w' => e = .returned (.int .i64 m.err) ∧ Below W.heap.size W w') := hid (fun W => track_CheckModel m W)
  generalize m.err = E at HC ⊢
  obtain ⟨px, py, pz, tm, tk, lo, hi, li, ea, la, no, mi⟩ := m
  unfold TMod.v at *
  simp only at *
  obtain ⟨W, hW⟩ : ∃ W, W = (w.alloc (.cells #[.int .i64 px, .int .i64 py, .int .i64 pz, .int .i64 tm, .int .i64 tk, .int .i64 lo, .int .i64 hi, .int .i64 li, .int .i64 ea, .int .i64 la, .int .i64 no, .int .i64 mi] 26)).alloc (.cells #[.int .i64 0, .int .i64 0, .int .i64 0, .int .i64 0, .int .i64 0, .int .i64 0, .int .i64 0, .int .i64 0, .int .i64 0, .int .i64 0, .int .i64 0, .int .i64 0] 134) := ⟨_, rfl⟩
  have hbW : Below w.heap.size w W := by rw [hW]; (repeat (with_reducible first | exact Below.refl _ _ | assumption | refine Below.drewN _ ?_ | refine Below.drew ?_ | refine Below_alloc ?_ _ | refine Below.alloc ?_ (by first | (simp; done) | (simp; omega) | omega) _ | refine Below.setCell ?_ (by first | (simp; done) | (simp; omega) | omega) _ | refine Below_call ?_ (by assumption) | refine Below.trans ?_ (by assumption)))
  obtain ⟨q0, q1, hl0, hl1⟩ := al2 w _ _ _ _ W hW
  have c0 : W.cell? ⟨w.heap.size, 0, none⟩ = some (.int .i64 px) := by rw [cell_of_row W _ 0 _ _ (0, 0) q0]; rfl
  have c1 : W.cell? ⟨w.heap.size, 1, none⟩ = some (.int .i64 py) := by rw [cell_of_row W _ 1 _ _ (0, 0) q0]; rfl
  have c2 : W.cell? ⟨w.heap.size, 2, none⟩ = some (.int .i64 pz) := by rw [cell_of_row W _ 2 _ _ (0, 0) q0]; rfl
  have c3 : W.cell? ⟨w.heap.size, 3, none⟩ = some (.int .i64 tm) := by rw [cell_of_row W _ 3 _ _ (0, 0) q0]; rfl
  have c4 : W.cell? ⟨w.heap.size, 4, none⟩ = some (.int .i64 tk) := by rw [cell_of_row W _ 4 _ _ (0, 0) q0]; rfl
  have c5 : W.cell? ⟨w.heap.size, 5, none⟩ = some (.int .i64 lo) := by rw [cell_of_row W _ 5 _ _ (0, 0) q0]; rfl
  have c6 : W.cell? ⟨w.heap.size, 6, none⟩ = some (.int .i64 hi) := by rw [cell_of_row W _ 6 _ _ (0, 0) q0]; rfl
  have c7 : W.cell? ⟨w.heap.size, 7, none⟩ = some (.int .i64 li) := by rw [cell_of_row W _ 7 _ _ (0, 0) q0]; rfl
  have c8 : W.cell? ⟨w.heap.size, 8, none⟩ = some (.int .i64 ea) := by rw [cell_of_row W _ 8 _ _ (0, 0) q0]; rfl
  have c9 : W.cell? ⟨w.heap.size, 9, none⟩ = some (.int .i64 la) := by rw [cell_of_row W _ 9 _ _ (0, 0) q0]; rfl
  have c10 : W.cell? ⟨w.heap.size, 10, none⟩ = some (.int .i64 no) := by rw [cell_of_row W _ 10 _ _ (0, 0) q0]; rfl
  have c11 : W.cell? ⟨w.heap.size, 11, none⟩ = some (.int .i64 mi) := by rw [cell_of_row W _ 11 _ _ (0, 0) q0]; rfl
  have Q1 := hid q1
  clear q0 q1
  go_enter Try.func119, Try.ntmps119
  go_wp2_with fail
  rw [← hW]
  clear hW
  refine wp_mixC (fun wc => Below ((w.heap.size + 1)) W wc) 5 [.q [0, 1, 2], .f [3, 4]] [.q [5]] (by kernel_rfl) (by kernel_rfl) ((Below.refl _ _).drew) ?_
  intro Q' hQ'
  (rw [wpMixC]; simp only [pick, List.drop_succ_cons, List.drop_zero, List.head?_cons, Option.toList_some, List.cons_append, List.nil_append])
  (repeat (first | go_big_quiet_skip | (go_big_quiet_want; refine quiet_simple rfl ?_; go_big_quiet_op; go_big_quiet_on) | (go_big_quiet_want; refine quiet_agg12B (ty := 26) rfl rfl (by kernel_rfl) (by assumption) (by assumption) (by assumption) (by assumption) (by assumption) (by assumption) (by assumption) (by assumption) (by assumption) (by assumption) (by assumption) (by assumption) (by first | omega | (simp; omega)) ?_; simp only [Act.put, List.setIfInBounds_toArray, List.set_cons_succ, List.set_cons_zero]; go_big_quiet_on)))
  (try refine wpQuiet_nil ?_)
  (rw [wpMixC]; simp only [pick, List.drop_succ_cons, List.drop_zero, List.head?_cons, Option.toList_some, List.cons_append, List.nil_append])
  (rw [wpSteps]; go_wp2_with ((go_at_call 14; ((with_reducible refine (HC.out _).mono ?_); rintro _ w1 ⟨rfl, hb1⟩; have hbm : Below (w.heap.size + 1) W w1 := ((Below.refl (w.heap.size + 1) W).drew).trans (hb1.mono (by show w.heap.size + 1 ≤ W.heap.size; omega)); have hbf : Below w.heap.size w w1 := hbW.trans (hbm.mono (by omega)); have q1 := (hb1.block (w.heap.size + 1) hl1).trans Q1.out; have g0 : w1.cell? ⟨w.heap.size + 1, 0, none⟩ = some (.int .i64 0) := (by rw [cell_of_row w1 _ 0 _ _ (0, 0) q1]; rfl); have f0 := frozen_of_row w1 (w.heap.size + 1) 0 _ _ q1; have g1 : w1.cell? ⟨w.heap.size + 1, 1, none⟩ = some (.int .i64 0) := (by rw [cell_of_row w1 _ 1 _ _ (0, 0) q1]; rfl); have f1 := frozen_of_row w1 (w.heap.size + 1) 1 _ _ q1; have g2 : w1.cell? ⟨w.heap.size + 1, 2, none⟩ = some (.int .i64 0) := (by rw [cell_of_row w1 _ 2 _ _ (0, 0) q1]; rfl); have f2 := frozen_of_row w1 (w.heap.size + 1) 2 _ _ q1; have g3 : w1.cell? ⟨w.heap.size + 1, 3, none⟩ = some (.int .i64 0) := (by rw [cell_of_row w1 _ 3 _ _ (0, 0) q1]; rfl); have f3 := frozen_of_row w1 (w.heap.size + 1) 3 _ _ q1; have g4 : w1.cell? ⟨w.heap.size + 1, 4, none⟩ = some (.int .i64 0) := (by rw [cell_of_row w1 _ 4 _ _ (0, 0) q1]; rfl); have f4 := frozen_of_row w1 (w.heap.size + 1) 4 _ _ q1; have g5 : w1.cell? ⟨w.heap.size + 1, 5, none⟩ = some (.int .i64 0) := (by rw [cell_of_row w1 _ 5 _ _ (0, 0) q1]; rfl); have f5 := frozen_of_row w1 (w.heap.size + 1) 5 _ _ q1; have g6 : w1.cell? ⟨w.heap.size + 1, 6, none⟩ = some (.int .i64 0) := (by rw [cell_of_row w1 _ 6 _ _ (0, 0) q1]; rfl); have f6 := frozen_of_row w1 (w.heap.size + 1) 6 _ _ q1; have g7 : w1.cell? ⟨w.heap.size + 1, 7, none⟩ = some (.int .i64 0) := (by rw [cell_of_row w1 _ 7 _ _ (0, 0) q1]; rfl); have f7 := frozen_of_row w1 (w.heap.size + 1) 7 _ _ q1; have g8 : w1.cell? ⟨w.heap.size + 1, 8, none⟩ = some (.int .i64 0) := (by rw [cell_of_row w1 _ 8 _ _ (0, 0) q1]; rfl); have f8 := frozen_of_row w1 (w.heap.size + 1) 8 _ _ q1; have g9 : w1.cell? ⟨w.heap.size + 1, 9, none⟩ = some (.int .i64 0) := (by rw [cell_of_row w1 _ 9 _ _ (0, 0) q1]; rfl); have f9 := frozen_of_row w1 (w.heap.size + 1) 9 _ _ q1; have g10 : w1.cell? ⟨w.heap.size + 1, 10, none⟩ = some (.int .i64 0) := (by rw [cell_of_row w1 _ 10 _ _ (0, 0) q1]; rfl); have f10 := frozen_of_row w1 (w.heap.size + 1) 10 _ _ q1; have g11 : w1.cell? ⟨w.heap.size + 1, 11, none⟩ = some (.int .i64 0) := (by rw [cell_of_row w1 _ 11 _ _ (0, 0) q1]; rfl); have f11 := frozen_of_row w1 (w.heap.size + 1) 11 _ _ q1; have hlx : w.heap.size + 1 < w1.heap.size := (Array.getElem?_eq_some_iff.1 q1).1; clear q1))); rw [contF]; refine ⟨?_, ?_⟩; (next => (repeat (with_reducible first | exact Below.refl _ _ | assumption | refine Below.drewN _ ?_ | refine Below.drew ?_ | refine Below_alloc ?_ _ | refine Below.alloc ?_ (by first | (simp; done) | (simp; omega) | omega) _ | refine Below.setCell ?_ (by first | (simp; done) | (simp; omega) | omega) _ | refine Below_call ?_ (by assumption) | refine Below.trans ?_ (by assumption)))))
  (rw [wpSteps]; go_wp2_with (fail); rw [contF]; refine ⟨?_, ?_⟩; (next => (repeat (with_reducible first | exact Below.refl _ _ | assumption | refine Below.drewN _ ?_ | refine Below.drew ?_ | refine Below_alloc ?_ _ | refine Below.alloc ?_ (by first | (simp; done) | (simp; omega) | omega) _ | refine Below.setCell ?_ (by first | (simp; done) | (simp; omega) | omega) _ | refine Below_call ?_ (by assumption) | refine Below.trans ?_ (by assumption)))))
  (rw [wpSteps])
  (rw [wpMixC])
  (rw [wpMix]; simp only [pick, List.drop_succ_cons, List.drop_zero, List.head?_cons, Option.toList_some, List.cons_append, List.nil_append])
  (repeat (first | (go_big_quiet_step (fail)) | (quiet_step (fail))))
  (try refine wpQuiet_nil ?_)
  (rw [wpMix])
  (refine hQ' _ _ ?_)
  go_wp2_with fail
  ((try simp only [Exit.inBlock, Exit.then]); refine bodyPost_ret (v := .tuple #[.agg #[.int .i64 px, .int .i64 py, .int .i64 pz, .int .i64 tm, .int .i64 tk, .int .i64 lo, .int .i64 hi, .int .i64 li, .int .i64 ea, .int .i64 la, .int .i64 no, .int .i64 mi], .int .i64 E]) ?_ rfl ?_; (next => simp [results, Try.results119, go_sem, hlx, g0, g1, g2, g3, g4, g5, g6, g7, g8, g9, g10, g11]); refine ⟨?_, ?_⟩; (next => rfl); (next => (repeat (with_reducible first | exact Below.refl _ _ | assumption | refine Below.drewN _ ?_ | refine Below.drew ?_ | refine Below_alloc ?_ _ | refine Below.alloc ?_ (by first | (simp; done) | (simp; omega) | omega) _ | refine Below.setCell ?_ (by first | (simp; done) | (simp; omega) | omega) _ | refine Below_call ?_ (by assumption) | refine Below.trans ?_ (by assumption)))))
end Go.Proofs.Ytlmdmpjfehpjeaa
