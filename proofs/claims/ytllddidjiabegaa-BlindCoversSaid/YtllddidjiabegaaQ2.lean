/- Contract of the program's key. -/
import Derived.Test.YtllddidjiabegaaQ
set_option linter.unusedVariables false
set_option linter.unusedSimpArgs false
namespace Go.Proofs.Ytllddidjiabegaa
open Go.RowKit

def kofN (p : List Int) : Int := if permErr p = 0 then (keyN p : Int) else 0

set_option maxRecDepth 100000 in
set_option maxHeartbeats 1000000 in
theorem blind_KeyOf (p : List Int) (v : Value) (w : World) (h : IntsAt w v p) :
    Calls Try.prog 61 #[v] w fun e w' => e = .returned (.tuple #[.int .i64 (kofN p), .int .i64 (permErr p)]) ∧ Below w.heap.size w w' := by
  obtain ⟨ao, cap, rfl, h1, h2, h3⟩ := h.opn
  have H2 := hid h2
  unfold maxLen at h2
  by_cases hbig : 12 < p.length
  · have e : permErr p = 8 := by simp only [permErr]; rw [if_pos hbig]
    go_enter Try.func61, Try.ntmps61
    go_wp2_with fail
    go_ret2
    exact ⟨by simp [kofN, e], Below.refl _ _⟩
  · have h12 : p.length ≤ 12 := by omega
    go_enter Try.func61, Try.ntmps61
    go_wp2_with fail
    go_loopw [19] (fun i wr => ∃ k : Nat, k ≤ p.length ∧ i = .int .i64 k ∧ Hid (∀ j, j < k → permAt p j = 0) ∧ Below w.heap.size w wr) (fun i _ => p.length - (intOf i).toNat)
    case atStart => exact ⟨0, Nat.zero_le _, rfl, hid (fun j hj => by omega), Below.refl _ _⟩
    case round =>
      obtain ⟨k, hk, rfl, HZ, hbel⟩ := hrel
      have hzw := hbel.size
      by_cases hlt : k < p.length
      · obtain ⟨b, off, rfl, hb, hc⟩ := h3 k hlt
        have hck := (hbel.cell (p := ⟨b, off + k, none⟩) hb).trans (hc k hlt)
        have hT := (intsAt_take hc hb hk h1 H2.out).below hbel
        obtain ⟨y, hy⟩ : ∃ y, y = nth p k := ⟨_, rfl⟩
        obtain ⟨P, hP⟩ : ∃ P, P = p.take k := ⟨_, rfl⟩
        rw [← hy] at hck
        rw [← hP] at hT
        have HY := hid hy
        have HP := hid hP
        have HPA : Hid (permAt p k = firstNZ [unl (inB y 0 ((p.length : Int) - 1)) 6, unl (!hasI P y) 23]) := hid (by
          show (if inB (nth p k) 0 ((p.length : Int) - 1) = true then (if hasI (p.take k) (nth p k) = true then 23 else 0) else 6) = _
          rw [← hy, ← hP]
          cases inB y 0 ((p.length : Int) - 1) <;> cases hasI P y <;> simp [unl, firstNZ])
        have hbw : b < wr.heap.size := by omega
        clear hc h3 hy hP h
        cases he : (firstNZ [unl (inB y 0 ((p.length : Int) - 1)) 6, unl (!hasI P y) 23] != 0)
        · have HE := hid he
          go_wp2_with fail
          ((refine wp_three [] [0, 1, 2, 3, 4, 5, 6, 7, 8, 9, 10, 11, 12] 13 (by kernel_rfl) (by kernel_rfl) ?_); (intro _ _); (simp only [pick, List.drop_succ_cons, List.drop_zero, List.head?_cons, Option.toList_some, List.cons_append, List.nil_append]); (repeat (first | (go_big_quiet_step (first|(go_at_call 77; exact quiet_same (blind_within _ _ _ _) ⟨_, rfl⟩)|(go_at_call 78; exact quiet_same (blind_unless _ _ _) ⟨_, rfl⟩)|(go_at_call 114; exact quiet_same (slices_Contains P _ _ _ (hT.drewN _)) ⟨_, rfl⟩))) | (quiet_step (first|(go_at_call 77; exact quiet_same (blind_within _ _ _ _) ⟨_, rfl⟩)|(go_at_call 78; exact quiet_same (blind_unless _ _ _) ⟨_, rfl⟩)|(go_at_call 114; exact quiet_same (slices_Contains P _ _ _ (hT.drewN _)) ⟨_, rfl⟩))))); (try refine wpQuiet_nil ?_); (repeat (first | (go_big_quiet_step (first|(go_at_call 77; exact quiet_same (blind_within _ _ _ _) ⟨_, rfl⟩)|(go_at_call 78; exact quiet_same (blind_unless _ _ _) ⟨_, rfl⟩)|(go_at_call 114; exact quiet_same (slices_Contains P _ _ _ (hT.drewN _)) ⟨_, rfl⟩))) | (quiet_step (first|(go_at_call 77; exact quiet_same (blind_within _ _ _ _) ⟨_, rfl⟩)|(go_at_call 78; exact quiet_same (blind_unless _ _ _) ⟨_, rfl⟩)|(go_at_call 114; exact quiet_same (slices_Contains P _ _ _ (hT.drewN _)) ⟨_, rfl⟩))))); (try refine wpQuiet_nil ?_); (intro nq))
          go_wp2_with (go_at_call 75; refine (blind_first [unl (inB y 0 ((p.length : Int) - 1)) 6, unl (!hasI P y) 23] _ _ (intsAt_new _ _ _ _ _ rfl (by simp) (by simp))).mono ?_; rintro _ _ ⟨rfl, rfl⟩)
          go_roundw
          case rel =>
            refine ⟨k + 1, by omega, by go_num, hid (fun j hj => ?_), by (repeat (with_reducible first | exact Below.refl _ _ | assumption | refine Below.drewN _ ?_ | refine Below.drew ?_ | refine Below_alloc ?_ _ | refine Below.alloc ?_ (by first | (simp; done) | (simp; omega) | omega) _ | refine Below.setCell ?_ (by first | (simp; done) | (simp; omega) | omega) _ | refine Below_call ?_ (by assumption) | refine Below.trans ?_ (by assumption)))⟩
            rcases Nat.lt_or_ge j k with h | h
            · exact HZ.out j h
            · rw [show j = k from by omega, HPA.out]; simpa using HE.out
          case measure => simp [intOf]; omega
        · have HE := hid he
          go_wp2_with fail
          ((refine wp_three [] [0, 1, 2, 3, 4, 5, 6, 7, 8, 9, 10, 11, 12] 13 (by kernel_rfl) (by kernel_rfl) ?_); (intro _ _); (simp only [pick, List.drop_succ_cons, List.drop_zero, List.head?_cons, Option.toList_some, List.cons_append, List.nil_append]); (repeat (first | (go_big_quiet_step (first|(go_at_call 77; exact quiet_same (blind_within _ _ _ _) ⟨_, rfl⟩)|(go_at_call 78; exact quiet_same (blind_unless _ _ _) ⟨_, rfl⟩)|(go_at_call 114; exact quiet_same (slices_Contains P _ _ _ (hT.drewN _)) ⟨_, rfl⟩))) | (quiet_step (first|(go_at_call 77; exact quiet_same (blind_within _ _ _ _) ⟨_, rfl⟩)|(go_at_call 78; exact quiet_same (blind_unless _ _ _) ⟨_, rfl⟩)|(go_at_call 114; exact quiet_same (slices_Contains P _ _ _ (hT.drewN _)) ⟨_, rfl⟩))))); (try refine wpQuiet_nil ?_); (repeat (first | (go_big_quiet_step (first|(go_at_call 77; exact quiet_same (blind_within _ _ _ _) ⟨_, rfl⟩)|(go_at_call 78; exact quiet_same (blind_unless _ _ _) ⟨_, rfl⟩)|(go_at_call 114; exact quiet_same (slices_Contains P _ _ _ (hT.drewN _)) ⟨_, rfl⟩))) | (quiet_step (first|(go_at_call 77; exact quiet_same (blind_within _ _ _ _) ⟨_, rfl⟩)|(go_at_call 78; exact quiet_same (blind_unless _ _ _) ⟨_, rfl⟩)|(go_at_call 114; exact quiet_same (slices_Contains P _ _ _ (hT.drewN _)) ⟨_, rfl⟩))))); (try refine wpQuiet_nil ?_); (intro nq))
          go_wp2_with (go_at_call 75; refine (blind_first [unl (inB y 0 ((p.length : Int) - 1)) 6, unl (!hasI P y) 23] _ _ (intsAt_new _ _ _ _ _ rfl (by simp) (by simp))).mono ?_; rintro _ _ ⟨rfl, rfl⟩)
          go_ret2
          have hne : permAt p k ≠ 0 := by rw [HPA.out]; simpa using HE.out
          have e : permErr p = permAt p k := by simp only [permErr]; rw [if_neg hbig, scan_at HZ.out hlt hne]
          exact ⟨by simp [kofN, e, hne]; exact HPA.out.symm, by (repeat (with_reducible first | exact Below.refl _ _ | assumption | refine Below.drewN _ ?_ | refine Below.drew ?_ | refine Below_alloc ?_ _ | refine Below.alloc ?_ (by first | (simp; done) | (simp; omega) | omega) _ | refine Below.setCell ?_ (by first | (simp; done) | (simp; omega) | omega) _ | refine Below_call ?_ (by assumption) | refine Below.trans ?_ (by assumption)))⟩
      · have he : permErr p = 0 := by simp only [permErr]; rw [if_neg hbig, scan_end fun j hj => HZ.out j (by omega)]
        have HERR := hid he
        have hf := fac_le12 h12
        have hK := keyN_lt p
        clear he HZ
        go_wp2_with fail
        obtain ⟨wo, rfl⟩ : ∃ wo : World, wo = wr := ⟨_, rfl⟩
        go_loop [7, 8, 45] (fun o u i => ∃ k : Nat, k ≤ p.length ∧ o = .int .i64 (kUp p k : Nat) ∧ u = .int .i64 (wgt p.length k : Nat) ∧ i = .int .i64 k) (fun _ _ i => p.length - (intOf i).toNat)
        case atStart => exact ⟨0, Nat.zero_le _, rfl, rfl, rfl⟩
        case round =>
          obtain ⟨k, hk, rfl, rfl, rfl⟩ := hrel
          by_cases hlt : k < p.length
          · obtain ⟨b, off, rfl, hb, hc⟩ := h3 k hlt
            have hck := (hbel.cell (p := ⟨b, off + k, none⟩) hb).trans (hc k hlt)
            obtain ⟨x, hx⟩ : ∃ x, x = nth p k := ⟨_, rfl⟩
            rw [← hx] at hck
            obtain ⟨l, hl⟩ : ∃ l, l = p.drop (k + 1) := ⟨_, rfl⟩
            have hll : l.length + (k + 1) = p.length := by rw [hl]; simp; omega
            have HLC : Hid (∀ j, j < l.length → wo.cell? ⟨b, off + (k + 1) + j, none⟩ = some (.int .i64 (nth l j))) := hid (fun j hj => by rw [hl, nth_dropped, Nat.add_assoc]; exact (hbel.cell (p := ⟨b, _, none⟩) hb).trans (hc _ (by omega)))
            have d1 := kUp_le (p := p) (k := k + 1) (by omega)
            have d2 := wgt_le (n := p.length) (k := k) (by omega)
            have d3 := wgt_le (n := p.length) (k := k + 1) (by omega)
            have HK1 : Hid (kUp p (k + 1) = kUp p k + cntL x l * wgt p.length k) := hid (by rw [hx, hl]; rfl)
            have HW1 : Hid (wgt p.length (k + 1) = wgt p.length k * (p.length - k)) := hid rfl
            have HX := hid hx
            have hp1 : (k : Int) + 1 ≤ (p.length : Int) := by omega
            have hp2 : (p.length : Int) ≤ (cap : Int) := by omega
            have hlen : p.length - (k + 1) = l.length := by omega
            clear hc h3 hx hl h
            rcases Nat.lt_or_ge (k + 1) cap with hcase | hcase
            · go_wp2_with fail
              go_loop [11, 55] (fun o i => ∃ j : Nat, j ≤ l.length ∧ o = .int .i64 (cntL x (l.take j) : Nat) ∧ i = .int .i64 j) (fun _ i => l.length - (intOf i).toNat)
              case atStart => exact ⟨0, Nat.zero_le _, rfl, rfl⟩
              case round =>
                obtain ⟨j, hj, rfl, rfl⟩ := hrel
                by_cases hl2 : j < l.length
                · have hcj := HLC.out j hl2
                  have HCT := hid (cntL_take (x := x) hl2)
                  obtain ⟨y, hy⟩ : ∃ y, y = nth l j := ⟨_, rfl⟩
                  rw [← hy] at hcj HCT
                  have d4 : cntL x (l.take j) ≤ 12 := Nat.le_trans List.countP_le_length (by simp; omega)
                  clear hy
                  by_cases hxy : y < x
                  · go_wp2_with fail
                    go_round
                    case rel => exact ⟨j + 1, by omega, by rw [HCT.out, if_pos hxy]; go_num, by go_num⟩
                    case measure => simp [intOf]; omega
                  · go_wp2_with fail
                    go_round
                    case rel => exact ⟨j + 1, by omega, by rw [HCT.out, if_neg (by omega)]; go_num, by go_num⟩
                    case measure => simp [intOf]; omega
                · have hjl : j = l.length := by omega
                  subst hjl
                  rw [List.take_length]
                  have d4 : cntL x l ≤ 12 := Nat.le_trans List.countP_le_length (by omega)
                  obtain ⟨C, hC⟩ : ∃ C, C = cntL x l := ⟨_, rfl⟩
                  obtain ⟨W, hW⟩ : ∃ W, W = wgt p.length k := ⟨_, rfl⟩
                  rw [HW1.out] at d3
                  rw [HK1.out] at d1
                  rw [← hC, ← hW] at d1
                  rw [← hC] at d4 ⊢
                  rw [← hW] at d2 d3 ⊢
                  have hm1 : C * W ≤ 479001600 := by omega
                  have hm2 : W * (p.length - k) ≤ 479001600 := by omega
                  have hm1' : (C : Int) * (W : Int) ≤ 479001600 := by rw [← Int.natCast_mul]; omega
                  have hm2' : (W : Int) * ((p.length : Int) - (k : Int)) ≤ 479001600 := by rw [← Int.ofNat_sub (by omega), ← Int.natCast_mul]; omega
                  have hm3' : 0 ≤ (C : Int) * (W : Int) := Int.mul_nonneg (by omega) (by omega)
                  have hm4' : 0 ≤ (W : Int) * ((p.length : Int) - (k : Int)) := Int.mul_nonneg (by omega) (by omega)
                  have hm5 : (kUp p k : Int) ≤ 479001600 := by omega
                  have HC := hid hC
                  have HW := hid hW
                  clear hC hW hm1 hm2 d1
                  go_wp2_with fail
                  go_round
                  case rel =>
                    refine ⟨k + 1, by omega, ?_, ?_, by go_num⟩
                    · rw [HK1.out, ← HC.out, ← HW.out]; push_cast; rfl
                    · rw [HW1.out, ← HW.out, Int.natCast_mul, Int.ofNat_sub (by omega)]
                  case measure => simp [intOf]; omega
            · have hck0 : cap = k + 1 := by omega
              subst hck0
              have hl0 : l = [] := List.eq_nil_of_length_eq_zero (by omega)
              have HL0 := hid hl0
              have hlz : p.length - (k + 1) = 0 := by omega
              clear hl0 hlen
              go_wp2_with fail
              go_loop [11, 55] (fun o i => o = .int .i64 (cntL x l : Nat) ∧ i = .int .i64 0) (fun _ i => 0)
              case atStart => exact ⟨by rw [HL0.out]; rfl, rfl⟩
              case round =>
                obtain ⟨rfl, rfl⟩ := hrel
                have d4 : cntL x l ≤ 12 := Nat.le_trans List.countP_le_length (by omega)
                obtain ⟨C, hC⟩ : ∃ C, C = cntL x l := ⟨_, rfl⟩
                obtain ⟨W, hW⟩ : ∃ W, W = wgt p.length k := ⟨_, rfl⟩
                rw [HW1.out] at d3
                rw [HK1.out] at d1
                rw [← hC, ← hW] at d1
                rw [← hC] at d4 ⊢
                rw [← hW] at d2 d3 ⊢
                have hm1 : C * W ≤ 479001600 := by omega
                have hm2 : W * (p.length - k) ≤ 479001600 := by omega
                have hm1' : (C : Int) * (W : Int) ≤ 479001600 := by rw [← Int.natCast_mul]; omega
                have hm2' : (W : Int) * ((p.length : Int) - (k : Int)) ≤ 479001600 := by rw [← Int.ofNat_sub (by omega), ← Int.natCast_mul]; omega
                have hm3' : 0 ≤ (C : Int) * (W : Int) := Int.mul_nonneg (by omega) (by omega)
                have hm4' : 0 ≤ (W : Int) * ((p.length : Int) - (k : Int)) := Int.mul_nonneg (by omega) (by omega)
                have hm5 : (kUp p k : Int) ≤ 479001600 := by omega
                have HC := hid hC
                have HW := hid hW
                clear hC hW hm1 hm2 d1
                go_wp2_with fail
                go_round
                case rel =>
                  refine ⟨k + 1, by omega, ?_, ?_, by go_num⟩
                  · rw [HK1.out, ← HC.out, ← HW.out]; push_cast; rfl
                  · rw [HW1.out, ← HW.out, Int.natCast_mul, Int.ofNat_sub (by omega)]
                case measure => simp [intOf]; omega
          · have hkl : k = p.length := by omega
            go_wp2_with fail
            go_ret2
            exact ⟨by simp [kofN, HERR.out, kUp_end], hbel⟩

end Go.Proofs.Ytllddidjiabegaa
