/- Contracts of permutations and keys. -/
import Derived.Test.YtllddidjiabegaaPM
set_option linter.unusedVariables false
set_option linter.unusedSimpArgs false
namespace Go.Proofs.Ytllddidjiabegaa
open Go.RowKit

/-- the call returns a slice that reads as a list, and an error, and leaves old memory alone. -/
def RetIntsE (w : World) (l : List Int) (n : Int) (e : Ending) (w' : World) : Prop := ∃ v, e = .returned (.tuple #[v, .int .i64 n]) ∧ IntsAt w' v l ∧ Below w.heap.size w w'

def pofErr (c k : Int) : Int := if inB c 0 12 = true then keyErrS c k else 2
def pofList (c k : Int) : List Int := if pofErr c k = 0 then perm c.toNat k.toNat else []

theorem IntsAt.drewN {w : World} {v : Value} {l : List Int} (k : Nat) (h : IntsAt w v l) : IntsAt (w.drewN k) v l := h.below (Below.drewN k (Below.refl _ _))

set_option maxRecDepth 100000 in
theorem blind_PermutationOf (c k : Int) (w : World) :
    Calls Try.prog 60 #[.int .i64 c, .int .i64 k] w (RetIntsE w (pofList c k) (pofErr c k)) := by
  cases hb : inB c 0 12
  · have HB := hid hb
    go_enter Try.func60, Try.ntmps60
    go_wp2_with (go_at_call 77; refine (blind_within _ _ _ _).mono ?_; rintro _ _ ⟨rfl, rfl⟩)
    go_ret2
    have h1 : pofErr c k = 2 := by simp [pofErr, HB.out]
    rw [h1, show pofList c k = [] from by simp [pofList, h1]]
    exact ⟨_, rfl, IntsAt.nil _, Below.refl _ _⟩
  · have hc := inB_true.1 hb
    have HB := hid hb
    obtain ⟨n, rfl⟩ : ∃ n : Nat, c = n := ⟨c.toNat, by omega⟩
    have hl := facI_le (n := (n : Int)) (by omega)
    cases hk : inB k 0 (facI n - 1)
    · have HK := hid hk
      have h1 : keyErrS n k = 2 := by simp [keyErrS, hk, unl]
      have h2 := blind_keyErr (n : Int) k w (by omega)
      rw [h1] at h2
      go_enter Try.func60, Try.ntmps60
      go_wp2_with (first | (go_at_call 77; refine (blind_within _ _ _ _).mono ?_; rintro _ _ ⟨rfl, rfl⟩) | (go_at_call 112; refine (h2).mono ?_; rintro _ _ ⟨rfl, rfl⟩))
      go_ret2
      have h3 : pofErr n k = 2 := by simp [pofErr, HB.out, h1]
      rw [h3, show pofList n k = [] from by simp [pofList, h3]]
      exact ⟨_, rfl, IntsAt.nil _, Below.refl _ _⟩
    · have hk' := inB_true.1 hk
      obtain ⟨m, rfl⟩ : ∃ m : Nat, k = m := ⟨k.toNat, by omega⟩
      have h1 : keyErrS n m = 0 := by simp [keyErrS, hk, unl]
      have h2 := blind_keyErr (n : Int) m w (by omega)
      rw [h1] at h2
      have hn12 : n ≤ 12 := by omega
      have hm12 : m ≤ 479001600 := by omega
      go_enter Try.func60, Try.ntmps60
      go_wp2_with (first | (go_at_call 77; refine (blind_within _ _ _ _).mono ?_; rintro _ _ ⟨rfl, rfl⟩) | (go_at_call 112; refine (h2).mono ?_; rintro _ _ ⟨rfl, rfl⟩) | (go_at_call 113; refine (blind_permutation n m _ hn12 hm12).mono ?_; rintro _ w1 ⟨v, rfl, hints, hb1⟩))
      go_ret2
      have h3 : pofErr n m = 0 := by simp [pofErr, HB.out, h1]
      rw [h3, show pofList n m = perm n m from by simp [pofList, h3]]
      exact ⟨_, rfl, hints, hb1⟩

set_option maxRecDepth 100000 in
theorem ref_PermutationErr (p : List Int) (v : Value) (w : World) (h : IntsAt w v p) :
    Calls Try.prog 64 #[v] w fun e w' => e = .returned (.int .i64 (permErr p)) ∧ ∃ k, w' = w.drewN k := by
  obtain ⟨ao, cap, rfl, h1, h2, h3⟩ := h.opn
  have H2 := hid h2
  unfold maxLen at h2
  by_cases hbig : 12 < p.length
  · go_enter Try.func64, Try.ntmps64
    go_wp2_with fail
    go_ret
    exact ⟨ret_int (by simp only [permErr]; rw [if_pos hbig]), 0, rfl⟩
  · go_enter Try.func64, Try.ntmps64
    go_wp2_with fail
    go_loopw [3] (fun i wr => ∃ k : Nat, k ≤ p.length ∧ i = .int .i64 k ∧ Hid (∀ j, j < k → permAt p j = 0) ∧ ∃ q, wr = w.drewN q) (fun i _ => p.length - (intOf i).toNat)
    case atStart => exact ⟨0, Nat.zero_le _, rfl, hid (fun j hj => by omega), 0, rfl⟩
    case round =>
      obtain ⟨k, hk, rfl, HZ, q, rfl⟩ := hrel
      by_cases hlt : k < p.length
      · obtain ⟨b, off, rfl, hb, hc⟩ := h3 k hlt
        have hck := hc k hlt
        have hT := intsAt_take hc hb hk h1 H2.out
        obtain ⟨y, hy⟩ : ∃ y, y = nth p k := ⟨_, rfl⟩
        obtain ⟨P, hP⟩ : ∃ P, P = p.take k := ⟨_, rfl⟩
        rw [← hy] at hck
        rw [← hP] at hT
        have HY := hid hy
        have HP := hid hP
        have HPA : Hid (permAt p k = if inB y 0 ((p.length : Int) - 1) = true then (if hasI P y = true then 23 else 0) else 6) := hid (by rw [hy, hP]; rfl)
        clear hc h3 hy hP h
        cases hin : inB y 0 ((p.length : Int) - 1)
        · have HIN := hid hin
          go_wp2_with (go_at_call 44; refine (base_Within _ _ _ _).mono ?_; rintro _ _ ⟨rfl, rfl⟩)
          go_ret
          refine ⟨ret_int ?_, q, rfl⟩
          have e : permAt p k = 6 := by rw [HPA.out]; simp [HIN.out]
          simp only [permErr]
          rw [if_neg hbig, scan_at HZ.out hlt (by rw [e]; decide), e]
        · have HIN := hid hin
          cases hh : hasI P y
          · have HH := hid hh
            go_wp2_with (go_at_call 44; refine (base_Within _ _ _ _).mono ?_; rintro _ _ ⟨rfl, rfl⟩)
            ((refine wp_three [] [0, 1, 2, 3, 4, 5, 6] 7 (by kernel_rfl) (by kernel_rfl) ?_); (intro _ _); (simp only [pick, List.drop_succ_cons, List.drop_zero, List.head?_cons, Option.toList_some, List.cons_append, List.nil_append]); (repeat (first | (go_big_quiet_step (fail)) | (quiet_step (fail)))); (try refine wpQuiet_nil ?_); (repeat (first | (go_big_quiet_step (fail)) | (quiet_step (fail)))); (try refine wpQuiet_nil ?_); (intro nq))
            go_wp2_with (go_at_call 115; refine (base_Has P _ _ _ (hT.drewN _)).mono ?_; rintro _ _ ⟨rfl, rfl⟩)
            go_roundw
            case rel =>
              refine ⟨k + 1, by omega, by go_num, hid (fun j hj => ?_), q + nq, by simp⟩
              rcases Nat.lt_or_ge j k with h | h
              · exact HZ.out j h
              · rw [show j = k from by omega, HPA.out]; simp [HIN.out, HH.out]
            case measure => simp [intOf]; omega
          · have HH := hid hh
            go_wp2_with (go_at_call 44; refine (base_Within _ _ _ _).mono ?_; rintro _ _ ⟨rfl, rfl⟩)
            ((refine wp_three [] [0, 1, 2, 3, 4, 5, 6] 7 (by kernel_rfl) (by kernel_rfl) ?_); (intro _ _); (simp only [pick, List.drop_succ_cons, List.drop_zero, List.head?_cons, Option.toList_some, List.cons_append, List.nil_append]); (repeat (first | (go_big_quiet_step (fail)) | (quiet_step (fail)))); (try refine wpQuiet_nil ?_); (repeat (first | (go_big_quiet_step (fail)) | (quiet_step (fail)))); (try refine wpQuiet_nil ?_); (intro nq))
            go_wp2_with (go_at_call 115; refine (base_Has P _ _ _ (hT.drewN _)).mono ?_; rintro _ _ ⟨rfl, rfl⟩)
            go_ret
            refine ⟨ret_int ?_, q + nq, by simp⟩
            have e : permAt p k = 23 := by rw [HPA.out]; simp [HIN.out, HH.out]
            simp only [permErr]
            rw [if_neg hbig, scan_at HZ.out hlt (by rw [e]; decide), e]
      · go_wp2_with fail
        go_ret
        refine ⟨ret_int ?_, q, rfl⟩
        simp only [permErr]
        rw [if_neg hbig, scan_end fun j hj => HZ.out j (by omega)]

set_option maxRecDepth 100000 in
theorem ref_Key (p : List Int) (v : Value) (w : World) (h : IntsAt w v p) (h12 : p.length ≤ 12) :
    Calls Try.prog 65 #[v] w fun e w' => e = .returned (.int .i64 (keyN p : Nat)) ∧ ∃ k, w' = w.drewN k := by
  obtain ⟨ao, cap, rfl, h1, h2, h3⟩ := h.opn
  have H2 := hid h2
  unfold maxLen at h2
  have hf := fac_le12 h12
  have hK := keyN_lt p
  go_enter Try.func65, Try.ntmps65
  go_wp2_with fail
  go_loopw [3, 4, 5] (fun o u i wr => ∃ k : Nat, k ≤ p.length ∧ o = .int .i64 (kUp p k : Nat) ∧ u = .int .i64 (wgt p.length k : Nat) ∧ i = .int .i64 k ∧ ∃ q, wr = w.drewN q) (fun _ _ i _ => p.length - (intOf i).toNat)
  case atStart => exact ⟨0, Nat.zero_le _, rfl, rfl, rfl, 0, rfl⟩
  case round =>
    obtain ⟨k, hk, rfl, rfl, rfl, q, rfl⟩ := hrel
    by_cases hlt : k < p.length
    · obtain ⟨b, off, rfl, hb, hc⟩ := h3 k hlt
      have hck := hc k hlt
      obtain ⟨x, hx⟩ : ∃ x, x = nth p k := ⟨_, rfl⟩
      rw [← hx] at hck
      obtain ⟨l, hl⟩ : ∃ l, l = p.drop (k + 1) := ⟨_, rfl⟩
      have hll : l.length + (k + 1) = p.length := by rw [hl]; simp; omega
      have HLC : Hid (∀ j, j < l.length → w.cell? ⟨b, off + ((k + 1) + j), none⟩ = some (.int .i64 (nth l j))) := hid (fun j hj => by rw [hl, nth_dropped]; exact hc _ (by omega))
      have d1 := kUp_le (p := p) (k := k + 1) (by omega)
      have d2 := wgt_le (n := p.length) (k := k) (by omega)
      have d3 := wgt_le (n := p.length) (k := k + 1) (by omega)
      have HK1 : Hid (kUp p (k + 1) = kUp p k + cntL x l * wgt p.length k) := hid (by rw [hx, hl]; rfl)
      have HW1 : Hid (wgt p.length (k + 1) = wgt p.length k * (p.length - k)) := hid rfl
      have HX := hid hx
      clear hc h3 hx hl h
      go_wp2_with fail
      obtain ⟨wo, rfl⟩ : ∃ wo : World, wo = w.drewN q := ⟨_, rfl⟩
      go_loopw [6, 7] (fun o i wr => ∃ j : Nat, j ≤ l.length ∧ o = .int .i64 (cntL x (l.take j) : Nat) ∧ i = .int .i64 ((k : Int) + 1 + (j : Int)) ∧ ∃ q, wr = w.drewN q) (fun _ i _ => p.length - (intOf i).toNat)
      case atStart => exact ⟨0, Nat.zero_le _, rfl, by simp, q, rfl⟩
      case round =>
        obtain ⟨j, hj, rfl, rfl, q2, rfl⟩ := hrel
        by_cases hl2 : j < l.length
        · have hcj := HLC.out j hl2
          have HCT := hid (cntL_take (x := x) hl2)
          obtain ⟨y, hy⟩ : ∃ y, y = nth l j := ⟨_, rfl⟩
          rw [← hy] at hcj HCT
          have d4 : cntL x (l.take j) ≤ 12 := Nat.le_trans List.countP_le_length (by simp; omega)
          have e1 : ((k : Int) + 1 + (j : Int)).toNat = k + 1 + j := by omega
          clear hy
          by_cases hxy : y < x
          · go_wp2_with fail
            ((refine wp_three [] [0, 1, 2, 3, 4, 5, 6, 7] 8 (by kernel_rfl) (by kernel_rfl) ?_); (intro _ _); (simp only [pick, List.drop_succ_cons, List.drop_zero, List.head?_cons, Option.toList_some, List.cons_append, List.nil_append]); (repeat (first | (go_big_quiet_step (fail)) | (quiet_step (fail)))); (try refine wpQuiet_nil ?_); (repeat (first | (go_big_quiet_step (fail)) | (quiet_step (fail)))); (try refine wpQuiet_nil ?_); (intro nq))
            go_wp2
            go_roundw
            case rel => exact ⟨j + 1, by omega, by rw [HCT.out, if_pos hxy]; go_num, by go_num, q2 + nq, by simp⟩
            case measure => simp [intOf]; omega
          · go_wp2_with fail
            ((refine wp_three [] [0, 1, 2, 3, 4, 5, 6, 7] 8 (by kernel_rfl) (by kernel_rfl) ?_); (intro _ _); (simp only [pick, List.drop_succ_cons, List.drop_zero, List.head?_cons, Option.toList_some, List.cons_append, List.nil_append]); (repeat (first | (go_big_quiet_step (fail)) | (quiet_step (fail)))); (try refine wpQuiet_nil ?_); (repeat (first | (go_big_quiet_step (fail)) | (quiet_step (fail)))); (try refine wpQuiet_nil ?_); (intro nq))
            go_wp2
            go_roundw
            case rel => exact ⟨j + 1, by omega, by rw [HCT.out, if_neg (by omega)]; go_num, by go_num, q2 + nq, by simp⟩
            case measure => simp [intOf]; omega
        · have hjl : j = l.length := by omega
          subst hjl
          rw [List.take_length]
          have d4 : cntL x l ≤ 12 := Nat.le_trans List.countP_le_length (by omega)
          obtain ⟨C, hC⟩ : ∃ C, C = cntL x l := ⟨_, rfl⟩
          obtain ⟨W, hW⟩ : ∃ W, W = wgt p.length k := ⟨_, rfl⟩
          rw [HW1.out] at d3
          rw [HK1.out] at d1
          rw [← hC, ← hW] at d1 
          rw [← hC] at d4 ⊢
          rw [← hW] at d2 d3 ⊢
          have hm1 : C * W ≤ 479001600 := by omega
          have hm2 : W * (p.length - k) ≤ 479001600 := by omega
          have hm1' : (W : Int) * (C : Int) ≤ 479001600 := by rw [← Int.natCast_mul, Nat.mul_comm]; omega
          have hm2' : (W : Int) * ((p.length : Int) - (k : Int)) ≤ 479001600 := by rw [← Int.ofNat_sub (by omega), ← Int.natCast_mul]; omega
          have hm3' : 0 ≤ (W : Int) * (C : Int) := Int.mul_nonneg (by omega) (by omega)
          have hm4' : 0 ≤ (W : Int) * ((p.length : Int) - (k : Int)) := Int.mul_nonneg (by omega) (by omega)
          have hm5 : (kUp p k : Int) ≤ 479001600 := by omega
          have HC := hid hC
          have HW := hid hW
          clear hC hW hm1 hm2 d1
          go_wp2_with fail
          go_roundw
          case rel =>
            refine ⟨k + 1, by omega, ?_, ?_, by go_num, q2, rfl⟩
            · rw [HK1.out, ← HC.out, ← HW.out]; push_cast; rw [Int.mul_comm (C : Int)]
            · rw [HW1.out, ← HW.out, Int.natCast_mul, Int.ofNat_sub (by omega)]
          case measure => simp [intOf]; omega
    · have hkl : k = p.length := by omega
      go_wp2_with fail
      go_ret
      exact ⟨ret_int (by rw [hkl, kUp_end]), q, rfl⟩

end Go.Proofs.Ytllddidjiabegaa
