/- The law of permutations and keys, walked. -/
import Derived.Test.YtllddidjiabegaaX6
set_option linter.unusedVariables false
set_option linter.unusedSimpArgs false
namespace Go.Proofs.Ytllddidjiabegaa
open Go.RowKit

theorem intsB (l : List Int) (v u : Value) (W : World) (h : IntsAt W v l) (h' : IntsAt W u l) : Calls Try.prog 21 #[v, u] W fun e w' => e = .returned (.bool true) ∧ Below W.heap.size W w' :=
  (base_Ints l l v u W h h').mono (by rintro _ _ ⟨rfl, k, rfl⟩; exact ⟨by simp, Below.drewN _ (Below.refl _ _)⟩)

theorem facI_nat (n : Nat) : facI n = fac n := by simp [facI]
theorem pofErr_ok {n m : Nat} (hn : n ≤ 12) (hm : m < fac n) : pofErr n m = 0 := by
  have h1 : inB (n : Int) 0 12 = true := inB_true.2 (by omega)
  have h2 : inB (m : Int) 0 (facI n - 1) = true := by rw [inB_true, facI_nat]; omega
  simp [pofErr, keyErrS, unl, h1, h2]
theorem pofErr_inv {c k : Int} (h : pofErr c k = 0) : ∃ n m : Nat, c = n ∧ k = m ∧ n ≤ 12 ∧ m < fac n := by
  unfold pofErr at h
  split at h
  · rename_i hb
    have hb := inB_true.1 hb
    unfold keyErrS unl at h
    split at h
    · rename_i hk
      have hk := inB_true.1 hk
      obtain ⟨n, rfl⟩ : ∃ n : Nat, c = n := ⟨c.toNat, by omega⟩
      obtain ⟨m, rfl⟩ : ∃ m : Nat, k = m := ⟨k.toNat, by omega⟩
      rw [facI_nat] at hk
      exact ⟨n, m, rfl, rfl, by omega, by omega⟩
    · cases h
  · cases h
theorem pofErr_two {c k : Int} (h : pofErr c k ≠ 0) : pofErr c k = 2 := by
  unfold pofErr keyErrS unl at *
  split
  · split
    · rename_i h1 h2; simp [h1, h2] at h
    · rfl
  · rfl

set_option maxRecDepth 100000 in
set_option maxHeartbeats 8000000 in
theorem law_Permutations (c k : Int) (p : List Int) (v : Value) (w : World) (h : IntsAt w v p) :
    Calls Try.prog 9 #[.int .i64 c, .int .i64 k, v] w fun e w' => e = .returned (.bool true) ∧ Below w.heap.size w w' := by
  by_cases hbig : 14 < p.length
  · obtain ⟨ao, cap, rfl, h1, h2, h3⟩ := h.opn
    go_enter Try.func9, Try.ntmps9
    go_wp2_with (go_at_call 11; refine (law_awake _).mono ?_; rintro _ w1 ⟨rfl, hb1⟩; obtain ⟨hc1, hf1⟩ := bcell hb1; have hz1 := hb1.size; (try simp only [World.size_alloc, World.heap_drewN] at hz1))
    go_ret
    exact ⟨rfl, by (repeat (with_reducible first | exact Below.refl _ _ | assumption | refine Below.drewN _ ?_ | refine Below.drew ?_ | refine Below_alloc ?_ _ | refine Below.alloc ?_ (by first | (simp; done) | (simp; omega) | omega) _ | refine Below.setCell ?_ (by first | (simp; done) | (simp; omega) | omega) _ | refine Below_call ?_ (by assumption) | refine Below.trans ?_ (by assumption)))⟩
  have hp100 : p.length ≤ 100 := by omega
  have H := hid h
  have HEP : Hid (∀ W, Below w.heap.size w W → Calls Try.prog 64 #[v] W fun e w' => e = .returned (.int .i64 (permErr p)) ∧ ∃ k, w' = W.drewN k) := hid (fun W hW => ref_PermutationErr p v W (h.below hW))
  have HCP : Hid (∀ W, Below w.heap.size w W → Calls Try.prog 62 #[v] W (RetInts W p)) := hid (fun W hW => base_CopyInts p v W (h.below hW) hp100)
  obtain ⟨ao, cap, rfl, h1, h2, h3⟩ := h.opn
  clear h3 h
  have HKE : Hid (∀ W, c ≤ 12 → Calls Try.prog 55 #[.int .i64 c, .int .i64 k] W fun e w' => e = .returned (.int .i64 (keyErrS c k)) ∧ W = w') := hid (fun W h => ref_KeyErr c k W h)
  by_cases hp : permErr p = 0
  · have hok := permErr_ok hp
    have hkl := keyN_lt p
    have hkf := fac_le12 hok.1
    have HK : Hid (∀ W u, IntsAt W u p → Calls Try.prog 61 #[u] W fun e w' => e = .returned (.tuple #[.int .i64 (keyN p : Nat), .int .i64 0]) ∧ Below W.heap.size W w') := hid (fun W u hu => by have := blind_KeyOf p u W hu; rwa [show kofN p = (keyN p : Nat) from by simp [kofN, hp], hp] at this)
    have HKy : Hid (∀ W, Below w.heap.size w W → Calls Try.prog 65 #[.slice ao p.length cap] W fun e w' => e = .returned (.int .i64 (keyN p : Nat)) ∧ ∃ k, w' = W.drewN k) := hid (fun W hW => ref_Key p _ W (H.out.below hW) hok.1)
    have HP2 : Hid (∀ W, Calls Try.prog 60 #[.int .i64 p.length, .int .i64 (keyN p : Nat)] W (RetIntsE W p 0)) := hid (fun W => by
      have := blind_PermutationOf p.length (keyN p) W
      have e := pofErr_ok hok.1 hkl
      rwa [show pofList p.length (keyN p) = p from by simp only [pofList]; rw [if_pos e]; exact perm_key hok.2, e] at this)
    rw [hp] at HEP
    have HPP := hid hp
    clear hp hok hkl
    by_cases hE1 : pofErr c k = 0
    · obtain ⟨n, m, rfl, rfl, hn12, hmf⟩ := pofErr_inv hE1
      have hm := fac_le12 hn12
      have hb : inB (n : Int) 0 12 = true := inB_true.2 (by omega)
      have hke : keyErrS n m = 0 := by simpa [pofErr, hb] using hE1
      have HP1 : Hid (∀ W, Calls Try.prog 60 #[.int .i64 n, .int .i64 m] W (RetIntsE W (perm n m) 0)) := hid (fun W => by have := blind_PermutationOf n m W; rwa [show pofList n m = perm n m from by simp [pofList, hE1], hE1] at this)
      have HRP : Hid (∀ W, Calls Try.prog 63 #[.int .i64 n, .int .i64 m] W (RetInts W (perm n m))) := hid (fun W => ref_Permutation n m W hn12 (by omega))
      have hpl := perm_len n m
      have HK2 : Hid (∀ W u, IntsAt W u (perm n m) → Calls Try.prog 61 #[u] W fun e w' => e = .returned (.tuple #[.int .i64 m, .int .i64 0]) ∧ Below W.heap.size W w') := hid (fun W u hu => by
        have e : permErr (perm n m) = 0 := permErr_perm (by omega) (by rw [hpl]; exact perm_perm n m)
        have := blind_KeyOf (perm n m) u W hu
        rwa [show kofN (perm n m) = m from by simp [kofN, e, key_perm hmf], e] at this)
      have HCP2 : Hid (∀ W u, IntsAt W u (perm n m) → Calls Try.prog 62 #[u] W (RetInts W (perm n m))) := hid (fun W u hu => base_CopyInts _ u W hu (by omega))
      obtain ⟨P, hP⟩ : ∃ P, P = perm n m := ⟨_, rfl⟩
      rw [← hP] at HP1 HRP HK2 HCP2
      have hn12' : (n : Int) ≤ 12 := by omega
      clear hP hpl hE1 hmf
      go_enter Try.func9, Try.ntmps9
      go_wp2_with (first | (go_at_call 11; refine (law_awake _).mono ?_; rintro _ w1 ⟨rfl, hb1⟩) | (go_at_call 60; refine (HP1.out _).mono ?_; rintro _ w2 ⟨av, rfl, hav, hb2⟩))
      refine (HCP.out _ (by (repeat (with_reducible first | exact Below.refl _ _ | assumption | refine Below.drewN _ ?_ | refine Below.drew ?_ | refine Below_alloc ?_ _ | refine Below.alloc ?_ (by first | (simp; done) | (simp; omega) | omega) _ | refine Below.setCell ?_ (by first | (simp; done) | (simp; omega) | omega) _ | refine Below_call ?_ (by assumption) | refine Below.trans ?_ (by assumption))))).mono ?_
      rintro _ w3 ⟨cv, rfl, hcv, hb3⟩
      go_wp2_with (first | (go_at_call 61; refine (HK.out _ _ hcv).mono ?_; rintro _ w4 ⟨rfl, hb4⟩) | (go_at_call 44; refine (base_Within _ _ _ _).mono ?_; rintro _ _ ⟨rfl, rfl⟩) | (go_at_call 55; refine (HKE.out _ hn12').mono ?_; rintro _ _ ⟨rfl, rfl⟩) | (go_at_call 63; refine (HRP.out _).mono ?_; rintro _ w5 ⟨rv, rfl, hrv, hb5⟩) | (go_at_call 21; refine (intsB P _ _ _ (hav.below (by (repeat (with_reducible first | exact Below.refl _ _ | assumption | refine Below.drewN _ ?_ | refine Below.drew ?_ | refine Below_alloc ?_ _ | refine Below.alloc ?_ (by first | (simp; done) | (simp; omega) | omega) _ | refine Below.setCell ?_ (by first | (simp; done) | (simp; omega) | omega) _ | refine Below_call ?_ (by assumption) | refine Below.trans ?_ (by assumption))))) hrv).mono ?_; rintro _ w6 ⟨rfl, hb6⟩) | (go_at_call 64; refine (HEP.out _ (by (repeat (with_reducible first | exact Below.refl _ _ | assumption | refine Below.drewN _ ?_ | refine Below.drew ?_ | refine Below_alloc ?_ _ | refine Below.alloc ?_ (by first | (simp; done) | (simp; omega) | omega) _ | refine Below.setCell ?_ (by first | (simp; done) | (simp; omega) | omega) _ | refine Below_call ?_ (by assumption) | refine Below.trans ?_ (by assumption))))).mono ?_; rintro _ _ ⟨rfl, q, rfl⟩))
      refine (HCP2.out _ _ (hav.below (by (repeat (with_reducible first | exact Below.refl _ _ | assumption | refine Below.drewN _ ?_ | refine Below.drew ?_ | refine Below_alloc ?_ _ | refine Below.alloc ?_ (by first | (simp; done) | (simp; omega) | omega) _ | refine Below.setCell ?_ (by first | (simp; done) | (simp; omega) | omega) _ | refine Below_call ?_ (by assumption) | refine Below.trans ?_ (by assumption)))))).mono ?_
      rintro _ w7 ⟨dv, rfl, hdv, hb7⟩
      go_wp2_with fail
      refine (HK2.out _ _ hdv).mono ?_
      rintro _ w8 ⟨rfl, hb8⟩
      go_wp2_with (first | (go_at_call 64; refine (HEP.out _ (by (repeat (with_reducible first | exact Below.refl _ _ | assumption | refine Below.drewN _ ?_ | refine Below.drew ?_ | refine Below_alloc ?_ _ | refine Below.alloc ?_ (by first | (simp; done) | (simp; omega) | omega) _ | refine Below.setCell ?_ (by first | (simp; done) | (simp; omega) | omega) _ | refine Below_call ?_ (by assumption) | refine Below.trans ?_ (by assumption))))).mono ?_; rintro _ _ ⟨rfl, q, rfl⟩) | (go_at_call 65; refine (HKy.out _ (by (repeat (with_reducible first | exact Below.refl _ _ | assumption | refine Below.drewN _ ?_ | refine Below.drew ?_ | refine Below_alloc ?_ _ | refine Below.alloc ?_ (by first | (simp; done) | (simp; omega) | omega) _ | refine Below.setCell ?_ (by first | (simp; done) | (simp; omega) | omega) _ | refine Below_call ?_ (by assumption) | refine Below.trans ?_ (by assumption))))).mono ?_; rintro _ _ ⟨rfl, q2, rfl⟩))
      refine (HP2.out _).mono ?_
      rintro _ w9 ⟨bv, rfl, hbv, hb9⟩
      go_wp2_with (go_at_call 21; refine (intsB p _ _ _ hbv (H.out.below (by (repeat (with_reducible first | exact Below.refl _ _ | assumption | refine Below.drewN _ ?_ | refine Below.drew ?_ | refine Below_alloc ?_ _ | refine Below.alloc ?_ (by first | (simp; done) | (simp; omega) | omega) _ | refine Below.setCell ?_ (by first | (simp; done) | (simp; omega) | omega) _ | refine Below_call ?_ (by assumption) | refine Below.trans ?_ (by assumption)))))).mono ?_; rintro _ w10 ⟨rfl, hb10⟩)
      go_ret
      exact ⟨rfl, by (repeat (with_reducible first | exact Below.refl _ _ | assumption | refine Below.drewN _ ?_ | refine Below.drew ?_ | refine Below_alloc ?_ _ | refine Below.alloc ?_ (by first | (simp; done) | (simp; omega) | omega) _ | refine Below.setCell ?_ (by first | (simp; done) | (simp; omega) | omega) _ | refine Below_call ?_ (by assumption) | refine Below.trans ?_ (by assumption)))⟩
    · have hE := pofErr_two hE1
      have HP1 : Hid (∀ W, Calls Try.prog 60 #[.int .i64 c, .int .i64 k] W (RetIntsE W [] 2)) := hid (fun W => by have := blind_PermutationOf c k W; rwa [show pofList c k = [] from by simp [pofList, hE1], hE] at this)
      have hcase : inB c 0 12 = true → keyErrS c k = 2 := fun hb => by simpa [pofErr, hb] using hE
      clear hE1 hE
      cases hb : inB c 0 12
      · go_enter Try.func9, Try.ntmps9
        go_wp2_with (first | (go_at_call 11; refine (law_awake _).mono ?_; rintro _ w1 ⟨rfl, hb1⟩) | (go_at_call 60; refine (HP1.out _).mono ?_; rintro _ w2 ⟨av, rfl, hav, hb2⟩; obtain ⟨ao1, cap1, rfl, g1, g2, g3⟩ := hav.opn; clear g3))
        refine (HCP.out _ (by (repeat (with_reducible first | exact Below.refl _ _ | assumption | refine Below.drewN _ ?_ | refine Below.drew ?_ | refine Below_alloc ?_ _ | refine Below.alloc ?_ (by first | (simp; done) | (simp; omega) | omega) _ | refine Below.setCell ?_ (by first | (simp; done) | (simp; omega) | omega) _ | refine Below_call ?_ (by assumption) | refine Below.trans ?_ (by assumption))))).mono ?_
        rintro _ w3 ⟨cv, rfl, hcv, hb3⟩
        go_wp2_with (first | (go_at_call 61; refine (HK.out _ _ hcv).mono ?_; rintro _ w4 ⟨rfl, hb4⟩) | (go_at_call 44; refine (base_Within _ _ _ _).mono ?_; rintro _ _ ⟨rfl, rfl⟩) | (go_at_call 64; refine (HEP.out _ (by (repeat (with_reducible first | exact Below.refl _ _ | assumption | refine Below.drewN _ ?_ | refine Below.drew ?_ | refine Below_alloc ?_ _ | refine Below.alloc ?_ (by first | (simp; done) | (simp; omega) | omega) _ | refine Below.setCell ?_ (by first | (simp; done) | (simp; omega) | omega) _ | refine Below_call ?_ (by assumption) | refine Below.trans ?_ (by assumption))))).mono ?_; rintro _ _ ⟨rfl, q, rfl⟩) | (go_at_call 65; refine (HKy.out _ (by (repeat (with_reducible first | exact Below.refl _ _ | assumption | refine Below.drewN _ ?_ | refine Below.drew ?_ | refine Below_alloc ?_ _ | refine Below.alloc ?_ (by first | (simp; done) | (simp; omega) | omega) _ | refine Below.setCell ?_ (by first | (simp; done) | (simp; omega) | omega) _ | refine Below_call ?_ (by assumption) | refine Below.trans ?_ (by assumption))))).mono ?_; rintro _ _ ⟨rfl, q2, rfl⟩))
        refine (HP2.out _).mono ?_
        rintro _ w9 ⟨bv, rfl, hbv, hb9⟩
        go_wp2_with (go_at_call 21; refine (intsB p _ _ _ hbv (H.out.below (by (repeat (with_reducible first | exact Below.refl _ _ | assumption | refine Below.drewN _ ?_ | refine Below.drew ?_ | refine Below_alloc ?_ _ | refine Below.alloc ?_ (by first | (simp; done) | (simp; omega) | omega) _ | refine Below.setCell ?_ (by first | (simp; done) | (simp; omega) | omega) _ | refine Below_call ?_ (by assumption) | refine Below.trans ?_ (by assumption)))))).mono ?_; rintro _ w10 ⟨rfl, hb10⟩)
        go_ret
        exact ⟨rfl, by (repeat (with_reducible first | exact Below.refl _ _ | assumption | refine Below.drewN _ ?_ | refine Below.drew ?_ | refine Below_alloc ?_ _ | refine Below.alloc ?_ (by first | (simp; done) | (simp; omega) | omega) _ | refine Below.setCell ?_ (by first | (simp; done) | (simp; omega) | omega) _ | refine Below_call ?_ (by assumption) | refine Below.trans ?_ (by assumption)))⟩
      · have hke := hcase hb
        have hc12 : c ≤ 12 := (inB_true.1 hb).2
        clear hcase
        go_enter Try.func9, Try.ntmps9
        go_wp2_with (first | (go_at_call 11; refine (law_awake _).mono ?_; rintro _ w1 ⟨rfl, hb1⟩) | (go_at_call 60; refine (HP1.out _).mono ?_; rintro _ w2 ⟨av, rfl, hav, hb2⟩; obtain ⟨ao1, cap1, rfl, g1, g2, g3⟩ := hav.opn; clear g3))
        refine (HCP.out _ (by (repeat (with_reducible first | exact Below.refl _ _ | assumption | refine Below.drewN _ ?_ | refine Below.drew ?_ | refine Below_alloc ?_ _ | refine Below.alloc ?_ (by first | (simp; done) | (simp; omega) | omega) _ | refine Below.setCell ?_ (by first | (simp; done) | (simp; omega) | omega) _ | refine Below_call ?_ (by assumption) | refine Below.trans ?_ (by assumption))))).mono ?_
        rintro _ w3 ⟨cv, rfl, hcv, hb3⟩
        go_wp2_with (first | (go_at_call 61; refine (HK.out _ _ hcv).mono ?_; rintro _ w4 ⟨rfl, hb4⟩) | (go_at_call 44; refine (base_Within _ _ _ _).mono ?_; rintro _ _ ⟨rfl, rfl⟩) | (go_at_call 55; refine (HKE.out _ hc12).mono ?_; rintro _ _ ⟨rfl, rfl⟩) | (go_at_call 64; refine (HEP.out _ (by (repeat (with_reducible first | exact Below.refl _ _ | assumption | refine Below.drewN _ ?_ | refine Below.drew ?_ | refine Below_alloc ?_ _ | refine Below.alloc ?_ (by first | (simp; done) | (simp; omega) | omega) _ | refine Below.setCell ?_ (by first | (simp; done) | (simp; omega) | omega) _ | refine Below_call ?_ (by assumption) | refine Below.trans ?_ (by assumption))))).mono ?_; rintro _ _ ⟨rfl, q, rfl⟩) | (go_at_call 65; refine (HKy.out _ (by (repeat (with_reducible first | exact Below.refl _ _ | assumption | refine Below.drewN _ ?_ | refine Below.drew ?_ | refine Below_alloc ?_ _ | refine Below.alloc ?_ (by first | (simp; done) | (simp; omega) | omega) _ | refine Below.setCell ?_ (by first | (simp; done) | (simp; omega) | omega) _ | refine Below_call ?_ (by assumption) | refine Below.trans ?_ (by assumption))))).mono ?_; rintro _ _ ⟨rfl, q2, rfl⟩))
        refine (HP2.out _).mono ?_
        rintro _ w9 ⟨bv, rfl, hbv, hb9⟩
        go_wp2_with (go_at_call 21; refine (intsB p _ _ _ hbv (H.out.below (by (repeat (with_reducible first | exact Below.refl _ _ | assumption | refine Below.drewN _ ?_ | refine Below.drew ?_ | refine Below_alloc ?_ _ | refine Below.alloc ?_ (by first | (simp; done) | (simp; omega) | omega) _ | refine Below.setCell ?_ (by first | (simp; done) | (simp; omega) | omega) _ | refine Below_call ?_ (by assumption) | refine Below.trans ?_ (by assumption)))))).mono ?_; rintro _ w10 ⟨rfl, hb10⟩)
        go_ret
        exact ⟨rfl, by (repeat (with_reducible first | exact Below.refl _ _ | assumption | refine Below.drewN _ ?_ | refine Below.drew ?_ | refine Below_alloc ?_ _ | refine Below.alloc ?_ (by first | (simp; done) | (simp; omega) | omega) _ | refine Below.setCell ?_ (by first | (simp; done) | (simp; omega) | omega) _ | refine Below_call ?_ (by assumption) | refine Below.trans ?_ (by assumption)))⟩
  · have hpE : (permErr p != 0) = true := by simpa using hp
    have HK : Hid (∀ W u, IntsAt W u p → Calls Try.prog 61 #[u] W fun e w' => e = .returned (.tuple #[.int .i64 0, .int .i64 (permErr p)]) ∧ Below W.heap.size W w') := hid (fun W u hu => by have := blind_KeyOf p u W hu; rwa [show kofN p = 0 from by simp [kofN, hp]] at this)
    clear hp
    by_cases hE1 : pofErr c k = 0
    · obtain ⟨n, m, rfl, rfl, hn12, hmf⟩ := pofErr_inv hE1
      have hm := fac_le12 hn12
      have hb : inB (n : Int) 0 12 = true := inB_true.2 (by omega)
      have hke : keyErrS n m = 0 := by simpa [pofErr, hb] using hE1
      have HP1 : Hid (∀ W, Calls Try.prog 60 #[.int .i64 n, .int .i64 m] W (RetIntsE W (perm n m) 0)) := hid (fun W => by have := blind_PermutationOf n m W; rwa [show pofList n m = perm n m from by simp [pofList, hE1], hE1] at this)
      have HRP : Hid (∀ W, Calls Try.prog 63 #[.int .i64 n, .int .i64 m] W (RetInts W (perm n m))) := hid (fun W => ref_Permutation n m W hn12 (by omega))
      have hpl := perm_len n m
      have HK2 : Hid (∀ W u, IntsAt W u (perm n m) → Calls Try.prog 61 #[u] W fun e w' => e = .returned (.tuple #[.int .i64 m, .int .i64 0]) ∧ Below W.heap.size W w') := hid (fun W u hu => by
        have e : permErr (perm n m) = 0 := permErr_perm (by omega) (by rw [hpl]; exact perm_perm n m)
        have := blind_KeyOf (perm n m) u W hu
        rwa [show kofN (perm n m) = m from by simp [kofN, e, key_perm hmf], e] at this)
      have HCP2 : Hid (∀ W u, IntsAt W u (perm n m) → Calls Try.prog 62 #[u] W (RetInts W (perm n m))) := hid (fun W u hu => base_CopyInts _ u W hu (by omega))
      obtain ⟨P, hP⟩ : ∃ P, P = perm n m := ⟨_, rfl⟩
      rw [← hP] at HP1 HRP HK2 HCP2
      have hn12' : (n : Int) ≤ 12 := by omega
      clear hP hpl hE1 hmf
      go_enter Try.func9, Try.ntmps9
      go_wp2_with (first | (go_at_call 11; refine (law_awake _).mono ?_; rintro _ w1 ⟨rfl, hb1⟩) | (go_at_call 60; refine (HP1.out _).mono ?_; rintro _ w2 ⟨av, rfl, hav, hb2⟩))
      refine (HCP.out _ (by (repeat (with_reducible first | exact Below.refl _ _ | assumption | refine Below.drewN _ ?_ | refine Below.drew ?_ | refine Below_alloc ?_ _ | refine Below.alloc ?_ (by first | (simp; done) | (simp; omega) | omega) _ | refine Below.setCell ?_ (by first | (simp; done) | (simp; omega) | omega) _ | refine Below_call ?_ (by assumption) | refine Below.trans ?_ (by assumption))))).mono ?_
      rintro _ w3 ⟨cv, rfl, hcv, hb3⟩
      go_wp2_with (first | (go_at_call 61; refine (HK.out _ _ hcv).mono ?_; rintro _ w4 ⟨rfl, hb4⟩) | (go_at_call 44; refine (base_Within _ _ _ _).mono ?_; rintro _ _ ⟨rfl, rfl⟩) | (go_at_call 55; refine (HKE.out _ hn12').mono ?_; rintro _ _ ⟨rfl, rfl⟩) | (go_at_call 63; refine (HRP.out _).mono ?_; rintro _ w5 ⟨rv, rfl, hrv, hb5⟩) | (go_at_call 21; refine (intsB P _ _ _ (hav.below (by (repeat (with_reducible first | exact Below.refl _ _ | assumption | refine Below.drewN _ ?_ | refine Below.drew ?_ | refine Below_alloc ?_ _ | refine Below.alloc ?_ (by first | (simp; done) | (simp; omega) | omega) _ | refine Below.setCell ?_ (by first | (simp; done) | (simp; omega) | omega) _ | refine Below_call ?_ (by assumption) | refine Below.trans ?_ (by assumption))))) hrv).mono ?_; rintro _ w6 ⟨rfl, hb6⟩) | (go_at_call 64; refine (HEP.out _ (by (repeat (with_reducible first | exact Below.refl _ _ | assumption | refine Below.drewN _ ?_ | refine Below.drew ?_ | refine Below_alloc ?_ _ | refine Below.alloc ?_ (by first | (simp; done) | (simp; omega) | omega) _ | refine Below.setCell ?_ (by first | (simp; done) | (simp; omega) | omega) _ | refine Below_call ?_ (by assumption) | refine Below.trans ?_ (by assumption))))).mono ?_; rintro _ _ ⟨rfl, q, rfl⟩))
      refine (HCP2.out _ _ (hav.below (by (repeat (with_reducible first | exact Below.refl _ _ | assumption | refine Below.drewN _ ?_ | refine Below.drew ?_ | refine Below_alloc ?_ _ | refine Below.alloc ?_ (by first | (simp; done) | (simp; omega) | omega) _ | refine Below.setCell ?_ (by first | (simp; done) | (simp; omega) | omega) _ | refine Below_call ?_ (by assumption) | refine Below.trans ?_ (by assumption)))))).mono ?_
      rintro _ w7 ⟨dv, rfl, hdv, hb7⟩
      go_wp2_with fail
      refine (HK2.out _ _ hdv).mono ?_
      rintro _ w8 ⟨rfl, hb8⟩
      go_wp2_with (first | (go_at_call 64; refine (HEP.out _ (by (repeat (with_reducible first | exact Below.refl _ _ | assumption | refine Below.drewN _ ?_ | refine Below.drew ?_ | refine Below_alloc ?_ _ | refine Below.alloc ?_ (by first | (simp; done) | (simp; omega) | omega) _ | refine Below.setCell ?_ (by first | (simp; done) | (simp; omega) | omega) _ | refine Below_call ?_ (by assumption) | refine Below.trans ?_ (by assumption))))).mono ?_; rintro _ _ ⟨rfl, q, rfl⟩))
      go_ret
      exact ⟨by simp, by (repeat (with_reducible first | exact Below.refl _ _ | assumption | refine Below.drewN _ ?_ | refine Below.drew ?_ | refine Below_alloc ?_ _ | refine Below.alloc ?_ (by first | (simp; done) | (simp; omega) | omega) _ | refine Below.setCell ?_ (by first | (simp; done) | (simp; omega) | omega) _ | refine Below_call ?_ (by assumption) | refine Below.trans ?_ (by assumption)))⟩
    · have hE := pofErr_two hE1
      have HP1 : Hid (∀ W, Calls Try.prog 60 #[.int .i64 c, .int .i64 k] W (RetIntsE W [] 2)) := hid (fun W => by have := blind_PermutationOf c k W; rwa [show pofList c k = [] from by simp [pofList, hE1], hE] at this)
      have hcase : inB c 0 12 = true → keyErrS c k = 2 := fun hb => by simpa [pofErr, hb] using hE
      clear hE1 hE
      cases hb : inB c 0 12
      · go_enter Try.func9, Try.ntmps9
        go_wp2_with (first | (go_at_call 11; refine (law_awake _).mono ?_; rintro _ w1 ⟨rfl, hb1⟩) | (go_at_call 60; refine (HP1.out _).mono ?_; rintro _ w2 ⟨av, rfl, hav, hb2⟩; obtain ⟨ao1, cap1, rfl, g1, g2, g3⟩ := hav.opn; clear g3))
        refine (HCP.out _ (by (repeat (with_reducible first | exact Below.refl _ _ | assumption | refine Below.drewN _ ?_ | refine Below.drew ?_ | refine Below_alloc ?_ _ | refine Below.alloc ?_ (by first | (simp; done) | (simp; omega) | omega) _ | refine Below.setCell ?_ (by first | (simp; done) | (simp; omega) | omega) _ | refine Below_call ?_ (by assumption) | refine Below.trans ?_ (by assumption))))).mono ?_
        rintro _ w3 ⟨cv, rfl, hcv, hb3⟩
        go_wp2_with (first | (go_at_call 61; refine (HK.out _ _ hcv).mono ?_; rintro _ w4 ⟨rfl, hb4⟩) | (go_at_call 44; refine (base_Within _ _ _ _).mono ?_; rintro _ _ ⟨rfl, rfl⟩) | (go_at_call 64; refine (HEP.out _ (by (repeat (with_reducible first | exact Below.refl _ _ | assumption | refine Below.drewN _ ?_ | refine Below.drew ?_ | refine Below_alloc ?_ _ | refine Below.alloc ?_ (by first | (simp; done) | (simp; omega) | omega) _ | refine Below.setCell ?_ (by first | (simp; done) | (simp; omega) | omega) _ | refine Below_call ?_ (by assumption) | refine Below.trans ?_ (by assumption))))).mono ?_; rintro _ _ ⟨rfl, q, rfl⟩))
        go_ret
        exact ⟨by simp, by (repeat (with_reducible first | exact Below.refl _ _ | assumption | refine Below.drewN _ ?_ | refine Below.drew ?_ | refine Below_alloc ?_ _ | refine Below.alloc ?_ (by first | (simp; done) | (simp; omega) | omega) _ | refine Below.setCell ?_ (by first | (simp; done) | (simp; omega) | omega) _ | refine Below_call ?_ (by assumption) | refine Below.trans ?_ (by assumption)))⟩
      · have hke := hcase hb
        have hc12 : c ≤ 12 := (inB_true.1 hb).2
        clear hcase
        go_enter Try.func9, Try.ntmps9
        go_wp2_with (first | (go_at_call 11; refine (law_awake _).mono ?_; rintro _ w1 ⟨rfl, hb1⟩) | (go_at_call 60; refine (HP1.out _).mono ?_; rintro _ w2 ⟨av, rfl, hav, hb2⟩; obtain ⟨ao1, cap1, rfl, g1, g2, g3⟩ := hav.opn; clear g3))
        refine (HCP.out _ (by (repeat (with_reducible first | exact Below.refl _ _ | assumption | refine Below.drewN _ ?_ | refine Below.drew ?_ | refine Below_alloc ?_ _ | refine Below.alloc ?_ (by first | (simp; done) | (simp; omega) | omega) _ | refine Below.setCell ?_ (by first | (simp; done) | (simp; omega) | omega) _ | refine Below_call ?_ (by assumption) | refine Below.trans ?_ (by assumption))))).mono ?_
        rintro _ w3 ⟨cv, rfl, hcv, hb3⟩
        go_wp2_with (first | (go_at_call 61; refine (HK.out _ _ hcv).mono ?_; rintro _ w4 ⟨rfl, hb4⟩) | (go_at_call 44; refine (base_Within _ _ _ _).mono ?_; rintro _ _ ⟨rfl, rfl⟩) | (go_at_call 55; refine (HKE.out _ hc12).mono ?_; rintro _ _ ⟨rfl, rfl⟩) | (go_at_call 64; refine (HEP.out _ (by (repeat (with_reducible first | exact Below.refl _ _ | assumption | refine Below.drewN _ ?_ | refine Below.drew ?_ | refine Below_alloc ?_ _ | refine Below.alloc ?_ (by first | (simp; done) | (simp; omega) | omega) _ | refine Below.setCell ?_ (by first | (simp; done) | (simp; omega) | omega) _ | refine Below_call ?_ (by assumption) | refine Below.trans ?_ (by assumption))))).mono ?_; rintro _ _ ⟨rfl, q, rfl⟩))
        go_ret
        exact ⟨by simp, by (repeat (with_reducible first | exact Below.refl _ _ | assumption | refine Below.drewN _ ?_ | refine Below.drew ?_ | refine Below_alloc ?_ _ | refine Below.alloc ?_ (by first | (simp; done) | (simp; omega) | omega) _ | refine Below.setCell ?_ (by first | (simp; done) | (simp; omega) | omega) _ | refine Below_call ?_ (by assumption) | refine Below.trans ?_ (by assumption)))⟩

end Go.Proofs.Ytllddidjiabegaa
