/- Events scrambled: the reference. -/
import Derived.Test.YtllddidjiabegaaBE2
set_option linter.unusedVariables false
set_option linter.unusedSimpArgs false
namespace Go.Proofs.Ytllddidjiabegaa
open Go.RowKit

theorem perm_range {n k i : Nat} (hi : i < n) : ∃ j : Nat, nth (perm n k) i = j ∧ j < n := by
  have hl := perm_len n k
  have hm : nth (perm n k) i ∈ perm n k := by rw [nth_lt (by omega)]; exact List.getElem_mem _
  have h2 := mem_upN.1 ((perm_perm n k).mem_iff.1 hm)
  exact ⟨(nth (perm n k) i).toNat, by omega, by omega⟩

def RetOwn (w : World) (l : List Ev) (e : Ending) (w' : World) : Prop := ∃ v, e = .returned v ∧ OwnEv w' w.heap.size v l ∧ Below w.heap.size w w'

theorem ref_CopyEventsO (l : List Ev) (v : Value) (w : World) (h : EventsAt w v l) (hl : l.length ≤ 100) :
    Calls Try.prog 17 #[v] w (RetOwn w l) := by
  obtain ⟨ao, cap, rfl, h1, h2, h3⟩ := SlAt.src h
  have HE : (w.alloc (.cells #[] 89)).ownsRow w.heap.size 89 4 (.slice (some ⟨w.heap.size, 0, none⟩) 0 0) 0 [] := ownsRow_empty w elemEv
  have HS := h3 (w.alloc (.cells #[] 89)) ((Below.refl _ _).alloc (Nat.le_refl _) _)
  clear h3
  go_enter Try.func17, Try.ntmps17
  go_wp2_with (at_builtin; go_must (refine wpList_append_list rfl (.tmp 3) (.tmp 4) _ rfl elemEv w.heap.size (.slice (some ⟨w.heap.size, 0, none⟩) 0 0) 0 [] rfl HE ao l.length cap _ rfl (flat_len _ _ _) (flat_one fun i j _ _ => cell_one _ j) HS (by omega) (by unfold maxLen; omega) (by simp) ?_); intro v3 w3 hown4 hp4 _)
  go_ret
  refine ⟨v3, rfl, ?_, ((Below.refl _ _).alloc (Nat.le_refl _) _).trans hp4.below⟩
  rw [Nat.zero_add, List.nil_append] at hown4
  exact hown4

theorem flat_snoc (l : List Ev) (x : Ev) : (flat l.length 4 fun i j => (evAt l i).cell j) ++ [x.cell 0, x.cell 1, x.cell 2, x.cell 3] = flat (l.length + 1) 4 fun i j => (evAt (l ++ [x]) i).cell j := by
  apply List.ext_getElem (by simp [flat_len, Nat.add_mul])
  intro q h1 h2
  have hq : q < (l.length + 1) * 4 := by simpa [flat_len] using h2
  have e1 := flat_get (c := fun i j => (evAt (l ++ [x]) i).cell j) hq
  rw [List.getElem?_eq_getElem h2] at e1
  rw [Option.some.inj e1]
  by_cases hlt : q < l.length * 4
  · have e2 := flat_get (c := fun i j => (evAt l i).cell j) hlt
    rw [List.getElem?_eq_getElem (by rw [flat_len]; exact hlt)] at e2
    rw [List.getElem_append_left (by rw [flat_len]; exact hlt), Option.some.inj e2]
    have hi : q / 4 < l.length := by omega
    have : evAt (l ++ [x]) (q / 4) = evAt l (q / 4) := by unfold evAt; simp [List.getD, List.getElem?_append_left hi]
    rw [this]
  · have hi : q / 4 = l.length := by omega
    have : evAt (l ++ [x]) (q / 4) = x := by rw [hi]; unfold evAt; simp [List.getD]
    rw [this, List.getElem_append_right (by rw [flat_len]; omega)]
    have hr : q % 4 = q - l.length * 4 := by omega
    simp only [flat_len, hr]
    rcases (by omega : q - l.length * 4 = 0 ∨ q - l.length * 4 = 1 ∨ q - l.length * 4 = 2 ∨ q - l.length * 4 = 3) with h | h | h | h <;> simp [h]

set_option maxRecDepth 100000 in
set_option maxHeartbeats 2000000 in
theorem ref_Scrambled (l : List Ev) (v : Value) (m : Nat) (w : World) (h : EventsAt w v l) (h12 : l.length ≤ 12) (hm : m ≤ 479001600) :
    Calls Try.prog 68 #[v, .int .i64 m] w (RetEvents w (scr l m)) := by
  have HPC : Hid (∀ W, Calls Try.prog 63 #[.int .i64 l.length, .int .i64 m] W (RetInts W (perm l.length m))) := hid (fun W => ref_Permutation l.length m W h12 hm)
  have HPR : Hid (∀ i, i < l.length → ∃ j : Nat, nth (perm l.length m) i = j ∧ j < l.length) := hid (fun i hi => perm_range hi)
  have hpl := perm_len l.length m
  have HSC : Hid (scr l m = scrTk l (perm l.length m) l.length) := hid (scrTk_all l _).symm
  obtain ⟨P, hP⟩ : ∃ P, P = perm l.length m := ⟨_, rfl⟩
  rw [← hP] at HPC HPR hpl HSC
  have HPL := hid hpl
  clear hP hpl
  obtain ⟨ao, cap, rfl, h1, h2, h3⟩ := h.opn
  unfold maxLen at h2
  go_enter Try.func68, Try.ntmps68
  go_wp2_with (go_at_call 63; refine (HPC.out _).mono ?_; rintro _ w1 ⟨pv, rfl, hp, hb1⟩; obtain ⟨ao2, cap2, rfl, p1, p2, p3⟩ := hp.opn; clear hp)
  unfold maxLen at p2
  have hz1 := hb1.size
  rw [HPL.out] at p1 p3
  rw [HPL.out]
  go_loopw [6, 7] (fun o i wr => ∃ k : Nat, k ≤ l.length ∧ i = .int .i64 k ∧ OwnEv wr w1.heap.size o (scrTk l P k) ∧ Below w1.heap.size w1 wr) (fun _ i _ => l.length - (intOf i).toNat)
  case atStart => exact ⟨0, Nat.zero_le _, rfl, World.ownsRow_nil _ _ _ _, Below.refl _ _⟩
  case round =>
    obtain ⟨k, hk, rfl, hown, hbel⟩ := hrel
    have hzw := hbel.size
    have hB : Below w.heap.size w wr := hb1.trans (hbel.mono hz1)
    by_cases hlt : k < l.length
    · obtain ⟨b, off, rfl, hb, hc⟩ := h3 k hlt
      obtain ⟨c0, c1, c2, c3⟩ := hc k hlt
      obtain ⟨j, hj, hjl⟩ := HPR.out k hlt
      have d0 := (hc j hjl).1
      obtain ⟨bp, op, rfl, hbp, hcp⟩ := p3 k hlt
      have q0 := hcp k hlt
      rw [hj] at q0
      have HJ := hid hj
      obtain ⟨hcb, hfb⟩ := bcell hB
      rw [← hcb b _ hb] at c0 c1 c2 c3 d0
      have q1 := (hbel.cell (p := ⟨bp, op + k, none⟩) hbp).trans q0
      have HTS : Hid (scrTk l P (k + 1) = scrTk l P k ++ [(evAt l k).at (evAt l j).t]) := hid (by rw [scrTk_succ, hj]; rfl)
      have hlen := scrTk_len l P k
      have HLEN := hid hlen
      obtain ⟨x, hx⟩ : ∃ x, x = evAt l k := ⟨_, rfl⟩
      obtain ⟨tj, htj⟩ : ∃ tj, tj = (evAt l j).t := ⟨_, rfl⟩
      rw [← hx] at c0 c1 c2 c3 HTS
      rw [← htj] at d0 HTS
      obtain ⟨t, en, ze, hi⟩ := x
      simp only at c0 c1 c2 c3
      have hbw : b < wr.heap.size := by have := hB.size; omega
      have hbpw : bp < wr.heap.size := by omega
      unfold OwnEv at hown
      rw [hlen] at hown
      clear hc h3 hcb hfb hx htj h hj q0 hcp p3 hlen
      have HOWN : (wr.alloc (.cells #[.int .i64 tj, .int .i64 en, .int .i64 ze, .int .i64 hi] 89)).ownsRow w1.heap.size 89 4 u6 k (flat k 4 fun i j => (evAt (scrTk l P k) i).cell j) := hown.alloc _
      have hzz : w1.heap.size ≤ (wr.alloc (.cells #[.int .i64 tj, .int .i64 en, .int .i64 ze, .int .i64 hi] 89)).heap.size := by simp; omega
      go_wp2_with (at_builtin; refine wpList_push rfl (.tmp 32) (.tmp 34) _ rfl elemEv w1.heap.size u6 k (flat k 4 fun i j => (evAt (scrTk l P k) i).cell j) rfl _ HOWN [.int .i64 tj, .int .i64 en, .int .i64 ze, .int .i64 hi] rfl (by simp [Value.oneCell']) rfl _ (World.size_alloc ..) rfl (by omega) (by unfold maxLen; omega) hzz ?_; intro v4 w4 hown4 hb4 _ _)
      go_roundw
      case rel =>
        refine ⟨k + 1, by omega, by go_num, ?_, (hbel.alloc hzw _).trans hb4⟩
        have e := flat_snoc (scrTk l P k) ((⟨t, en, ze, hi⟩ : Ev).at tj)
        rw [HLEN.out] at e
        unfold OwnEv
        rw [HTS.out, List.length_append, HLEN.out, List.length_singleton, ← e]
        exact hown4
      case measure => simp [intOf]; omega
    · have hkl : k = l.length := by omega
      go_wp2_with fail
      go_ret
      refine ⟨_, rfl, ?_, hB⟩
      rw [HSC.out, ← hkl]
      exact OwnEv.at hown

end Go.Proofs.Ytllddidjiabegaa
