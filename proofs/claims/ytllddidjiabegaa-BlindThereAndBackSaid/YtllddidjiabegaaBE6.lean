/- Events scrambled and unscrambled: the program. -/
import Derived.Test.YtllddidjiabegaaNO
import Derived.Test.YtllddidjiabegaaZ1
import Derived.Laws.EntriesVeiled
set_option linter.unusedVariables false
set_option linter.unusedSimpArgs false
namespace Go.Proofs.Ytllddidjiabegaa
open Go.RowKit

def RetEvE (w : World) (l : List Ev) (n : Int) (e : Ending) (w' : World) : Prop := ∃ v, e = .returned (.tuple #[v, .int .i64 n]) ∧ EventsAt w' v l ∧ Below w.heap.size w w'

set_option maxRecDepth 100000 in
theorem ev_Clone (l : List Ev) (v : Value) (w : World) (h : EventsAt w v l) (hl : l.length ≤ 100) :
    Calls Try.prog 144 #[v] w (RetOwn w l) := by
  obtain ⟨ao, cap, rfl, h1, h2, h3⟩ := SlAt.src h
  have hn := h
  obtain ⟨ao', cap', e1, _, _, _, h4⟩ := hn
  cases e1
  have hq := fun (w : World) (a : Option Addr) (n c n' c' : Nat) => Lib.run_eql_slice_nil (P := Try.prog) w 25 89 a n c n' c' Try.underlying25
  cases ao with
  | none =>
    have hc := h4 rfl
    subst hc
    have hl0 : l.length = 0 := by omega
    have hl1 : l = [] := List.eq_nil_of_length_eq_zero hl0
    subst hl1
    go_enter Try.func144, Try.ntmps144
    go_wp2_with fail
    go_ret
    exact ⟨_, rfl, World.ownsRow_nil _ _ _ _, Below.refl _ _⟩
  | some a =>
    have HE : (w.alloc (.cells #[] 89)).ownsRow w.heap.size 89 4 (.slice (some ⟨w.heap.size, 0, none⟩) 0 0) 0 [] := ownsRow_empty w elemEv
    have HS := h3 (w.alloc (.cells #[] 89)) ((Below.refl _ _).alloc (Nat.le_refl _) _)
    clear h3 h4 h
    go_enter Try.func144, Try.ntmps144
    go_wp2_with (at_builtin; go_must (refine wpList_append_list rfl (.tmp 5) (.tmp 6) _ rfl elemEv w.heap.size (.slice (some ⟨w.heap.size, 0, none⟩) 0 0) 0 [] rfl HE (some a) l.length cap _ rfl (flat_len _ _ _) (flat_one fun i j _ _ => cell_one _ j) HS (by omega) (by unfold maxLen; omega) (by simp) ?_); intro v3 w3 hown4 hp4 _)
    go_ret
    refine ⟨v3, rfl, ?_, ((Below.refl _ _).alloc (Nat.le_refl _) _).trans hp4.below⟩
    rw [Nat.zero_add, List.nil_append] at hown4
    exact hown4

theorem moveErr_one {l : List Ev} {key : Int} (h : anyErr l ≠ 0) : moveErr l key = anyErr l := by simp [moveErr, firstNZ, h]
theorem moveErr_two {l : List Ev} {key : Int} (h : anyErr l = 0) : moveErr l key = keyErrS l.length key := by
  simp only [moveErr, firstNZ, h, if_true]
  split
  · rename_i e; exact e.symm
  · rfl
theorem keyErrS_ok {n : Nat} {key : Int} (hn : n ≤ 12) (h : keyErrS n key = 0) : ∃ m : Nat, key = m ∧ m < fac n := by
  have h1 : pofErr n key = 0 := by
    have : inB (n : Int) 0 12 = true := inB_true.2 (by omega)
    simp [pofErr, this, h]
  obtain ⟨n', m, e1, e2, _, h3⟩ := pofErr_inv h1
  have : n' = n := by omega
  subst this
  exact ⟨m, e2, h3⟩


set_option maxRecDepth 100000 in
set_option maxHeartbeats 1000000 in
theorem blind_Scrambled1 (l cur : List Ev) (sv ov : Value) (i j B base : Nat) (w : World) (hs : EventsAt w sv l) (hbx : w.cell? ⟨B, 0, none⟩ = some sv) (hown : OwnEv w base ov cur) (hl : cur.length = l.length) (hi : i < l.length) (hj : j < l.length) :
    Calls Try.prog 110 #[ov, .int .i64 i, .int .i64 j, .pointer (some ⟨B, 0, none⟩)] w fun e w' => e = .returned (.tuple #[]) ∧ OwnEv w' base ov (cur.set i ((evAt cur i).at (evAt l j).t)) ∧ Below base w w' ∧ w'.heap.size = w.heap.size ∧ ∀ b, ov.ownBlock ≠ some b → w'.heap[b]? = w.heap[b]? := by
  obtain ⟨ao, cap, rfl, h1, h2, h3⟩ := hs.opn
  obtain ⟨b, off, rfl, hb, hc⟩ := h3 i hi
  have c0 := (hc j hj).1
  obtain ⟨g, cap3, rfl, hbg, hgs, g1, g2, g3, g4⟩ := hown.shape (by omega)
  have hold := g3 i (by omega)
  have hfr := g4 (i * 4)
  have HSET := hid (hown.setT (i := i) (by omega) (evAt l j).t)
  have hi' : (i : Int) < l.length := by omega
  have hj' : (j : Int) < l.length := by omega
  unfold maxLen at h2 g2
  rw [hl] at g1 ⊢
  rw [hl] at HSET
  clear hc h3 g3 g4 hown hs
  go_enter Try.func110, Try.ntmps110
  go_wp2_with fail
  exact bodyPost_end (results_none rfl _ _ _) rfl ⟨rfl, HSET.out, (Below.refl _ _).setCell hbg _, by simp, fun b hne => heap_setCell_other _ _ _ _ (fun e => hne (by rw [e]; rfl))⟩

def movScrambled (l : List Ev) (key : Int) : List Ev := if moveErr l key = 0 then scr l key.toNat else []

set_option maxRecDepth 100000 in
set_option maxHeartbeats 2000000 in
theorem moved_Scrambled (l : List Ev) (v : Value) (key : Int) (B : Nat) (w : World) (h : EventsAt w v l) (hB : B < w.heap.size) (hbx : w.cell? ⟨B, 0, none⟩ = some v) :
    Calls Try.prog 109 #[v, .int .i64 key, .func (.func 110) #[] #[.pointer (some ⟨B, 0, none⟩)]] w (RetEvE w (movScrambled l key) (moveErr l key)) := by
  have HL : Hid (∀ W, Below w.heap.size w W → Calls Try.prog 80 #[v] W fun e w' => e = .returned (.int .i64 (anyErr l)) ∧ Below W.heap.size W w') := hid (fun W hW => blind_looseErr l v W (h.below hW))
  by_cases hA : anyErr l = 0
  case neg =>
    have HR : Hid (movScrambled l key = [] ∧ moveErr l key = anyErr l) := hid (by
      have e := moveErr_one (key := key) hA
      exact ⟨by simp [movScrambled, e, hA], e⟩)
    have hA' : (anyErr l != 0) = true := by simpa using hA
    clear hA h
    go_enter Try.func109, Try.ntmps109
    go_wp2_with (go_at_call 80; refine (HL.out _ (by (repeat (with_reducible first | exact Below.refl _ _ | assumption | refine Below.drewN _ ?_ | refine Below.drew ?_ | refine Below_alloc ?_ _ | refine Below.alloc ?_ (by first | (simp; done) | (simp; omega) | omega) _ | refine Below.setCell ?_ (by first | (simp; done) | (simp; omega) | omega) _ | refine Below_call ?_ (by assumption) | refine Below.trans ?_ (by assumption))))).mono ?_; rintro _ w1 ⟨rfl, hb1⟩)
    go_ret2
    rw [HR.out.1, HR.out.2]
    exact ⟨_, rfl, EventsAt.nil _, hb1⟩
  have hok := anyErr_ok hA
  have h12 := hok.1
  rw [hA] at HL
  by_cases hK : keyErrS l.length key = 0
  case neg =>
    have HR : Hid (movScrambled l key = [] ∧ moveErr l key = keyErrS l.length key) := hid (by
      have e := moveErr_two (key := key) hA
      exact ⟨by simp [movScrambled, e, hK], e⟩)
    have hK' : (keyErrS l.length key != 0) = true := by simpa using hK
    have hlc : (l.length : Int) ≤ 12 := by omega
    obtain ⟨ao, cap, rfl, h1, h2, h3⟩ := h.opn
    clear hA h hK hok h3
    go_enter Try.func109, Try.ntmps109
    go_wp2_with (first | (go_at_call 80; refine (HL.out _ (by (repeat (with_reducible first | exact Below.refl _ _ | assumption | refine Below.drewN _ ?_ | refine Below.drew ?_ | refine Below_alloc ?_ _ | refine Below.alloc ?_ (by first | (simp; done) | (simp; omega) | omega) _ | refine Below.setCell ?_ (by first | (simp; done) | (simp; omega) | omega) _ | refine Below_call ?_ (by assumption) | refine Below.trans ?_ (by assumption))))).mono ?_; rintro _ w1 ⟨rfl, hb1⟩) | (go_at_call 112; refine (blind_keyErr _ _ _ hlc).mono ?_; rintro _ _ ⟨rfl, rfl⟩))
    go_ret2
    rw [HR.out.1, HR.out.2]
    exact ⟨_, rfl, EventsAt.nil _, hb1⟩
  obtain ⟨m, rfl, hmf⟩ := keyErrS_ok h12 hK
  have hm := fac_le12 h12
  have hlc : (l.length : Int) ≤ 12 := by omega
  have HR : Hid (movScrambled l m = scrUp l (perm l.length m) l.length ∧ moveErr l m = 0) := hid (by
    have e : moveErr l m = 0 := by rw [moveErr_two hA, hK]
    exact ⟨by simp [movScrambled, e]; rfl, e⟩)
  have HKE : Hid (∀ W, Calls Try.prog 112 #[.int .i64 l.length, .int .i64 m] W fun e w' => e = .returned (.int .i64 0) ∧ W = w') := hid (fun W => by have := blind_keyErr l.length m W hlc; rwa [hK] at this)
  have HPC : Hid (∀ W, Calls Try.prog 113 #[.int .i64 l.length, .int .i64 m] W (RetIntsO W (perm l.length m))) := hid (fun W => blind_permutationO l.length m W h12 (by omega))
  have HPR : Hid (∀ i, i < l.length → ∃ j : Nat, nth (perm l.length m) i = j ∧ j < l.length) := hid (fun i hi => perm_range hi)
  have HCP : Hid (∀ W, Below w.heap.size w W → Calls Try.prog 144 #[v] W (RetOwn W l)) := hid (fun W hW => ev_Clone l v W (h.below hW) (by omega))
  have HCL : Hid (∀ W ov cur i j base, Below w.heap.size w W → OwnEv W base ov cur → cur.length = l.length → i < l.length → j < l.length → Calls Try.prog 110 #[ov, .int .i64 i, .int .i64 j, .pointer (some ⟨B, 0, none⟩)] W fun e w' => e = .returned (.tuple #[]) ∧ OwnEv w' base ov (cur.set i ((evAt cur i).at (evAt l j).t)) ∧ Below base W w' ∧ w'.heap.size = W.heap.size ∧ ∀ b, ov.ownBlock ≠ some b → w'.heap[b]? = W.heap[b]?) :=
    hid (fun W ov cur i j base hW ho hcl hi hj => blind_Scrambled1 l cur v ov i j B base W (h.below hW) ((hW.cell (p := ⟨B, 0, none⟩) hB).trans hbx) ho hcl hi hj)
  have hpl := perm_len l.length m
  obtain ⟨P, hP⟩ : ∃ P, P = perm l.length m := ⟨_, rfl⟩
  rw [← hP] at HPC HPR hpl HR
  have HPL := hid hpl
  obtain ⟨ao, cap, rfl, h1, h2, h3⟩ := h.opn
  unfold maxLen at h2
  clear hA h hK hok h3 hP hpl hmf hbx
  go_enter Try.func109, Try.ntmps109
  go_wp2_with (first | (go_at_call 80; refine (HL.out _ (by (repeat (with_reducible first | exact Below.refl _ _ | assumption | refine Below.drewN _ ?_ | refine Below.drew ?_ | refine Below_alloc ?_ _ | refine Below.alloc ?_ (by first | (simp; done) | (simp; omega) | omega) _ | refine Below.setCell ?_ (by first | (simp; done) | (simp; omega) | omega) _ | refine Below_call ?_ (by assumption) | refine Below.trans ?_ (by assumption))))).mono ?_; rintro _ w1 ⟨rfl, hb1⟩) | (go_at_call 112; refine (HKE.out _).mono ?_; rintro _ _ ⟨rfl, rfl⟩))
  refine (HCP.out _ hb1).mono ?_
  rintro _ w2 ⟨ov, rfl, hown0, hb2⟩
  have hz1 := hb1.size
  have hz2 := hb2.size
  go_wp2_with (go_at_call 113; refine (HPC.out _).mono ?_; rintro _ w3 ⟨pv, rfl, hpo, hb3⟩; obtain ⟨ao2, cap2, rfl, p1, p2, p3⟩ := (ownsRow_ints hpo).opn; clear p3)
  unfold maxLen at p2
  have hz3 := hb3.size
  rw [HPL.out] at p1 hpo
  rw [HPL.out]
  have hown1 : OwnEv w3 w1.heap.size ov l := hown0.below hb3
  have hovb : ∀ g, ov.ownBlock = some g → g < w2.heap.size := fun g hg => (hown0.lt g hg).2
  have hb13 : Below w1.heap.size w1 w3 := hb2.trans (hb3.mono hz2)
  clear hown0 hb2 hb3
  go_loopw [32] (fun i wr => ∃ k : Nat, k ≤ l.length ∧ i = .int .i64 k ∧ OwnEv wr w1.heap.size ov (scrUp l P k) ∧ Below w1.heap.size w1 wr ∧ w3.heap.size ≤ wr.heap.size ∧ Hid (∀ b, b < w3.heap.size → ov.ownBlock ≠ some b → wr.heap[b]? = w3.heap[b]?)) (fun i _ => l.length - (intOf i).toNat)
  case atStart => exact ⟨0, Nat.zero_le _, rfl, hown1, hb13, Nat.le_refl _, hid (fun _ _ _ => rfl)⟩
  case round =>
    obtain ⟨k, hk, rfl, hown, hbel, hsz, HOTH⟩ := hrel
    have hzw := hbel.size
    have hB : Below w.heap.size w wr := hb1.trans (hbel.mono hz1)
    by_cases hlt : k < l.length
    · obtain ⟨j, hj, hjl⟩ := HPR.out k hlt
      obtain ⟨gp, cp, e, o1, o2, o3, o4, o5, o6, o7⟩ := ownsRow_open hpo (by omega)
      cases e
      have q0 := o6 k hlt
      have hnb : ov.ownBlock ≠ some gp := fun e => by have := hovb gp e; omega
      have q1 := (cell_of_heap (o := k) (HOTH.out gp o2 hnb)).trans q0
      rw [show P.getD k 0 = (j : Int) from hj] at q1
      have hul := scrUp_len l P k
      have HUS : Hid (scrUp l P (k + 1) = (scrUp l P k).set k ((evAt (scrUp l P k) k).at (evAt l j).t)) := hid (by rw [scrUp, hj]; rfl)
      have hgpw : gp < wr.heap.size := by omega
      have HB := hid hB
      have HOWN := hid hown
      have HLT := hid hlt
      have HJL := hid hjl
      have HUL := hid hul
      have hkc : (k : Int) < l.length := by omega
      clear o1 o5 o6 o7 q0 hj hul hown hpo hown1
      go_wp2_with (go_at_call 110; refine (HCL.out _ _ _ _ _ _ HB.out HOWN.out HUL.out HLT.out HJL.out).mono ?_; rintro _ w4 ⟨rfl, ho4, hb4, hs4, hoth4⟩)
      go_roundw
      case rel =>
        refine ⟨k + 1, by omega, by go_num, by rw [HUS.out]; exact ho4, hbel.trans hb4, by omega, hid (fun b hb hne => (hoth4 b hne).trans (HOTH.out b hb hne))⟩
      case measure => simp [intOf]; omega
    · have hkl : k = l.length := by omega
      go_wp2_with fail
      go_ret2
      rw [HR.out.1, HR.out.2, ← hkl]
      exact ⟨_, rfl, OwnEv.at hown, hB⟩

theorem blind_Scrambled (l : List Ev) (v : Value) (key : Int) (w : World) (h : EventsAt w v l) :
    Calls Try.prog 56 #[v, .int .i64 key] w (RetEvE w (movScrambled l key) (moveErr l key)) := by
  have hmf : ∀ (fn : Fn) (first cap : Array Value) (w : World), (Instr.makeFunc fn first cap).run Try.prog w = .ok (.func fn first cap) w := fun _ _ _ _ => rfl
  have HC : Hid (∀ W B, Below w.heap.size w W → B < W.heap.size → W.cell? ⟨B, 0, none⟩ = some v → Calls Try.prog 109 #[v, .int .i64 key, .func (.func 110) #[] #[.pointer (some ⟨B, 0, none⟩)]] W (RetEvE W (movScrambled l key) (moveErr l key))) := hid (fun W B hW hB hc => moved_Scrambled l v key B W (h.below hW) hB hc)
  obtain ⟨ao, cap, rfl, h1, h2, h3⟩ := h.opn
  clear h h3
  go_enter Try.func56, Try.ntmps56
  go_wp2_with (go_at_call 109; refine (HC.out _ w.heap.size (by (repeat (with_reducible first | exact Below.refl _ _ | assumption | refine Below.drewN _ ?_ | refine Below.drew ?_ | refine Below_alloc ?_ _ | refine Below.alloc ?_ (by first | (simp; done) | (simp; omega) | omega) _ | refine Below.setCell ?_ (by first | (simp; done) | (simp; omega) | omega) _ | refine Below_call ?_ (by assumption) | refine Below.trans ?_ (by assumption)))) (by simp) (by simp)).mono ?_; rintro _ w1 ⟨v1, rfl, hv1, hb1⟩)
  go_ret2
  exact ⟨v1, rfl, hv1, by (repeat (with_reducible first | exact Below.refl _ _ | assumption | refine Below.drewN _ ?_ | refine Below.drew ?_ | refine Below_alloc ?_ _ | refine Below.alloc ?_ (by first | (simp; done) | (simp; omega) | omega) _ | refine Below.setCell ?_ (by first | (simp; done) | (simp; omega) | omega) _ | refine Below_call ?_ (by assumption) | refine Below.trans ?_ (by assumption)))⟩


set_option maxRecDepth 100000 in
set_option maxHeartbeats 1000000 in
theorem blind_Unscrambled1 (l cur : List Ev) (sv ov : Value) (i j B base : Nat) (w : World) (hs : EventsAt w sv l) (hbx : w.cell? ⟨B, 0, none⟩ = some sv) (hown : OwnEv w base ov cur) (hl : cur.length = l.length) (hi : i < l.length) (hj : j < l.length) :
    Calls Try.prog 111 #[ov, .int .i64 i, .int .i64 j, .pointer (some ⟨B, 0, none⟩)] w fun e w' => e = .returned (.tuple #[]) ∧ OwnEv w' base ov (cur.set j ((evAt cur j).at (evAt l i).t)) ∧ Below base w w' ∧ w'.heap.size = w.heap.size ∧ ∀ b, ov.ownBlock ≠ some b → w'.heap[b]? = w.heap[b]? := by
  obtain ⟨ao, cap, rfl, h1, h2, h3⟩ := hs.opn
  obtain ⟨b, off, rfl, hb, hc⟩ := h3 i hi
  have c0 := (hc i hi).1
  obtain ⟨g, cap3, rfl, hbg, hgs, g1, g2, g3, g4⟩ := hown.shape (by omega)
  have hold := g3 j (by omega)
  have hfr := g4 (j * 4)
  have HSET := hid (hown.setT (i := j) (by omega) (evAt l i).t)
  have hi' : (i : Int) < l.length := by omega
  have hj' : (j : Int) < l.length := by omega
  unfold maxLen at h2 g2
  rw [hl] at g1 ⊢
  rw [hl] at HSET
  clear hc h3 g3 g4 hown hs
  go_enter Try.func111, Try.ntmps111
  go_wp2_with fail
  exact bodyPost_end (results_none rfl _ _ _) rfl ⟨rfl, HSET.out, (Below.refl _ _).setCell hbg _, by simp, fun b hne => heap_setCell_other _ _ _ _ (fun e => hne (by rw [e]; rfl))⟩

def movUnscrambled (l : List Ev) (key : Int) : List Ev := if moveErr l key = 0 then uns l key.toNat else []

set_option maxRecDepth 100000 in
set_option maxHeartbeats 2000000 in
theorem moved_Unscrambled (l : List Ev) (v : Value) (key : Int) (B : Nat) (w : World) (h : EventsAt w v l) (hB : B < w.heap.size) (hbx : w.cell? ⟨B, 0, none⟩ = some v) :
    Calls Try.prog 109 #[v, .int .i64 key, .func (.func 111) #[] #[.pointer (some ⟨B, 0, none⟩)]] w (RetEvE w (movUnscrambled l key) (moveErr l key)) := by
  have HL : Hid (∀ W, Below w.heap.size w W → Calls Try.prog 80 #[v] W fun e w' => e = .returned (.int .i64 (anyErr l)) ∧ Below W.heap.size W w') := hid (fun W hW => blind_looseErr l v W (h.below hW))
  by_cases hA : anyErr l = 0
  case neg =>
    have HR : Hid (movUnscrambled l key = [] ∧ moveErr l key = anyErr l) := hid (by
      have e := moveErr_one (key := key) hA
      exact ⟨by simp [movUnscrambled, e, hA], e⟩)
    have hA' : (anyErr l != 0) = true := by simpa using hA
    clear hA h
    go_enter Try.func109, Try.ntmps109
    go_wp2_with (go_at_call 80; refine (HL.out _ (by (repeat (with_reducible first | exact Below.refl _ _ | assumption | refine Below.drewN _ ?_ | refine Below.drew ?_ | refine Below_alloc ?_ _ | refine Below.alloc ?_ (by first | (simp; done) | (simp; omega) | omega) _ | refine Below.setCell ?_ (by first | (simp; done) | (simp; omega) | omega) _ | refine Below_call ?_ (by assumption) | refine Below.trans ?_ (by assumption))))).mono ?_; rintro _ w1 ⟨rfl, hb1⟩)
    go_ret2
    rw [HR.out.1, HR.out.2]
    exact ⟨_, rfl, EventsAt.nil _, hb1⟩
  have hok := anyErr_ok hA
  have h12 := hok.1
  rw [hA] at HL
  by_cases hK : keyErrS l.length key = 0
  case neg =>
    have HR : Hid (movUnscrambled l key = [] ∧ moveErr l key = keyErrS l.length key) := hid (by
      have e := moveErr_two (key := key) hA
      exact ⟨by simp [movUnscrambled, e, hK], e⟩)
    have hK' : (keyErrS l.length key != 0) = true := by simpa using hK
    have hlc : (l.length : Int) ≤ 12 := by omega
    obtain ⟨ao, cap, rfl, h1, h2, h3⟩ := h.opn
    clear hA h hK hok h3
    go_enter Try.func109, Try.ntmps109
    go_wp2_with (first | (go_at_call 80; refine (HL.out _ (by (repeat (with_reducible first | exact Below.refl _ _ | assumption | refine Below.drewN _ ?_ | refine Below.drew ?_ | refine Below_alloc ?_ _ | refine Below.alloc ?_ (by first | (simp; done) | (simp; omega) | omega) _ | refine Below.setCell ?_ (by first | (simp; done) | (simp; omega) | omega) _ | refine Below_call ?_ (by assumption) | refine Below.trans ?_ (by assumption))))).mono ?_; rintro _ w1 ⟨rfl, hb1⟩) | (go_at_call 112; refine (blind_keyErr _ _ _ hlc).mono ?_; rintro _ _ ⟨rfl, rfl⟩))
    go_ret2
    rw [HR.out.1, HR.out.2]
    exact ⟨_, rfl, EventsAt.nil _, hb1⟩
  obtain ⟨m, rfl, hmf⟩ := keyErrS_ok h12 hK
  have hm := fac_le12 h12
  have hlc : (l.length : Int) ≤ 12 := by omega
  have HR : Hid (movUnscrambled l m = unsUp l (perm l.length m) l.length ∧ moveErr l m = 0) := hid (by
    have e : moveErr l m = 0 := by rw [moveErr_two hA, hK]
    exact ⟨by simp [movUnscrambled, e]; rfl, e⟩)
  have HKE : Hid (∀ W, Calls Try.prog 112 #[.int .i64 l.length, .int .i64 m] W fun e w' => e = .returned (.int .i64 0) ∧ W = w') := hid (fun W => by have := blind_keyErr l.length m W hlc; rwa [hK] at this)
  have HPC : Hid (∀ W, Calls Try.prog 113 #[.int .i64 l.length, .int .i64 m] W (RetIntsO W (perm l.length m))) := hid (fun W => blind_permutationO l.length m W h12 (by omega))
  have HPR : Hid (∀ i, i < l.length → ∃ j : Nat, nth (perm l.length m) i = j ∧ j < l.length) := hid (fun i hi => perm_range hi)
  have HCP : Hid (∀ W, Below w.heap.size w W → Calls Try.prog 144 #[v] W (RetOwn W l)) := hid (fun W hW => ev_Clone l v W (h.below hW) (by omega))
  have HCL : Hid (∀ W ov cur i j base, Below w.heap.size w W → OwnEv W base ov cur → cur.length = l.length → i < l.length → j < l.length → Calls Try.prog 111 #[ov, .int .i64 i, .int .i64 j, .pointer (some ⟨B, 0, none⟩)] W fun e w' => e = .returned (.tuple #[]) ∧ OwnEv w' base ov (cur.set j ((evAt cur j).at (evAt l i).t)) ∧ Below base W w' ∧ w'.heap.size = W.heap.size ∧ ∀ b, ov.ownBlock ≠ some b → w'.heap[b]? = W.heap[b]?) :=
    hid (fun W ov cur i j base hW ho hcl hi hj => blind_Unscrambled1 l cur v ov i j B base W (h.below hW) ((hW.cell (p := ⟨B, 0, none⟩) hB).trans hbx) ho hcl hi hj)
  have hpl := perm_len l.length m
  obtain ⟨P, hP⟩ : ∃ P, P = perm l.length m := ⟨_, rfl⟩
  rw [← hP] at HPC HPR hpl HR
  have HPL := hid hpl
  obtain ⟨ao, cap, rfl, h1, h2, h3⟩ := h.opn
  unfold maxLen at h2
  clear hA h hK hok h3 hP hpl hmf hbx
  go_enter Try.func109, Try.ntmps109
  go_wp2_with (first | (go_at_call 80; refine (HL.out _ (by (repeat (with_reducible first | exact Below.refl _ _ | assumption | refine Below.drewN _ ?_ | refine Below.drew ?_ | refine Below_alloc ?_ _ | refine Below.alloc ?_ (by first | (simp; done) | (simp; omega) | omega) _ | refine Below.setCell ?_ (by first | (simp; done) | (simp; omega) | omega) _ | refine Below_call ?_ (by assumption) | refine Below.trans ?_ (by assumption))))).mono ?_; rintro _ w1 ⟨rfl, hb1⟩) | (go_at_call 112; refine (HKE.out _).mono ?_; rintro _ _ ⟨rfl, rfl⟩))
  refine (HCP.out _ hb1).mono ?_
  rintro _ w2 ⟨ov, rfl, hown0, hb2⟩
  have hz1 := hb1.size
  have hz2 := hb2.size
  go_wp2_with (go_at_call 113; refine (HPC.out _).mono ?_; rintro _ w3 ⟨pv, rfl, hpo, hb3⟩; obtain ⟨ao2, cap2, rfl, p1, p2, p3⟩ := (ownsRow_ints hpo).opn; clear p3)
  unfold maxLen at p2
  have hz3 := hb3.size
  rw [HPL.out] at p1 hpo
  rw [HPL.out]
  have hown1 : OwnEv w3 w1.heap.size ov l := hown0.below hb3
  have hovb : ∀ g, ov.ownBlock = some g → g < w2.heap.size := fun g hg => (hown0.lt g hg).2
  have hb13 : Below w1.heap.size w1 w3 := hb2.trans (hb3.mono hz2)
  clear hown0 hb2 hb3
  go_loopw [32] (fun i wr => ∃ k : Nat, k ≤ l.length ∧ i = .int .i64 k ∧ OwnEv wr w1.heap.size ov (unsUp l P k) ∧ Below w1.heap.size w1 wr ∧ w3.heap.size ≤ wr.heap.size ∧ Hid (∀ b, b < w3.heap.size → ov.ownBlock ≠ some b → wr.heap[b]? = w3.heap[b]?)) (fun i _ => l.length - (intOf i).toNat)
  case atStart => exact ⟨0, Nat.zero_le _, rfl, hown1, hb13, Nat.le_refl _, hid (fun _ _ _ => rfl)⟩
  case round =>
    obtain ⟨k, hk, rfl, hown, hbel, hsz, HOTH⟩ := hrel
    have hzw := hbel.size
    have hB : Below w.heap.size w wr := hb1.trans (hbel.mono hz1)
    by_cases hlt : k < l.length
    · obtain ⟨j, hj, hjl⟩ := HPR.out k hlt
      obtain ⟨gp, cp, e, o1, o2, o3, o4, o5, o6, o7⟩ := ownsRow_open hpo (by omega)
      cases e
      have q0 := o6 k hlt
      have hnb : ov.ownBlock ≠ some gp := fun e => by have := hovb gp e; omega
      have q1 := (cell_of_heap (o := k) (HOTH.out gp o2 hnb)).trans q0
      rw [show P.getD k 0 = (j : Int) from hj] at q1
      have hul := unsUp_len l P k
      have HUS : Hid (unsUp l P (k + 1) = (unsUp l P k).set j ((evAt (unsUp l P k) j).at (evAt l k).t)) := hid (by rw [unsUp, hj]; rfl)
      have hgpw : gp < wr.heap.size := by omega
      have HB := hid hB
      have HOWN := hid hown
      have HLT := hid hlt
      have HJL := hid hjl
      have HUL := hid hul
      have hkc : (k : Int) < l.length := by omega
      clear o1 o5 o6 o7 q0 hj hul hown hpo hown1
      go_wp2_with (go_at_call 111; refine (HCL.out _ _ _ _ _ _ HB.out HOWN.out HUL.out HLT.out HJL.out).mono ?_; rintro _ w4 ⟨rfl, ho4, hb4, hs4, hoth4⟩)
      go_roundw
      case rel =>
        refine ⟨k + 1, by omega, by go_num, by rw [HUS.out]; exact ho4, hbel.trans hb4, by omega, hid (fun b hb hne => (hoth4 b hne).trans (HOTH.out b hb hne))⟩
      case measure => simp [intOf]; omega
    · have hkl : k = l.length := by omega
      go_wp2_with fail
      go_ret2
      rw [HR.out.1, HR.out.2, ← hkl]
      exact ⟨_, rfl, OwnEv.at hown, hB⟩

theorem blind_Unscrambled (l : List Ev) (v : Value) (key : Int) (w : World) (h : EventsAt w v l) :
    Calls Try.prog 57 #[v, .int .i64 key] w (RetEvE w (movUnscrambled l key) (moveErr l key)) := by
  have hmf : ∀ (fn : Fn) (first cap : Array Value) (w : World), (Instr.makeFunc fn first cap).run Try.prog w = .ok (.func fn first cap) w := fun _ _ _ _ => rfl
  have HC : Hid (∀ W B, Below w.heap.size w W → B < W.heap.size → W.cell? ⟨B, 0, none⟩ = some v → Calls Try.prog 109 #[v, .int .i64 key, .func (.func 111) #[] #[.pointer (some ⟨B, 0, none⟩)]] W (RetEvE W (movUnscrambled l key) (moveErr l key))) := hid (fun W B hW hB hc => moved_Unscrambled l v key B W (h.below hW) hB hc)
  obtain ⟨ao, cap, rfl, h1, h2, h3⟩ := h.opn
  clear h h3
  go_enter Try.func57, Try.ntmps57
  go_wp2_with (go_at_call 109; refine (HC.out _ w.heap.size (by (repeat (with_reducible first | exact Below.refl _ _ | assumption | refine Below.drewN _ ?_ | refine Below.drew ?_ | refine Below_alloc ?_ _ | refine Below.alloc ?_ (by first | (simp; done) | (simp; omega) | omega) _ | refine Below.setCell ?_ (by first | (simp; done) | (simp; omega) | omega) _ | refine Below_call ?_ (by assumption) | refine Below.trans ?_ (by assumption)))) (by simp) (by simp)).mono ?_; rintro _ w1 ⟨v1, rfl, hv1, hb1⟩)
  go_ret2
  exact ⟨v1, rfl, hv1, by (repeat (with_reducible first | exact Below.refl _ _ | assumption | refine Below.drewN _ ?_ | refine Below.drew ?_ | refine Below_alloc ?_ _ | refine Below.alloc ?_ (by first | (simp; done) | (simp; omega) | omega) _ | refine Below.setCell ?_ (by first | (simp; done) | (simp; omega) | omega) _ | refine Below_call ?_ (by assumption) | refine Below.trans ?_ (by assumption)))⟩

end Go.Proofs.Ytllddidjiabegaa
