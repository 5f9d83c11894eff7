/- Tracks: the check of boxes by the program. -/
import Derived.Test.YtlmdmpjfehpjeaaL10
set_option linter.unusedVariables false
set_option linter.unusedSimpArgs false
namespace Go.Proofs.Ytlmdmpjfehpjeaa
open Go.RowKit

def TBox.v (b : TBox) : Value := .agg #[.int .i64 b.lo.x, .int .i64 b.lo.y, .int .i64 b.lo.z, .int .i64 b.hi.x, .int .i64 b.hi.y, .int .i64 b.hi.z]
theorem six_row {w : World} {g : Nat} {x y z u v s : Value} {t : TypeId} (h : w.heap[g]? = some (.cells #[x, y, z, u, v, s] t (0, 0))) :
    w.cell? ⟨g, 0, none⟩ = some x ∧ w.cell? ⟨g, 1, none⟩ = some y ∧ w.cell? ⟨g, 2, none⟩ = some z ∧ w.cell? ⟨g, 3, none⟩ = some u ∧ w.cell? ⟨g, 4, none⟩ = some v ∧ w.cell? ⟨g, 5, none⟩ = some s ∧ g < w.heap.size := by
  refine ⟨?_, ?_, ?_, ?_, ?_, ?_, (Array.getElem?_eq_some_iff.1 h).1⟩
  · rw [cell_of_row w g 0 _ t (0, 0) h]; rfl
  · rw [cell_of_row w g 1 _ t (0, 0) h]; rfl
  · rw [cell_of_row w g 2 _ t (0, 0) h]; rfl
  · rw [cell_of_row w g 3 _ t (0, 0) h]; rfl
  · rw [cell_of_row w g 4 _ t (0, 0) h]; rfl
  · rw [cell_of_row w g 5 _ t (0, 0) h]; rfl
theorem count_nums {b : TBox} (hl : b.lo.inS 20 = true) (hh : b.hi.inS 20 = true) (ho : b.ok) :
    ∃ A X Y Z Y1 Z1 X1 P, IntKind.i64.wrap (b.hi.x - b.lo.x) = X1 ∧ IntKind.i64.wrap (X1 + 1) = X ∧ IntKind.i64.wrap (1 * X) = A ∧ A = X ∧ IntKind.i64.wrap (b.hi.y - b.lo.y) = Y1 ∧ IntKind.i64.wrap (Y1 + 1) = Y ∧ IntKind.i64.wrap (X * Y) = P ∧ IntKind.i64.wrap (b.hi.z - b.lo.z) = Z1 ∧ IntKind.i64.wrap (Z1 + 1) = Z ∧ IntKind.i64.wrap (P * Z) = b.count := by
  obtain ⟨⟨a1, a1'⟩, ⟨a2, a2'⟩, ⟨a3, a3'⟩⟩ := inS_iff.1 hl
  obtain ⟨⟨b1, b1'⟩, ⟨b2, b2'⟩, ⟨b3, b3'⟩⟩ := inS_iff.1 hh
  have h1 := mul_rg (x := b.hi.x - b.lo.x + 1) (y := b.hi.y - b.lo.y + 1) (A := 41) (B := 41) (C := 1681) (by omega) (by omega) (by decide)
  have h2 := mul_rg (x := (b.hi.x - b.lo.x + 1) * (b.hi.y - b.lo.y + 1)) (y := b.hi.z - b.lo.z + 1) (A := 1681) (B := 41) (C := 68921) h1 (by omega) (by decide)
  refine ⟨b.hi.x - b.lo.x + 1, b.hi.x - b.lo.x + 1, b.hi.y - b.lo.y + 1, b.hi.z - b.lo.z + 1, b.hi.y - b.lo.y, b.hi.z - b.lo.z, b.hi.x - b.lo.x, (b.hi.x - b.lo.x + 1) * (b.hi.y - b.lo.y + 1), IntWalk.i64_in _ (by omega), IntWalk.i64_in _ (by omega), ?_, rfl, IntWalk.i64_in _ (by omega), IntWalk.i64_in _ (by omega), IntWalk.i64_in _ (by omega), IntWalk.i64_in _ (by omega), IntWalk.i64_in _ (by omega), ?_⟩
  · rw [Int.one_mul]; exact IntWalk.i64_in _ (by omega)
  · exact IntWalk.i64_in _ (by omega)

set_option maxRecDepth 100000 in
set_option maxHeartbeats 4000000 in
theorem track_count (b : TBox) (w : World) (hl : b.lo.inS 20 = true) (hh : b.hi.inS 20 = true) (ho : b.ok) :
    Calls Try.prog 103 #[b.v] w fun e w' => e = .returned (.int .i64 b.count) ∧ Below w.heap.size w w' := by
  obtain ⟨A, X, Y, Z, Y1, Z1, X1, P, k0, k1, k2, k3, k4, k5, k6, k7, k8, k9⟩ := count_nums hl hh ho
  subst k3
  have k2' : IntKind.i64.wrap A = A := by rw [Int.one_mul] at k2; exact k2
  generalize b.count = C at k9 ⊢
  obtain ⟨⟨lx, ly, lz⟩, ⟨hx, hy, hz⟩⟩ := b
  unfold TBox.v
  simp only at *
  clear hl hh ho
  obtain ⟨W, hW⟩ : ∃ W, W = w.alloc (.cells #[.int .i64 lx, .int .i64 ly, .int .i64 lz, .int .i64 hx, .int .i64 hy, .int .i64 hz] 75) := ⟨_, rfl⟩
  have hbW : Below w.heap.size w W := by rw [hW]; (repeat (with_reducible first | exact Below.refl _ _ | assumption | refine Below.drewN _ ?_ | refine Below.drew ?_ | refine Below_alloc ?_ _ | refine Below.alloc ?_ (by first | (simp; done) | (simp; omega) | omega) _ | refine Below.setCell ?_ (by first | (simp; done) | (simp; omega) | omega) _ | refine Below_call ?_ (by assumption) | refine Below.trans ?_ (by assumption)))
  have q0 : W.heap[w.heap.size]? = some (.cells #[.int .i64 lx, .int .i64 ly, .int .i64 lz, .int .i64 hx, .int .i64 hy, .int .i64 hz] 75 (0, 0)) := by rw [hW]; exact heap_alloc_new w _
  have l0 := (Array.getElem?_eq_some_iff.1 q0).1
  have Q0 := hid q0
  clear q0
  have hzW := hbW.size
  go_enter Try.func103, Try.ntmps103
  go_wp2_with fail
  rw [← hW]
  clear hW
  go_loopw [3, 5] (fun n i wr => ∃ (k : Nat) (N : Int), k ≤ 3 ∧ i = .int .i64 k ∧ n = .int .i64 N ∧ Hid ((k = 0 → N = 1) ∧ (k = 1 → N = A) ∧ (k = 2 → N = P) ∧ (k = 3 → N = C)) ∧ Below W.heap.size W wr) (fun _ i _ => 3 - (intOf i).toNat)
  case atStart => exact ⟨0, 1, by omega, rfl, rfl, hid ⟨fun _ => rfl, by omega, by omega, by omega⟩, Below.refl _ _⟩
  case round =>
    obtain ⟨k, N, hk, rfl, rfl, HN, hbel⟩ := hrel
    obtain ⟨c0, c1, c2, c3, c4, c5, hlc⟩ := six_row ((hbel.block w.heap.size l0).trans Q0.out)
    have hbx : Below w.heap.size w wr := hbW.trans (hbel.mono hzW)
    rcases (by omega : k = 0 ∨ k = 1 ∨ k = 2 ∨ k = 3) with rfl | rfl | rfl | rfl
    · obtain rfl := HN.out.1 rfl
      go_wp2_with fail
      refine wp_mixC (fun wc => Below (wr.heap.size) wr wc) 12 [.q [0, 1, 2, 3, 4, 5, 6, 7, 8, 9, 10, 11]] [.q [12]] (by kernel_rfl) (by kernel_rfl) ((Below.refl _ _).drew) ?_
      intro Q' hQ'
      (rw [wpMixC]; simp only [pick, List.drop_succ_cons, List.drop_zero, List.head?_cons, Option.toList_some, List.cons_append, List.nil_append])
      (repeat (first | go_big_quiet_skip | (go_big_quiet_want; refine quiet_simple rfl ?_; go_big_quiet_op; go_big_quiet_on) | (go_big_quiet_want; refine quiet_cellB (ty := 3) rfl rfl (by kernel_rfl) (by assumption) (by first | omega | (simp; omega)) ?_; simp only [Act.put, List.setIfInBounds_toArray, List.set_cons_succ, List.set_cons_zero]; go_big_quiet_on)))
      (try refine wpQuiet_nil ?_)
      (rw [wpMixC])
      (rw [wpMix]; simp only [pick, List.drop_succ_cons, List.drop_zero, List.head?_cons, Option.toList_some, List.cons_append, List.nil_append])
      (repeat (first | (go_big_quiet_step (fail)) | (quiet_step (fail))))
      (try refine wpQuiet_nil ?_)
      (rw [wpMix])
      (refine hQ' _ _ ?_)
      go_wp2_with fail
      go_roundw
      case rel => exact ⟨1, A, by omega, by go_num, rfl, hid ⟨by omega, fun _ => rfl, by omega, by omega⟩, hbel.trans (((Below.refl _ _).drew).mono hbel.size)⟩
      case measure => simp [intOf]
    · obtain rfl := HN.out.2.1 rfl
      go_wp2_with fail
      refine wp_mixC (fun wc => Below (wr.heap.size) wr wc) 12 [.q [0, 1, 2, 3, 4, 5, 6, 7, 8, 9, 10, 11]] [.q [12]] (by kernel_rfl) (by kernel_rfl) ((Below.refl _ _).drew) ?_
      intro Q' hQ'
      (rw [wpMixC]; simp only [pick, List.drop_succ_cons, List.drop_zero, List.head?_cons, Option.toList_some, List.cons_append, List.nil_append])
      (repeat (first | go_big_quiet_skip | (go_big_quiet_want; refine quiet_simple rfl ?_; go_big_quiet_op; go_big_quiet_on) | (go_big_quiet_want; refine quiet_cellB (ty := 3) rfl rfl (by kernel_rfl) (by assumption) (by first | omega | (simp; omega)) ?_; simp only [Act.put, List.setIfInBounds_toArray, List.set_cons_succ, List.set_cons_zero]; go_big_quiet_on)))
      (try refine wpQuiet_nil ?_)
      (rw [wpMixC])
      (rw [wpMix]; simp only [pick, List.drop_succ_cons, List.drop_zero, List.head?_cons, Option.toList_some, List.cons_append, List.nil_append])
      (repeat (first | (go_big_quiet_step (fail)) | (quiet_step (fail))))
      (try refine wpQuiet_nil ?_)
      (rw [wpMix])
      (refine hQ' _ _ ?_)
      go_wp2_with fail
      go_roundw
      case rel => exact ⟨2, P, by omega, by go_num, rfl, hid ⟨by omega, by omega, fun _ => rfl, by omega⟩, hbel.trans (((Below.refl _ _).drew).mono hbel.size)⟩
      case measure => simp [intOf]
    · obtain rfl := HN.out.2.2.1 rfl
      go_wp2_with fail
      refine wp_mixC (fun wc => Below (wr.heap.size) wr wc) 12 [.q [0, 1, 2, 3, 4, 5, 6, 7, 8, 9, 10, 11]] [.q [12]] (by kernel_rfl) (by kernel_rfl) ((Below.refl _ _).drew) ?_
      intro Q' hQ'
      (rw [wpMixC]; simp only [pick, List.drop_succ_cons, List.drop_zero, List.head?_cons, Option.toList_some, List.cons_append, List.nil_append])
      (repeat (first | go_big_quiet_skip | (go_big_quiet_want; refine quiet_simple rfl ?_; go_big_quiet_op; go_big_quiet_on) | (go_big_quiet_want; refine quiet_cellB (ty := 3) rfl rfl (by kernel_rfl) (by assumption) (by first | omega | (simp; omega)) ?_; simp only [Act.put, List.setIfInBounds_toArray, List.set_cons_succ, List.set_cons_zero]; go_big_quiet_on)))
      (try refine wpQuiet_nil ?_)
      (rw [wpMixC])
      (rw [wpMix]; simp only [pick, List.drop_succ_cons, List.drop_zero, List.head?_cons, Option.toList_some, List.cons_append, List.nil_append])
      (repeat (first | (go_big_quiet_step (fail)) | (quiet_step (fail))))
      (try refine wpQuiet_nil ?_)
      (rw [wpMix])
      (refine hQ' _ _ ?_)
      go_wp2_with fail
      go_roundw
      case rel => exact ⟨3, C, by omega, by go_num, rfl, hid ⟨by omega, by omega, by omega, fun _ => rfl⟩, hbel.trans (((Below.refl _ _).drew).mono hbel.size)⟩
      case measure => simp [intOf]
    · obtain rfl := HN.out.2.2.2 rfl
      go_wp2_with fail
      go_ret
      exact ⟨rfl, hbx⟩
theorem boxE_cases (b : TBox) : ((b.lo.inS 20 && b.hi.inS 20) = false → b.err = 2) ∧ ((b.lo.inS 20 && b.hi.inS 20) = true → ¬ b.ok → b.err = 9) ∧ ((b.lo.inS 20 && b.hi.inS 20) = true → b.ok → b.err = unl (decide (b.count ≤ 700)) 8) := by
  unfold TBox.err
  refine ⟨fun h => by simp [firstNZ, h, unl], fun h h2 => ?_, fun h h2 => ?_⟩
  · have : (decide (b.lo.x ≤ b.hi.x) && decide (b.lo.y ≤ b.hi.y) && decide (b.lo.z ≤ b.hi.z)) = false := by
      apply Bool.eq_false_iff.2
      intro e
      simp only [Bool.and_eq_true, decide_eq_true_eq] at e
      exact h2 ⟨e.1.1, e.1.2, e.2⟩
    rw [h, this]; rfl
  · have : (decide (b.lo.x ≤ b.hi.x) && decide (b.lo.y ≤ b.hi.y) && decide (b.lo.z ≤ b.hi.z)) = true := by
      simp only [Bool.and_eq_true, decide_eq_true_eq]
      exact ⟨⟨h2.1, h2.2.1⟩, h2.2.2⟩
    rw [h, this]; cases decide (b.count ≤ 700) <;> rfl
set_option maxRecDepth 100000 in
set_option maxHeartbeats 8000000 in
theorem track_CheckBox (b : TBox) (w : World) :
    Calls Try.prog 47 #[b.v] w fun e w' => e = .returned (.int .i64 b.err) ∧ Below w.heap.size w w' := by
  have HE := hid (boxE_cases b)
  have HFL : Hid (∀ W, Calls Try.prog 102 #[b.lo.v, .int .i64 20] W fun e w' => e = .returned (.bool (b.lo.inS 20)) ∧ Below W.heap.size W w') := hid (fun W => track_fits b.lo 20 W (by omega) (by omega))
  have HFH : Hid (∀ W, Calls Try.prog 102 #[b.hi.v, .int .i64 20] W fun e w' => e = .returned (.bool (b.hi.inS 20)) ∧ Below W.heap.size W w') := hid (fun W => track_fits b.hi 20 W (by omega) (by omega))
  have HC : Hid (b.lo.inS 20 = true → b.hi.inS 20 = true → b.ok → ∀ W, Calls Try.prog 103 #[b.v] W fun e w' => e = .returned (.int .i64 b.count) ∧ Below W.heap.size W w') := hid (fun h1 h2 h3 W => track_count b W h1 h2 h3)
  have HOK : Hid (b.ok ↔ b.lo.x ≤ b.hi.x ∧ b.lo.y ≤ b.hi.y ∧ b.lo.z ≤ b.hi.z) := hid Iff.rfl
  generalize b.err = E at HE ⊢
  generalize b.lo.inS 20 = L at HE HFL HC
  generalize b.hi.inS 20 = H at HE HFH HC
  generalize b.count = C at HE HC
  generalize b.ok = OK at HE HC HOK
  obtain ⟨⟨lx, ly, lz⟩, ⟨hx, hy, hz⟩⟩ := b
  unfold TBox.v V3.v at *
  simp only at *
  obtain ⟨W, hW⟩ : ∃ W, W = w.alloc (.cells #[.int .i64 lx, .int .i64 ly, .int .i64 lz, .int .i64 hx, .int .i64 hy, .int .i64 hz] 75) := ⟨_, rfl⟩
  have hbW : Below w.heap.size w W := by rw [hW]; (repeat (with_reducible first | exact Below.refl _ _ | assumption | refine Below.drewN _ ?_ | refine Below.drew ?_ | refine Below_alloc ?_ _ | refine Below.alloc ?_ (by first | (simp; done) | (simp; omega) | omega) _ | refine Below.setCell ?_ (by first | (simp; done) | (simp; omega) | omega) _ | refine Below_call ?_ (by assumption) | refine Below.trans ?_ (by assumption)))
  have q0 : W.heap[w.heap.size]? = some (.cells #[.int .i64 lx, .int .i64 ly, .int .i64 lz, .int .i64 hx, .int .i64 hy, .int .i64 hz] 75 (0, 0)) := by rw [hW]; exact heap_alloc_new w _
  have l0 := (Array.getElem?_eq_some_iff.1 q0).1
  have Q0 := hid q0
  clear q0
  have hzW := hbW.size
  cases L
  · have HV : Hid (E = 2) := hid (HE.out.1 rfl)
    go_enter Try.func47, Try.ntmps47
    go_wp2_with (go_at_call 102; refine (HFL.out _).mono ?_; rintro _ w1 ⟨rfl, hb1⟩)
    go_ret
    exact ⟨ret_int HV.out.symm, by (repeat (with_reducible first | exact Below.refl _ _ | assumption | refine Below.drewN _ ?_ | refine Below.drew ?_ | refine Below_alloc ?_ _ | refine Below.alloc ?_ (by first | (simp; done) | (simp; omega) | omega) _ | refine Below.setCell ?_ (by first | (simp; done) | (simp; omega) | omega) _ | refine Below_call ?_ (by assumption) | refine Below.trans ?_ (by assumption)))⟩
  cases H
  · have HV : Hid (E = 2) := hid (HE.out.1 rfl)
    go_enter Try.func47, Try.ntmps47
    go_wp2_with (first | (go_at_call 102; ((with_reducible refine (HFL.out _).mono ?_); rintro _ w1 ⟨rfl, hb1⟩); obtain ⟨c0, c1, c2, c3, c4, c5, hlc⟩ := six_row ((hb1.block w.heap.size (by simp)).trans (heap_alloc_new w _))) | (go_at_call 102; ((with_reducible refine (HFH.out _).mono ?_); rintro _ w2 ⟨rfl, hb2⟩)))
    go_ret
    exact ⟨ret_int HV.out.symm, by (repeat (with_reducible first | exact Below.refl _ _ | assumption | refine Below.drewN _ ?_ | refine Below.drew ?_ | refine Below_alloc ?_ _ | refine Below.alloc ?_ (by first | (simp; done) | (simp; omega) | omega) _ | refine Below.setCell ?_ (by first | (simp; done) | (simp; omega) | omega) _ | refine Below_call ?_ (by assumption) | refine Below.trans ?_ (by assumption)))⟩
  have HV9 : Hid (¬ OK → E = 9) := hid (fun h => HE.out.2.1 rfl h)
  have HVC : Hid (OK → E = unl (decide (C ≤ 700)) 8) := hid (fun h => HE.out.2.2 rfl h)
  have HC2 : Hid (OK → ∀ W, Calls Try.prog 103 #[.agg #[.int .i64 lx, .int .i64 ly, .int .i64 lz, .int .i64 hx, .int .i64 hy, .int .i64 hz]] W fun e w' => e = .returned (.int .i64 C) ∧ Below W.heap.size W w') := hid (fun h => HC.out rfl rfl h)
  clear HE HC
  go_enter Try.func47, Try.ntmps47
  go_wp2_with (first | (go_at_call 102; ((with_reducible refine (HFL.out _).mono ?_); rintro _ w1 ⟨rfl, hb1⟩); obtain ⟨c0, c1, c2, c3, c4, c5, hlc⟩ := six_row ((hb1.block w.heap.size (by simp)).trans (heap_alloc_new w _))) | (go_at_call 102; ((with_reducible refine (HFH.out _).mono ?_); rintro _ w2 ⟨rfl, hb2⟩)))
  have hb02 : Below w.heap.size w w2 := by (repeat (with_reducible first | exact Below.refl _ _ | assumption | refine Below.drewN _ ?_ | refine Below.drew ?_ | refine Below_alloc ?_ _ | refine Below.alloc ?_ (by first | (simp; done) | (simp; omega) | omega) _ | refine Below.setCell ?_ (by first | (simp; done) | (simp; omega) | omega) _ | refine Below_call ?_ (by assumption) | refine Below.trans ?_ (by assumption)))
  have hbW2 : Below W.heap.size W w2 := by rw [hW]; exact hb1.trans (hb2.mono hb1.size)
  clear hW hb1 hb2 c0 c1 c2 c3 c4 c5 hlc
  go_loopw [14] (fun i wr => ∃ (k : Nat), k ≤ 3 ∧ i = .int .i64 k ∧ Hid ((0 < k → lx ≤ hx) ∧ (1 < k → ly ≤ hy) ∧ (2 < k → lz ≤ hz)) ∧ Below W.heap.size W wr) (fun i _ => 3 - (intOf i).toNat)
  case atStart => exact ⟨0, by omega, rfl, hid ⟨by omega, by omega, by omega⟩, hbW2⟩
  case round =>
    obtain ⟨k, hk, rfl, HO, hbel⟩ := hrel
    obtain ⟨c0, c1, c2, c3, c4, c5, hlc⟩ := six_row ((hbel.block w.heap.size l0).trans Q0.out)
    have hbx : Below w.heap.size w wr := hbW.trans (hbel.mono hzW)
    rcases (by omega : k = 0 ∨ k = 1 ∨ k = 2 ∨ k = 3) with rfl | rfl | rfl | rfl
    · by_cases hlt : hx < lx
      · have HV : Hid (E = 9) := hid (HV9.out (fun h => by have := HOK.out.1 h; omega))
        go_wp2_with fail
        refine wp_mixC (fun wc => Below (wr.heap.size) wr wc) 9 [.q [0, 1, 2, 3, 4, 5, 6, 7, 8]] [] (by kernel_rfl) (by kernel_rfl) ((Below.refl _ _).drew) ?_
        intro Q' hQ'
        (rw [wpMixC]; simp only [pick, List.drop_succ_cons, List.drop_zero, List.head?_cons, Option.toList_some, List.cons_append, List.nil_append])
        (repeat (first | go_big_quiet_skip | (go_big_quiet_want; refine quiet_simple rfl ?_; go_big_quiet_op; go_big_quiet_on) | (go_big_quiet_want; refine quiet_cellB (ty := 3) rfl rfl (by kernel_rfl) (by assumption) (by first | omega | (simp; omega)) ?_; simp only [Act.put, List.setIfInBounds_toArray, List.set_cons_succ, List.set_cons_zero]; go_big_quiet_on)))
        (try refine wpQuiet_nil ?_)
        (rw [wpMixC])
        (rw [wpMix])
        (refine hQ' _ _ ?_)
        go_wp2_with fail
        go_ret
        exact ⟨ret_int HV.out.symm, by (repeat (with_reducible first | exact Below.refl _ _ | assumption | refine Below.drewN _ ?_ | refine Below.drew ?_ | refine Below_alloc ?_ _ | refine Below.alloc ?_ (by first | (simp; done) | (simp; omega) | omega) _ | refine Below.setCell ?_ (by first | (simp; done) | (simp; omega) | omega) _ | refine Below_call ?_ (by assumption) | refine Below.trans ?_ (by assumption)))⟩
      · have HL := hid (show lx ≤ hx by omega)
        go_wp2_with fail
        refine wp_mixC (fun wc => Below (wr.heap.size) wr wc) 9 [.q [0, 1, 2, 3, 4, 5, 6, 7, 8]] [] (by kernel_rfl) (by kernel_rfl) ((Below.refl _ _).drew) ?_
        intro Q' hQ'
        (rw [wpMixC]; simp only [pick, List.drop_succ_cons, List.drop_zero, List.head?_cons, Option.toList_some, List.cons_append, List.nil_append])
        (repeat (first | go_big_quiet_skip | (go_big_quiet_want; refine quiet_simple rfl ?_; go_big_quiet_op; go_big_quiet_on) | (go_big_quiet_want; refine quiet_cellB (ty := 3) rfl rfl (by kernel_rfl) (by assumption) (by first | omega | (simp; omega)) ?_; simp only [Act.put, List.setIfInBounds_toArray, List.set_cons_succ, List.set_cons_zero]; go_big_quiet_on)))
        (try refine wpQuiet_nil ?_)
        (rw [wpMixC])
        (rw [wpMix])
        (refine hQ' _ _ ?_)
        go_wp2_with fail
        go_roundw
        case rel => exact ⟨1, by omega, by go_num, hid ⟨fun _ => HL.out, fun h => absurd h (by omega), fun h => absurd h (by omega)⟩, hbel.trans (((Below.refl _ _).drew).mono hbel.size)⟩
        case measure => simp [intOf]
    · by_cases hlt : hy < ly
      · have HV : Hid (E = 9) := hid (HV9.out (fun h => by have := HOK.out.1 h; omega))
        go_wp2_with fail
        refine wp_mixC (fun wc => Below (wr.heap.size) wr wc) 9 [.q [0, 1, 2, 3, 4, 5, 6, 7, 8]] [] (by kernel_rfl) (by kernel_rfl) ((Below.refl _ _).drew) ?_
        intro Q' hQ'
        (rw [wpMixC]; simp only [pick, List.drop_succ_cons, List.drop_zero, List.head?_cons, Option.toList_some, List.cons_append, List.nil_append])
        (repeat (first | go_big_quiet_skip | (go_big_quiet_want; refine quiet_simple rfl ?_; go_big_quiet_op; go_big_quiet_on) | (go_big_quiet_want; refine quiet_cellB (ty := 3) rfl rfl (by kernel_rfl) (by assumption) (by first | omega | (simp; omega)) ?_; simp only [Act.put, List.setIfInBounds_toArray, List.set_cons_succ, List.set_cons_zero]; go_big_quiet_on)))
        (try refine wpQuiet_nil ?_)
        (rw [wpMixC])
        (rw [wpMix])
        (refine hQ' _ _ ?_)
        go_wp2_with fail
        go_ret
        exact ⟨ret_int HV.out.symm, by (repeat (with_reducible first | exact Below.refl _ _ | assumption | refine Below.drewN _ ?_ | refine Below.drew ?_ | refine Below_alloc ?_ _ | refine Below.alloc ?_ (by first | (simp; done) | (simp; omega) | omega) _ | refine Below.setCell ?_ (by first | (simp; done) | (simp; omega) | omega) _ | refine Below_call ?_ (by assumption) | refine Below.trans ?_ (by assumption)))⟩
      · have HL := hid (show ly ≤ hy by omega)
        go_wp2_with fail
        refine wp_mixC (fun wc => Below (wr.heap.size) wr wc) 9 [.q [0, 1, 2, 3, 4, 5, 6, 7, 8]] [] (by kernel_rfl) (by kernel_rfl) ((Below.refl _ _).drew) ?_
        intro Q' hQ'
        (rw [wpMixC]; simp only [pick, List.drop_succ_cons, List.drop_zero, List.head?_cons, Option.toList_some, List.cons_append, List.nil_append])
        (repeat (first | go_big_quiet_skip | (go_big_quiet_want; refine quiet_simple rfl ?_; go_big_quiet_op; go_big_quiet_on) | (go_big_quiet_want; refine quiet_cellB (ty := 3) rfl rfl (by kernel_rfl) (by assumption) (by first | omega | (simp; omega)) ?_; simp only [Act.put, List.setIfInBounds_toArray, List.set_cons_succ, List.set_cons_zero]; go_big_quiet_on)))
        (try refine wpQuiet_nil ?_)
        (rw [wpMixC])
        (rw [wpMix])
        (refine hQ' _ _ ?_)
        go_wp2_with fail
        go_roundw
        case rel => exact ⟨2, by omega, by go_num, hid ⟨fun _ => HO.out.1 (by omega), fun _ => HL.out, fun h => absurd h (by omega)⟩, hbel.trans (((Below.refl _ _).drew).mono hbel.size)⟩
        case measure => simp [intOf]
    · by_cases hlt : hz < lz
      · have HV : Hid (E = 9) := hid (HV9.out (fun h => by have := HOK.out.1 h; omega))
        go_wp2_with fail
        refine wp_mixC (fun wc => Below (wr.heap.size) wr wc) 9 [.q [0, 1, 2, 3, 4, 5, 6, 7, 8]] [] (by kernel_rfl) (by kernel_rfl) ((Below.refl _ _).drew) ?_
        intro Q' hQ'
        (rw [wpMixC]; simp only [pick, List.drop_succ_cons, List.drop_zero, List.head?_cons, Option.toList_some, List.cons_append, List.nil_append])
        (repeat (first | go_big_quiet_skip | (go_big_quiet_want; refine quiet_simple rfl ?_; go_big_quiet_op; go_big_quiet_on) | (go_big_quiet_want; refine quiet_cellB (ty := 3) rfl rfl (by kernel_rfl) (by assumption) (by first | omega | (simp; omega)) ?_; simp only [Act.put, List.setIfInBounds_toArray, List.set_cons_succ, List.set_cons_zero]; go_big_quiet_on)))
        (try refine wpQuiet_nil ?_)
        (rw [wpMixC])
        (rw [wpMix])
        (refine hQ' _ _ ?_)
        go_wp2_with fail
        go_ret
        exact ⟨ret_int HV.out.symm, by (repeat (with_reducible first | exact Below.refl _ _ | assumption | refine Below.drewN _ ?_ | refine Below.drew ?_ | refine Below_alloc ?_ _ | refine Below.alloc ?_ (by first | (simp; done) | (simp; omega) | omega) _ | refine Below.setCell ?_ (by first | (simp; done) | (simp; omega) | omega) _ | refine Below_call ?_ (by assumption) | refine Below.trans ?_ (by assumption)))⟩
      · have HL := hid (show lz ≤ hz by omega)
        go_wp2_with fail
        refine wp_mixC (fun wc => Below (wr.heap.size) wr wc) 9 [.q [0, 1, 2, 3, 4, 5, 6, 7, 8]] [] (by kernel_rfl) (by kernel_rfl) ((Below.refl _ _).drew) ?_
        intro Q' hQ'
        (rw [wpMixC]; simp only [pick, List.drop_succ_cons, List.drop_zero, List.head?_cons, Option.toList_some, List.cons_append, List.nil_append])
        (repeat (first | go_big_quiet_skip | (go_big_quiet_want; refine quiet_simple rfl ?_; go_big_quiet_op; go_big_quiet_on) | (go_big_quiet_want; refine quiet_cellB (ty := 3) rfl rfl (by kernel_rfl) (by assumption) (by first | omega | (simp; omega)) ?_; simp only [Act.put, List.setIfInBounds_toArray, List.set_cons_succ, List.set_cons_zero]; go_big_quiet_on)))
        (try refine wpQuiet_nil ?_)
        (rw [wpMixC])
        (rw [wpMix])
        (refine hQ' _ _ ?_)
        go_wp2_with fail
        go_roundw
        case rel => exact ⟨3, by omega, by go_num, hid ⟨fun _ => HO.out.1 (by omega), fun _ => HO.out.2.1 (by omega), fun _ => HL.out⟩, hbel.trans (((Below.refl _ _).drew).mono hbel.size)⟩
        case measure => simp [intOf]
    · have hok : OK := HOK.out.2 ⟨HO.out.1 (by omega), HO.out.2.1 (by omega), HO.out.2.2 (by omega)⟩
      have HV := hid (HVC.out hok)
      have HC3 := hid (HC2.out hok)
      clear hok
      go_wp2_with (first | (go_at_call 103; refine (HC3.out _).mono ?_; rintro _ w4 ⟨rfl, hb4⟩) | (go_at_call 72; refine (track_unless _ _ _).mono ?_; rintro _ _ ⟨rfl, rfl⟩))
      go_ret
      exact ⟨ret_int HV.out.symm, by (repeat (with_reducible first | exact Below.refl _ _ | assumption | refine Below.drewN _ ?_ | refine Below.drew ?_ | refine Below_alloc ?_ _ | refine Below.alloc ?_ (by first | (simp; done) | (simp; omega) | omega) _ | refine Below.setCell ?_ (by first | (simp; done) | (simp; omega) | omega) _ | refine Below_call ?_ (by assumption) | refine Below.trans ?_ (by assumption)))⟩
end Go.Proofs.Ytlmdmpjfehpjeaa

/- Tracks: boxes and hits opened by the program. -/
set_option linter.unusedVariables false
set_option linter.unusedSimpArgs false
namespace Go.Proofs.Ytlmdmpjfehpjeaa
open Go.RowKit

set_option maxRecDepth 100000 in
set_option maxHeartbeats 4000000 in
theorem track_openBox (m : TMod) (b : TBox) (w : World) :
    Calls Try.prog 92 #[m.v, b.v] w fun e w' => e = .returned (.tuple #[m.v, .int .i64 (firstNZ [m.err, b.err])]) ∧ Below w.heap.size w w' := by
  have HO : Hid (∀ W, Calls Try.prog 119 #[m.v] W fun e w' => e = .returned (.tuple #[m.v, .int .i64 m.err]) ∧ Below W.heap.size W w') := hid (fun W => track_open m W)
  have HC : Hid (∀ W, Calls Try.prog 47 #[b.v] W fun e w' => e = .returned (.int .i64 b.err) ∧ Below W.heap.size W w') := hid (fun W => track_CheckBox b W)
  have HFI : Hid (∀ v w, IntsAt w v [m.err, b.err] → Calls Try.prog 69 #[v] w fun e w' => e = .returned (.int .i64 (firstNZ [m.err, b.err])) ∧ w = w') := hid (fun v w h => track_first _ v w h)
  generalize firstNZ [m.err, b.err] = E at HFI ⊢
  generalize m.err = EM at HO HFI
  generalize b.err = EB at HC HFI
  obtain ⟨px, py, pz, tm, tk, lo, hi, li, ea, la, no, mi⟩ := m
  obtain ⟨⟨lx, ly, lz⟩, ⟨hx, hy, hz⟩⟩ := b
  unfold TMod.v TBox.v at *
  simp only at *
  obtain ⟨W0, hW0⟩ : ∃ W0, W0 = ((w.alloc (.cells #[.int .i64 px, .int .i64 py, .int .i64 pz, .int .i64 tm, .int .i64 tk, .int .i64 lo, .int .i64 hi, .int .i64 li, .int .i64 ea, .int .i64 la, .int .i64 no, .int .i64 mi] 26)).alloc (.cells #[.int .i64 lx, .int .i64 ly, .int .i64 lz, .int .i64 hx, .int .i64 hy, .int .i64 hz] 75)).alloc (.cells #[.int .i64 0, .int .i64 0, .int .i64 0, .int .i64 0, .int .i64 0, .int .i64 0, .int .i64 0, .int .i64 0, .int .i64 0, .int .i64 0, .int .i64 0, .int .i64 0] 134) := ⟨_, rfl⟩
  have hbW0 : Below w.heap.size w W0 := by rw [hW0]; (repeat (with_reducible first | exact Below.refl _ _ | assumption | refine Below.drewN _ ?_ | refine Below.drew ?_ | refine Below_alloc ?_ _ | refine Below.alloc ?_ (by first | (simp; done) | (simp; omega) | omega) _ | refine Below.setCell ?_ (by first | (simp; done) | (simp; omega) | omega) _ | refine Below_call ?_ (by assumption) | refine Below.trans ?_ (by assumption)))
  obtain ⟨q0, q1, q2⟩ := al3 w _ _ _ _ _ _ W0 hW0
  have l1 := (Array.getElem?_eq_some_iff.1 q1).1
  have l2 := (Array.getElem?_eq_some_iff.1 q2).1
  have Q1 := hid q1
  have Q2 := hid q2
  have hzW0 := hbW0.size
  clear q0 q1 q2
  go_enter Try.func92, Try.ntmps92
  go_wp2_with (go_at_call 119; rw [← hW0]; refine (HO.out _).mono ?_; rintro _ w1 ⟨rfl, hb1⟩)
  have hz1 : W0.heap.size ≤ w1.heap.size := hb1.size
  obtain ⟨W2, hW2⟩ : ∃ W2, W2 = w1.alloc (.cells #[.int .i64 px, .int .i64 py, .int .i64 pz, .int .i64 tm, .int .i64 tk, .int .i64 lo, .int .i64 hi, .int .i64 li, .int .i64 ea, .int .i64 la, .int .i64 no, .int .i64 mi] 134) := ⟨_, rfl⟩
  have hb12 : Below w1.heap.size w1 W2 := by rw [hW2]; (repeat (with_reducible first | exact Below.refl _ _ | assumption | refine Below.drewN _ ?_ | refine Below.drew ?_ | refine Below_alloc ?_ _ | refine Below.alloc ?_ (by first | (simp; done) | (simp; omega) | omega) _ | refine Below.setCell ?_ (by first | (simp; done) | (simp; omega) | omega) _ | refine Below_call ?_ (by assumption) | refine Below.trans ?_ (by assumption)))
  have hb02 : Below W0.heap.size W0 W2 := hb1.trans (hb12.mono hz1)
  have r0 : W2.heap[w1.heap.size]? = some (.cells #[.int .i64 px, .int .i64 py, .int .i64 pz, .int .i64 tm, .int .i64 tk, .int .i64 lo, .int .i64 hi, .int .i64 li, .int .i64 ea, .int .i64 la, .int .i64 no, .int .i64 mi] 134 (0, 0)) := by rw [hW2]; exact heap_alloc_new w1 _
  rw [← hW2]
  clear hW2 hW0
  obtain ⟨m0, m1, m2, m3, m4, m5, m6, m7, m8, m9, m10, m11, ml⟩ := tw_cells (r0)
  obtain ⟨b0, b1, b2, b3, b4, b5, hlb⟩ := six_row ((hb02.block (w.heap.size + 1) l1).trans Q1.out)
  have R2 := hid ((hb02.block (w.heap.size + 1 + 1) l2).trans Q2.out)
  have hl2 := (Array.getElem?_eq_some_iff.1 R2.out).1
  have hbw2 : Below w.heap.size w W2 := hbW0.trans (hb02.mono hzW0)
  clear r0
  have fin : ∀ w5 : World, Below W2.heap.size W2 w5 → Below w.heap.size w w5 := fun w5 h => hbw2.trans (h.mono hbw2.size)
  refine wp_mixC (KeepB [w1.heap.size, w.heap.size + 1] W2) 7 [.q [0, 1, 2], .f [3, 4, 5, 6]] [.q [7]] (by kernel_rfl) (by kernel_rfl) ((KeepB.refl (by first | (simp; done) | (simp; omega))).drew) ?_
  intro Q' hQ'
  (rw [wpMixC]; simp only [pick, List.drop_succ_cons, List.drop_zero, List.head?_cons, Option.toList_some, List.cons_append, List.nil_append])
  (repeat (first | go_big_quiet_skip | (go_big_quiet_want; refine quiet_simple rfl ?_; go_big_quiet_op; go_big_quiet_on) | (go_big_quiet_want; refine quiet_agg6K (ty := 75) rfl rfl (by kernel_rfl) (by assumption) (by assumption) (by assumption) (by assumption) (by assumption) (by assumption) (by simp) ?_; simp only [Act.put, List.setIfInBounds_toArray, List.set_cons_succ, List.set_cons_zero]; go_big_quiet_on) | (go_big_quiet_want; refine quiet_agg12K (ty := 134) rfl rfl (by kernel_rfl) (by assumption) (by assumption) (by assumption) (by assumption) (by assumption) (by assumption) (by assumption) (by assumption) (by assumption) (by assumption) (by assumption) (by assumption) (by simp) ?_; simp only [Act.put, List.setIfInBounds_toArray, List.set_cons_succ, List.set_cons_zero]; go_big_quiet_on)))
  (try refine wpQuiet_nil ?_)
  (rw [wpMixC]; simp only [pick, List.drop_succ_cons, List.drop_zero, List.head?_cons, Option.toList_some, List.cons_append, List.nil_append])
  (rw [wpSteps]; go_wp2_with ((go_at_call 47; refine (HC.out _).mono ?_; rintro _ w3 ⟨rfl, hb3⟩)); rw [contF]; refine ⟨?_, ?_⟩; (next => (repeat (with_reducible first | assumption | exact KeepB.refl (by first | (simp; done) | (simp; omega)) | refine KeepB.drew ?_ | refine KeepB.alloc ?_ _ | refine KeepB.setCell ?_ (by first | (simp; done) | (simp; omega)) | refine KeepB.below ?_ (by assumption)))))
  (rw [wpSteps]; go_wp2_with (fail); rw [contF]; refine ⟨?_, ?_⟩; (next => (repeat (with_reducible first | assumption | exact KeepB.refl (by first | (simp; done) | (simp; omega)) | refine KeepB.drew ?_ | refine KeepB.alloc ?_ _ | refine KeepB.setCell ?_ (by first | (simp; done) | (simp; omega)) | refine KeepB.below ?_ (by assumption)))))
  (rw [wpSteps]; go_wp2_with ((go_at_call 69; have hb24 : Below W2.heap.size W2 w3 := (by (repeat (with_reducible first | exact Below.refl _ _ | assumption | refine Below.drewN _ ?_ | refine Below.drew ?_ | refine Below_alloc ?_ _ | refine Below.alloc ?_ (by first | (simp; done) | (simp; omega) | omega) _ | refine Below.setCell ?_ (by first | (simp; done) | (simp; omega) | omega) _ | refine Below_call ?_ (by assumption) | refine Below.trans ?_ (by assumption)))); obtain ⟨g0, g1, g2, g3, g4, g5, g6, g7, g8, g9, g10, g11, gl⟩ := tw_cells ((hb24.block (w.heap.size + 1 + 1) hl2).trans R2.out); obtain ⟨fg0, fg1, fg2, fg3, fg4, fg5, fg6, fg7, fg8, fg9, fg10, fg11⟩ := tw_frozen ((hb24.block (w.heap.size + 1 + 1) hl2).trans R2.out); have HB04 := hid (fin _ hb24); refine (HFI.out _ _ (intsAt_new _ _ _ _ _ rfl (by simp) (by first | rfl | simp))).mono ?_; rintro _ _ ⟨rfl, rfl⟩)); rw [contF]; refine ⟨?_, ?_⟩; (next => (repeat (with_reducible first | assumption | exact KeepB.refl (by first | (simp; done) | (simp; omega)) | refine KeepB.drew ?_ | refine KeepB.alloc ?_ _ | refine KeepB.setCell ?_ (by first | (simp; done) | (simp; omega)) | refine KeepB.below ?_ (by assumption)))))
  (rw [wpSteps]; go_wp2_with (fail); rw [contF]; refine ⟨?_, ?_⟩; (next => (repeat (with_reducible first | assumption | exact KeepB.refl (by first | (simp; done) | (simp; omega)) | refine KeepB.drew ?_ | refine KeepB.alloc ?_ _ | refine KeepB.setCell ?_ (by first | (simp; done) | (simp; omega)) | refine KeepB.below ?_ (by assumption)))))
  (rw [wpSteps])
  (rw [wpMixC])
  (rw [wpMix]; simp only [pick, List.drop_succ_cons, List.drop_zero, List.head?_cons, Option.toList_some, List.cons_append, List.nil_append])
  (repeat (first | (go_big_quiet_step (fail)) | (quiet_step (fail))))
  (try refine wpQuiet_nil ?_)
  (rw [wpMix])
  (refine hQ' _ _ ?_)
  go_wp2_with fail
  have hb04 := HB04.out
  ((try simp only [Exit.inBlock, Exit.then]); refine bodyPost_ret (v := .tuple #[.agg #[.int .i64 px, .int .i64 py, .int .i64 pz, .int .i64 tm, .int .i64 tk, .int .i64 lo, .int .i64 hi, .int .i64 li, .int .i64 ea, .int .i64 la, .int .i64 no, .int .i64 mi], .int .i64 E]) ?_ rfl ?_; (next => simp [results, Try.results92, go_sem, gl, g0, g1, g2, g3, g4, g5, g6, g7, g8, g9, g10, g11]); refine ⟨?_, ?_⟩; (next => rfl); (next => (repeat (with_reducible first | exact Below.refl _ _ | assumption | refine Below.drewN _ ?_ | refine Below.drew ?_ | refine Below_alloc ?_ _ | refine Below.alloc ?_ (by first | (simp; done) | (simp; omega) | omega) _ | refine Below.setCell ?_ (by first | (simp; done) | (simp; omega) | omega) _ | refine Below_call ?_ (by assumption) | refine Below.trans ?_ (by assumption)))))

set_option maxRecDepth 100000 in
set_option maxHeartbeats 4000000 in
theorem track_openHits (m : TMod) (b : TBox) (l : List THit) (v : Value) (w : World) (h : HitsAt w v l) :
    Calls Try.prog 95 #[m.v, b.v, v] w fun e w' => e = .returned (.tuple #[m.v, .int .i64 (firstNZ [firstNZ [m.err, b.err], hitsE l])]) ∧ Below w.heap.size w w' := by
  have HO : Hid (∀ W, Calls Try.prog 92 #[m.v, b.v] W fun e w' => e = .returned (.tuple #[m.v, .int .i64 (firstNZ [m.err, b.err])]) ∧ Below W.heap.size W w') := hid (fun W => track_openBox m b W)
  have HC : Hid (∀ W, Below w.heap.size w W → Calls Try.prog 89 #[v] W fun e w' => e = .returned (.int .i64 (hitsE l)) ∧ Below W.heap.size W w') := hid (fun W hb => track_hitsErr l v W (h.below hb))
  have HFI : Hid (∀ v w, IntsAt w v [firstNZ [m.err, b.err], hitsE l] → Calls Try.prog 69 #[v] w fun e w' => e = .returned (.int .i64 (firstNZ [firstNZ [m.err, b.err], hitsE l])) ∧ w = w') := hid (fun v w h => track_first _ v w h)
  obtain ⟨ao, cap, rfl, _, _, _⟩ := h.opn
  clear h
  generalize firstNZ [firstNZ [m.err, b.err], hitsE l] = E at HFI ⊢
  generalize firstNZ [m.err, b.err] = EM at HO HFI
  generalize hitsE l = EB at HC HFI
  obtain ⟨px, py, pz, tm, tk, lo, hi, li, ea, la, no, mi⟩ := m
  obtain ⟨⟨lx, ly, lz⟩, ⟨hx, hy, hz⟩⟩ := b
  unfold TMod.v TBox.v at *
  simp only at *
  obtain ⟨W0, hW0⟩ : ∃ W0, W0 = ((w.alloc (.cells #[.int .i64 px, .int .i64 py, .int .i64 pz, .int .i64 tm, .int .i64 tk, .int .i64 lo, .int .i64 hi, .int .i64 li, .int .i64 ea, .int .i64 la, .int .i64 no, .int .i64 mi] 26)).alloc (.cells #[.int .i64 lx, .int .i64 ly, .int .i64 lz, .int .i64 hx, .int .i64 hy, .int .i64 hz] 75)).alloc (.cells #[.int .i64 0, .int .i64 0, .int .i64 0, .int .i64 0, .int .i64 0, .int .i64 0, .int .i64 0, .int .i64 0, .int .i64 0, .int .i64 0, .int .i64 0, .int .i64 0] 134) := ⟨_, rfl⟩
  have hbW0 : Below w.heap.size w W0 := by rw [hW0]; (repeat (with_reducible first | exact Below.refl _ _ | assumption | refine Below.drewN _ ?_ | refine Below.drew ?_ | refine Below_alloc ?_ _ | refine Below.alloc ?_ (by first | (simp; done) | (simp; omega) | omega) _ | refine Below.setCell ?_ (by first | (simp; done) | (simp; omega) | omega) _ | refine Below_call ?_ (by assumption) | refine Below.trans ?_ (by assumption)))
  obtain ⟨q0, q1, q2⟩ := al3 w _ _ _ _ _ _ W0 hW0
  have l1 := (Array.getElem?_eq_some_iff.1 q1).1
  have l2 := (Array.getElem?_eq_some_iff.1 q2).1
  have Q1 := hid q1
  have Q2 := hid q2
  have hzW0 := hbW0.size
  clear q0 q1 q2
  go_enter Try.func95, Try.ntmps95
  go_wp2_with (go_at_call 92; rw [← hW0]; refine (HO.out _).mono ?_; rintro _ w1 ⟨rfl, hb1⟩)
  have hz1 : W0.heap.size ≤ w1.heap.size := hb1.size
  obtain ⟨W2, hW2⟩ : ∃ W2, W2 = w1.alloc (.cells #[.int .i64 px, .int .i64 py, .int .i64 pz, .int .i64 tm, .int .i64 tk, .int .i64 lo, .int .i64 hi, .int .i64 li, .int .i64 ea, .int .i64 la, .int .i64 no, .int .i64 mi] 134) := ⟨_, rfl⟩
  have hb12 : Below w1.heap.size w1 W2 := by rw [hW2]; (repeat (with_reducible first | exact Below.refl _ _ | assumption | refine Below.drewN _ ?_ | refine Below.drew ?_ | refine Below_alloc ?_ _ | refine Below.alloc ?_ (by first | (simp; done) | (simp; omega) | omega) _ | refine Below.setCell ?_ (by first | (simp; done) | (simp; omega) | omega) _ | refine Below_call ?_ (by assumption) | refine Below.trans ?_ (by assumption)))
  have hb02 : Below W0.heap.size W0 W2 := hb1.trans (hb12.mono hz1)
  have r0 : W2.heap[w1.heap.size]? = some (.cells #[.int .i64 px, .int .i64 py, .int .i64 pz, .int .i64 tm, .int .i64 tk, .int .i64 lo, .int .i64 hi, .int .i64 li, .int .i64 ea, .int .i64 la, .int .i64 no, .int .i64 mi] 134 (0, 0)) := by rw [hW2]; exact heap_alloc_new w1 _
  rw [← hW2]
  clear hW2 hW0
  obtain ⟨m0, m1, m2, m3, m4, m5, m6, m7, m8, m9, m10, m11, ml⟩ := tw_cells (r0)
  have hlb : w.heap.size + 1 < W2.heap.size := by omega
  have R2 := hid ((hb02.block (w.heap.size + 1 + 1) l2).trans Q2.out)
  have hl2 := (Array.getElem?_eq_some_iff.1 R2.out).1
  have hbw2 : Below w.heap.size w W2 := hbW0.trans (hb02.mono hzW0)
  clear r0
  have fin : ∀ w5 : World, Below W2.heap.size W2 w5 → Below w.heap.size w w5 := fun w5 h => hbw2.trans (h.mono hbw2.size)
  refine wp_mixC (KeepB [w1.heap.size] W2) 7 [.q [0, 1, 2], .f [3, 4, 5, 6]] [.q [7]] (by kernel_rfl) (by kernel_rfl) ((KeepB.refl (by first | (simp; done) | (simp; omega))).drew) ?_
  intro Q' hQ'
  (rw [wpMixC]; simp only [pick, List.drop_succ_cons, List.drop_zero, List.head?_cons, Option.toList_some, List.cons_append, List.nil_append])
  (repeat (first | go_big_quiet_skip | (go_big_quiet_want; refine quiet_simple rfl ?_; go_big_quiet_op; go_big_quiet_on) | (go_big_quiet_want; refine quiet_agg12K (ty := 134) rfl rfl (by kernel_rfl) (by assumption) (by assumption) (by assumption) (by assumption) (by assumption) (by assumption) (by assumption) (by assumption) (by assumption) (by assumption) (by assumption) (by assumption) (by simp) ?_; simp only [Act.put, List.setIfInBounds_toArray, List.set_cons_succ, List.set_cons_zero]; go_big_quiet_on)))
  (try refine wpQuiet_nil ?_)
  (rw [wpMixC]; simp only [pick, List.drop_succ_cons, List.drop_zero, List.head?_cons, Option.toList_some, List.cons_append, List.nil_append])
  (rw [wpSteps]; go_wp2_with ((go_at_call 89; refine (HC.out _ (fin _ (by (repeat (with_reducible first | exact Below.refl _ _ | assumption | refine Below.drewN _ ?_ | refine Below.drew ?_ | refine Below_alloc ?_ _ | refine Below.alloc ?_ (by first | (simp; done) | (simp; omega) | omega) _ | refine Below.setCell ?_ (by first | (simp; done) | (simp; omega) | omega) _ | refine Below_call ?_ (by assumption) | refine Below.trans ?_ (by assumption)))))).mono ?_; rintro _ w3 ⟨rfl, hb3⟩)); rw [contF]; refine ⟨?_, ?_⟩; (next => (repeat (with_reducible first | assumption | exact KeepB.refl (by first | (simp; done) | (simp; omega)) | refine KeepB.drew ?_ | refine KeepB.alloc ?_ _ | refine KeepB.setCell ?_ (by first | (simp; done) | (simp; omega)) | refine KeepB.below ?_ (by assumption)))))
  (rw [wpSteps]; go_wp2_with (fail); rw [contF]; refine ⟨?_, ?_⟩; (next => (repeat (with_reducible first | assumption | exact KeepB.refl (by first | (simp; done) | (simp; omega)) | refine KeepB.drew ?_ | refine KeepB.alloc ?_ _ | refine KeepB.setCell ?_ (by first | (simp; done) | (simp; omega)) | refine KeepB.below ?_ (by assumption)))))
  (rw [wpSteps]; go_wp2_with ((go_at_call 69; have hb24 : Below W2.heap.size W2 w3 := (by (repeat (with_reducible first | exact Below.refl _ _ | assumption | refine Below.drewN _ ?_ | refine Below.drew ?_ | refine Below_alloc ?_ _ | refine Below.alloc ?_ (by first | (simp; done) | (simp; omega) | omega) _ | refine Below.setCell ?_ (by first | (simp; done) | (simp; omega) | omega) _ | refine Below_call ?_ (by assumption) | refine Below.trans ?_ (by assumption)))); obtain ⟨g0, g1, g2, g3, g4, g5, g6, g7, g8, g9, g10, g11, gl⟩ := tw_cells ((hb24.block (w.heap.size + 1 + 1) hl2).trans R2.out); obtain ⟨fg0, fg1, fg2, fg3, fg4, fg5, fg6, fg7, fg8, fg9, fg10, fg11⟩ := tw_frozen ((hb24.block (w.heap.size + 1 + 1) hl2).trans R2.out); have HB04 := hid (fin _ hb24); refine (HFI.out _ _ (intsAt_new _ _ _ _ _ rfl (by simp) (by first | rfl | simp))).mono ?_; rintro _ _ ⟨rfl, rfl⟩)); rw [contF]; refine ⟨?_, ?_⟩; (next => (repeat (with_reducible first | assumption | exact KeepB.refl (by first | (simp; done) | (simp; omega)) | refine KeepB.drew ?_ | refine KeepB.alloc ?_ _ | refine KeepB.setCell ?_ (by first | (simp; done) | (simp; omega)) | refine KeepB.below ?_ (by assumption)))))
  (rw [wpSteps]; go_wp2_with (fail); rw [contF]; refine ⟨?_, ?_⟩; (next => (repeat (with_reducible first | assumption | exact KeepB.refl (by first | (simp; done) | (simp; omega)) | refine KeepB.drew ?_ | refine KeepB.alloc ?_ _ | refine KeepB.setCell ?_ (by first | (simp; done) | (simp; omega)) | refine KeepB.below ?_ (by assumption)))))
  (rw [wpSteps])
  (rw [wpMixC])
  (rw [wpMix]; simp only [pick, List.drop_succ_cons, List.drop_zero, List.head?_cons, Option.toList_some, List.cons_append, List.nil_append])
  (repeat (first | (go_big_quiet_step (fail)) | (quiet_step (fail))))
  (try refine wpQuiet_nil ?_)
  (rw [wpMix])
  (refine hQ' _ _ ?_)
  go_wp2_with fail
  have hb04 := HB04.out
  ((try simp only [Exit.inBlock, Exit.then]); refine bodyPost_ret (v := .tuple #[.agg #[.int .i64 px, .int .i64 py, .int .i64 pz, .int .i64 tm, .int .i64 tk, .int .i64 lo, .int .i64 hi, .int .i64 li, .int .i64 ea, .int .i64 la, .int .i64 no, .int .i64 mi], .int .i64 E]) ?_ rfl ?_; (next => simp [results, Try.results95, go_sem, gl, g0, g1, g2, g3, g4, g5, g6, g7, g8, g9, g10, g11]); refine ⟨?_, ?_⟩; (next => rfl); (next => (repeat (with_reducible first | exact Below.refl _ _ | assumption | refine Below.drewN _ ?_ | refine Below.drew ?_ | refine Below_alloc ?_ _ | refine Below.alloc ?_ (by first | (simp; done) | (simp; omega) | omega) _ | refine Below.setCell ?_ (by first | (simp; done) | (simp; omega) | omega) _ | refine Below_call ?_ (by assumption) | refine Below.trans ?_ (by assumption)))))
end Go.Proofs.Ytlmdmpjfehpjeaa

/- Tracks: ranges of the program: sums, products, squares. -/
set_option linter.unusedVariables false
set_option linter.unusedSimpArgs false
namespace Go.Proofs.Ytlmdmpjfehpjeaa
open Go.RowKit

def Rg.v (r : Rg) : Value := .agg #[.int .i64 r.lo, .int .i64 r.hi]
set_option maxRecDepth 100000 in
set_option maxHeartbeats 4000000 in
theorem track_plus (r s : Rg) (w : World) (h1 : -4000000000000000000 ≤ r.lo ∧ r.lo ≤ 4000000000000000000) (h2 : -4000000000000000000 ≤ r.hi ∧ r.hi ≤ 4000000000000000000) (h3 : -4000000000000000000 ≤ s.lo ∧ s.lo ≤ 4000000000000000000) (h4 : -4000000000000000000 ≤ s.hi ∧ s.hi ≤ 4000000000000000000) :
    Calls Try.prog 129 #[r.v, s.v] w fun e w' => e = .returned (r.plus s).v ∧ Below w.heap.size w w' := by
  obtain ⟨a, b⟩ := r
  obtain ⟨c, d⟩ := s
  unfold Rg.v Rg.plus
  simp only at *
  go_enter Try.func129, Try.ntmps129
  go_wp2_with fail
  ((try simp only [Exit.inBlock, Exit.then]); refine bodyPost_ret (v := .agg #[.int .i64 (a + c), .int .i64 (b + d)]) ?_ rfl ?_; (next => simp [results, Try.results129, go_sem]); refine ⟨?_, ?_⟩; (next => rfl); (next => (repeat (with_reducible first | exact Below.refl _ _ | assumption | refine Below.drewN _ ?_ | refine Below.drew ?_ | refine Below_alloc ?_ _ | refine Below.alloc ?_ (by first | (simp; done) | (simp; omega) | omega) _ | refine Below.setCell ?_ (by first | (simp; done) | (simp; omega) | omega) _ | refine Below_call ?_ (by assumption) | refine Below.trans ?_ (by assumption)))))

set_option maxRecDepth 100000 in
set_option maxHeartbeats 4000000 in
theorem track_square (r : Rg) (w : World) (h1 : -3000000000 ≤ r.lo ∧ r.lo ≤ 3000000000) (h2 : -3000000000 ≤ r.hi ∧ r.hi ≤ 3000000000) :
    Calls Try.prog 130 #[r.v] w fun e w' => e = .returned r.square.v ∧ Below w.heap.size w w' := by
  obtain ⟨a, b⟩ := r
  simp only at *
  have g1 := mul_rg h1 h1 (C := 9000000000000000000) (by decide)
  have g2 := mul_rg h2 h2 (C := 9000000000000000000) (by decide)
  have HV : Hid ((⟨a, b⟩ : Rg).square = if a ≤ 0 ∧ 0 ≤ b then ⟨0, max (a * a) (b * b)⟩ else ⟨min (a * a) (b * b), max (a * a) (b * b)⟩) := hid rfl
  obtain ⟨A, hA⟩ : ∃ A, a * a = A := ⟨_, rfl⟩
  obtain ⟨B, hB⟩ : ∃ B, b * b = B := ⟨_, rfl⟩
  have k1 : IntKind.i64.wrap (a * a) = A := by rw [hA]; exact IntWalk.i64_in _ (by omega)
  have k2 : IntKind.i64.wrap (b * b) = B := by rw [hB]; exact IntWalk.i64_in _ (by omega)
  rw [hA] at g1 HV
  rw [hB] at g2 HV
  generalize (⟨a, b⟩ : Rg).square = Q at HV ⊢
  unfold Rg.v
  simp only
  obtain ⟨W, hW⟩ : ∃ W, W = (w.alloc (.cells #[.int .i64 a, .int .i64 b] 157)).alloc (.cells #[.int .i64 0, .int .i64 0] 157) := ⟨_, rfl⟩
  have hbW : Below w.heap.size w W := by rw [hW]; (repeat (with_reducible first | exact Below.refl _ _ | assumption | refine Below.drewN _ ?_ | refine Below.drew ?_ | refine Below_alloc ?_ _ | refine Below.alloc ?_ (by first | (simp; done) | (simp; omega) | omega) _ | refine Below.setCell ?_ (by first | (simp; done) | (simp; omega) | omega) _ | refine Below_call ?_ (by assumption) | refine Below.trans ?_ (by assumption)))
  obtain ⟨q0, q1, l0, l1⟩ := al2 w _ _ _ _ W hW
  obtain ⟨c0, c1, fc0, fc1, hlc⟩ := two_cells q0
  obtain ⟨g0, g1', fg0, fg1, hlg⟩ := two_cells q1
  clear q0 q1 hA hB fc0 fc1
  by_cases p1 : a ≤ 0
  · by_cases p2 : 0 ≤ b
    · have HQ : Hid (Q.lo = 0 ∧ Q.hi = max A B) := hid (by rw [HV.out, if_pos ⟨p1, p2⟩]; exact ⟨rfl, rfl⟩)
      go_enter Try.func130, Try.ntmps130
      go_wp2_with fail
      rw [← hW]
      clear hW
      refine wp_mixC (fun wc => Below (W.heap.size) W wc) 11 [.q [0, 1, 2, 3, 4, 5, 6, 7, 8, 9, 10]] [.q [11]] (by kernel_rfl) (by kernel_rfl) ((Below.refl _ _).drew) ?_
      intro Q' hQ'
      (rw [wpMixC]; simp only [pick, List.drop_succ_cons, List.drop_zero, List.head?_cons, Option.toList_some, List.cons_append, List.nil_append])
      (repeat (first | go_big_quiet_skip | (go_big_quiet_want; refine quiet_simple rfl ?_; go_big_quiet_op; go_big_quiet_on) | (go_big_quiet_want; refine quiet_cellB (ty := 3) rfl rfl (by kernel_rfl) (by assumption) (by first | omega | (simp; omega)) ?_; simp only [Act.put, List.setIfInBounds_toArray, List.set_cons_succ, List.set_cons_zero]; go_big_quiet_on)))
      (try refine wpQuiet_nil ?_)
      (rw [wpMixC])
      (rw [wpMix]; simp only [pick, List.drop_succ_cons, List.drop_zero, List.head?_cons, Option.toList_some, List.cons_append, List.nil_append])
      (repeat (first | (go_big_quiet_step (fail)) | (quiet_step (fail))))
      (try refine wpQuiet_nil ?_)
      (rw [wpMix])
      (refine hQ' _ _ ?_)
      go_wp2_with fail
      all_goals
        ((try simp only [Exit.inBlock, Exit.then]); refine bodyPost_ret (v := .agg #[.int .i64 0, .int .i64 (max A B)]) ?_ rfl ?_; (next => (simp [results, Try.results130, go_sem, hlg, g0, g1'] <;> omega)))
        exact ⟨by rw [HQ.out.1, HQ.out.2], by (repeat (with_reducible first | exact Below.refl _ _ | assumption | refine Below.drewN _ ?_ | refine Below.drew ?_ | refine Below_alloc ?_ _ | refine Below.alloc ?_ (by first | (simp; done) | (simp; omega) | omega) _ | refine Below.setCell ?_ (by first | (simp; done) | (simp; omega) | omega) _ | refine Below_call ?_ (by assumption) | refine Below.trans ?_ (by assumption)))⟩
    · have HQ : Hid (Q.lo = min A B ∧ Q.hi = max A B) := hid (by rw [HV.out, if_neg (fun h => p2 h.2)]; exact ⟨rfl, rfl⟩)
      go_enter Try.func130, Try.ntmps130
      go_wp2_with fail
      rw [← hW]
      clear hW
      refine wp_mixC (fun wc => Below (W.heap.size) W wc) 11 [.q [0, 1, 2, 3, 4, 5, 6, 7, 8, 9, 10]] [.q [11]] (by kernel_rfl) (by kernel_rfl) ((Below.refl _ _).drew) ?_
      intro Q' hQ'
      (rw [wpMixC]; simp only [pick, List.drop_succ_cons, List.drop_zero, List.head?_cons, Option.toList_some, List.cons_append, List.nil_append])
      (repeat (first | go_big_quiet_skip | (go_big_quiet_want; refine quiet_simple rfl ?_; go_big_quiet_op; go_big_quiet_on) | (go_big_quiet_want; refine quiet_cellB (ty := 3) rfl rfl (by kernel_rfl) (by assumption) (by first | omega | (simp; omega)) ?_; simp only [Act.put, List.setIfInBounds_toArray, List.set_cons_succ, List.set_cons_zero]; go_big_quiet_on)))
      (try refine wpQuiet_nil ?_)
      (rw [wpMixC])
      (rw [wpMix]; simp only [pick, List.drop_succ_cons, List.drop_zero, List.head?_cons, Option.toList_some, List.cons_append, List.nil_append])
      (repeat (first | (go_big_quiet_step (fail)) | (quiet_step (fail))))
      (try refine wpQuiet_nil ?_)
      (rw [wpMix])
      (refine hQ' _ _ ?_)
      go_wp2_with fail
      all_goals
        ((try simp only [Exit.inBlock, Exit.then]); refine bodyPost_ret (v := .agg #[.int .i64 (min A B), .int .i64 (max A B)]) ?_ rfl ?_; (next => (simp [results, Try.results130, go_sem, hlg, g0, g1'] <;> omega)))
        exact ⟨by rw [HQ.out.1, HQ.out.2], by (repeat (with_reducible first | exact Below.refl _ _ | assumption | refine Below.drewN _ ?_ | refine Below.drew ?_ | refine Below_alloc ?_ _ | refine Below.alloc ?_ (by first | (simp; done) | (simp; omega) | omega) _ | refine Below.setCell ?_ (by first | (simp; done) | (simp; omega) | omega) _ | refine Below_call ?_ (by assumption) | refine Below.trans ?_ (by assumption)))⟩
  · have HQ : Hid (Q.lo = min A B ∧ Q.hi = max A B) := hid (by rw [HV.out, if_neg (fun h => p1 h.1)]; exact ⟨rfl, rfl⟩)
    go_enter Try.func130, Try.ntmps130
    go_wp2_with fail
    rw [← hW]
    clear hW
    refine wp_mixC (fun wc => Below (W.heap.size) W wc) 11 [.q [0, 1, 2, 3, 4, 5, 6, 7, 8, 9, 10]] [.q [11]] (by kernel_rfl) (by kernel_rfl) ((Below.refl _ _).drew) ?_
    intro Q' hQ'
    (rw [wpMixC]; simp only [pick, List.drop_succ_cons, List.drop_zero, List.head?_cons, Option.toList_some, List.cons_append, List.nil_append])
    (repeat (first | go_big_quiet_skip | (go_big_quiet_want; refine quiet_simple rfl ?_; go_big_quiet_op; go_big_quiet_on) | (go_big_quiet_want; refine quiet_cellB (ty := 3) rfl rfl (by kernel_rfl) (by assumption) (by first | omega | (simp; omega)) ?_; simp only [Act.put, List.setIfInBounds_toArray, List.set_cons_succ, List.set_cons_zero]; go_big_quiet_on)))
    (try refine wpQuiet_nil ?_)
    (rw [wpMixC])
    (rw [wpMix]; simp only [pick, List.drop_succ_cons, List.drop_zero, List.head?_cons, Option.toList_some, List.cons_append, List.nil_append])
    (repeat (first | (go_big_quiet_step (fail)) | (quiet_step (fail))))
    (try refine wpQuiet_nil ?_)
    (rw [wpMix])
    (refine hQ' _ _ ?_)
    go_wp2_with fail
    all_goals
      ((try simp only [Exit.inBlock, Exit.then]); refine bodyPost_ret (v := .agg #[.int .i64 (min A B), .int .i64 (max A B)]) ?_ rfl ?_; (next => (simp [results, Try.results130, go_sem, hlg, g0, g1'] <;> omega)))
      exact ⟨by rw [HQ.out.1, HQ.out.2], by (repeat (with_reducible first | exact Below.refl _ _ | assumption | refine Below.drewN _ ?_ | refine Below.drew ?_ | refine Below_alloc ?_ _ | refine Below.alloc ?_ (by first | (simp; done) | (simp; omega) | omega) _ | refine Below.setCell ?_ (by first | (simp; done) | (simp; omega) | omega) _ | refine Below_call ?_ (by assumption) | refine Below.trans ?_ (by assumption)))⟩
set_option maxRecDepth 100000 in
set_option maxHeartbeats 4000000 in
theorem slices_Min (a b c d : Int) (v : Value) (w : World) (h : IntsAt w v [a, b, c, d]) :
    Calls Try.prog 145 #[v] w fun e w' => e = .returned (.int .i64 (mn4 a b c d)) ∧ Below w.heap.size w w' := by
  obtain ⟨ao, cap, rfl, h1, h2, h3⟩ := h.opn
  obtain ⟨g, off, rfl, hb, hc⟩ := h3 0 (by simp)
  have c0 := hc 0 (by simp)
  have c1 := hc 1 (by simp)
  have c2 := hc 2 (by simp)
  have c3 := hc 3 (by simp)
  rw [show nth [a, b, c, d] 0 = a from rfl, Nat.add_zero] at c0
  rw [show nth [a, b, c, d] 1 = b from rfl] at c1
  rw [show nth [a, b, c, d] 2 = c from rfl] at c2
  rw [show nth [a, b, c, d] 3 = d from rfl] at c3
  have HV : Hid (mn4 a b c d = min (min (min a b) c) d) := hid rfl
  generalize mn4 a b c d = R at HV ⊢
  simp only [List.length_cons, List.length_nil, Nat.zero_add, Nat.reduceAdd] at *
  clear hc h3 h
  unfold maxLen at h2
  go_enter Try.func145, Try.ntmps145
  go_wp2_with fail
  refine wp_loop_rounds 4 ?_
  repeat any_goals (rw [rounds_succ]; go_wp2_with fail)
  all_goals go_ret
  all_goals exact ⟨ret_int (by rw [HV.out]; omega), Below.refl _ _⟩
set_option maxRecDepth 100000 in
set_option maxHeartbeats 4000000 in
theorem slices_Max (a b c d : Int) (v : Value) (w : World) (h : IntsAt w v [a, b, c, d]) :
    Calls Try.prog 146 #[v] w fun e w' => e = .returned (.int .i64 (mx4 a b c d)) ∧ Below w.heap.size w w' := by
  obtain ⟨ao, cap, rfl, h1, h2, h3⟩ := h.opn
  obtain ⟨g, off, rfl, hb, hc⟩ := h3 0 (by simp)
  have c0 := hc 0 (by simp)
  have c1 := hc 1 (by simp)
  have c2 := hc 2 (by simp)
  have c3 := hc 3 (by simp)
  rw [show nth [a, b, c, d] 0 = a from rfl, Nat.add_zero] at c0
  rw [show nth [a, b, c, d] 1 = b from rfl] at c1
  rw [show nth [a, b, c, d] 2 = c from rfl] at c2
  rw [show nth [a, b, c, d] 3 = d from rfl] at c3
  have HV : Hid (mx4 a b c d = max (max (max a b) c) d) := hid rfl
  generalize mx4 a b c d = R at HV ⊢
  simp only [List.length_cons, List.length_nil, Nat.zero_add, Nat.reduceAdd] at *
  clear hc h3 h
  unfold maxLen at h2
  go_enter Try.func146, Try.ntmps146
  go_wp2_with fail
  refine wp_loop_rounds 4 ?_
  repeat any_goals (rw [rounds_succ]; go_wp2_with fail)
  all_goals go_ret
  all_goals exact ⟨ret_int (by rw [HV.out]; omega), Below.refl _ _⟩
end Go.Proofs.Ytlmdmpjfehpjeaa

/- Tracks: products of ranges. -/
set_option linter.unusedVariables false
set_option linter.unusedSimpArgs false
namespace Go.Proofs.Ytlmdmpjfehpjeaa
open Go.RowKit

theorem run_sl4 (b : Nat) (w : World) : (Instr.sliceAt 128 (.pointer (some ⟨b, 0, none⟩)) none none none).run Try.prog w = .ok (.slice (some ⟨b, 0, none⟩) 4 4) w := by kernel_rfl
theorem quiet_sl128 {o : Oper} {a : Act} {C : World → Prop} {K : Act → Prop} {x : Operand} {b : Nat} (ho : o.op = .slice 128 x none none none) (hx : a.eval x = .pointer (some ⟨b, 0, none⟩)) (hK : K (a.put o.dst (.slice (some ⟨b, 0, none⟩) 4 4))) : o.quiet Try.prog a C K :=
  quiet_val _ (fun w _ => by
    unfold execOp
    simp only [ho, hx, Option.map_none]
    simp [go_sem, run_sl4]) hK
set_option maxRecDepth 100000 in
set_option maxHeartbeats 4000000 in
theorem track_times (r s : Rg) (w : World) (h1 : -4000000000000000000 ≤ r.lo * s.lo ∧ r.lo * s.lo ≤ 4000000000000000000) (h2 : -4000000000000000000 ≤ r.lo * s.hi ∧ r.lo * s.hi ≤ 4000000000000000000) (h3 : -4000000000000000000 ≤ r.hi * s.lo ∧ r.hi * s.lo ≤ 4000000000000000000) (h4 : -4000000000000000000 ≤ r.hi * s.hi ∧ r.hi * s.hi ≤ 4000000000000000000) :
    Calls Try.prog 131 #[r.v, s.v] w fun e w' => e = .returned (r.times s).v ∧ Below w.heap.size w w' := by
  have HV : Hid ((r.times s).lo = mn4 (r.lo * s.lo) (r.lo * s.hi) (r.hi * s.lo) (r.hi * s.hi) ∧ (r.times s).hi = mx4 (r.lo * s.lo) (r.lo * s.hi) (r.hi * s.lo) (r.hi * s.hi)) := hid ⟨rfl, rfl⟩
  generalize r.times s = T at HV ⊢
  obtain ⟨a, b⟩ := r
  obtain ⟨c, d⟩ := s
  simp only at *
  obtain ⟨P1, hP1⟩ : ∃ P, a * c = P := ⟨_, rfl⟩
  obtain ⟨P2, hP2⟩ : ∃ P, a * d = P := ⟨_, rfl⟩
  obtain ⟨P3, hP3⟩ : ∃ P, b * c = P := ⟨_, rfl⟩
  obtain ⟨P4, hP4⟩ : ∃ P, b * d = P := ⟨_, rfl⟩
  rw [hP1] at h1 HV
  rw [hP2] at h2 HV
  rw [hP3] at h3 HV
  rw [hP4] at h4 HV
  have HMIN : Hid (∀ (v : Value) (w : World), IntsAt w v [P1, P2, P3, P4] → Calls Try.prog 145 #[v] w fun e w' => e = .returned (.int .i64 T.lo) ∧ Below w.heap.size w w') := hid (fun v w h => by rw [HV.out.1]; exact slices_Min _ _ _ _ v w h)
  have HMAX : Hid (∀ (v : Value) (w : World), IntsAt w v [P1, P2, P3, P4] → Calls Try.prog 146 #[v] w fun e w' => e = .returned (.int .i64 T.hi) ∧ Below w.heap.size w w') := hid (fun v w h => by rw [HV.out.2]; exact slices_Max _ _ _ _ v w h)
  clear HV
  obtain ⟨tl, th⟩ := T
  unfold Rg.v
  simp only at *
  obtain ⟨W0, hW0⟩ : ∃ W0, W0 = ((w.alloc (.cells #[.int .i64 a, .int .i64 b] 157)).alloc (.cells #[.int .i64 c, .int .i64 d] 157)).alloc (.cells #[.int .i64 0, .int .i64 0] 157) := ⟨_, rfl⟩
  have hbW0 : Below w.heap.size w W0 := by rw [hW0]; (repeat (with_reducible first | exact Below.refl _ _ | assumption | refine Below.drewN _ ?_ | refine Below.drew ?_ | refine Below_alloc ?_ _ | refine Below.alloc ?_ (by first | (simp; done) | (simp; omega) | omega) _ | refine Below.setCell ?_ (by first | (simp; done) | (simp; omega) | omega) _ | refine Below_call ?_ (by assumption) | refine Below.trans ?_ (by assumption)))
  obtain ⟨q0, q1, q2⟩ := al3 w _ _ _ _ _ _ W0 hW0
  have l2 := (Array.getElem?_eq_some_iff.1 q2).1
  have Q2 := hid q2
  have hzW0 := hbW0.size
  clear q0 q1 q2
  go_enter Try.func131, Try.ntmps131
  go_wp2_with fail
  rw [← hW0]
  obtain ⟨W, hW⟩ : ∃ W, W = W0.alloc (.cells #[.int .i64 P1, .int .i64 P2, .int .i64 P3, .int .i64 P4] 128) := ⟨_, rfl⟩
  have hbW : Below W0.heap.size W0 W := by rw [hW]; (repeat (with_reducible first | exact Below.refl _ _ | assumption | refine Below.drewN _ ?_ | refine Below.drew ?_ | refine Below_alloc ?_ _ | refine Below.alloc ?_ (by first | (simp; done) | (simp; omega) | omega) _ | refine Below.setCell ?_ (by first | (simp; done) | (simp; omega) | omega) _ | refine Below_call ?_ (by assumption) | refine Below.trans ?_ (by assumption)))
  have HI : Hid (∀ W', Below W.heap.size W W' → IntsAt W' (.slice (some ⟨W0.heap.size, 0, none⟩) 4 4) [P1, P2, P3, P4]) := hid (fun W' h => ((by rw [hW]; exact intsAt_new W0 128 [P1, P2, P3, P4] 4 W0.heap.size rfl (by omega) rfl) : IntsAt W _ _).below h)
  have R2 := hid ((hbW.block (w.heap.size + 1 + 1) l2).trans Q2.out)
  have hlW0 : W0.heap.size < W.heap.size := by rw [hW]; simp
  have hz0 : W0.heap.size = w.heap.size + 1 + 1 + 1 := by rw [hW0]; simp
  rw [← hW]
  rw [hz0] at HI hlW0
  clear hW hW0
  have fin : ∀ w5 : World, Below W.heap.size W w5 → Below w.heap.size w w5 := fun w5 h => (hbW0.trans (hbW.mono hzW0)).trans (h.mono (Nat.le_trans hzW0 hbW.size))
  have hlR := (Array.getElem?_eq_some_iff.1 R2.out).1
  refine wp_mixC (fun wc => Below ((w.heap.size + 1 + 1)) W wc) 5 [.q [0, 2], .f [1, 3], .q [4]] [.f [5]] (by kernel_rfl) (by kernel_rfl) ((Below.refl _ _).drew) ?_
  intro Q' hQ'
  (rw [wpMixC]; simp only [pick, List.drop_succ_cons, List.drop_zero, List.head?_cons, Option.toList_some, List.cons_append, List.nil_append])
  (repeat (first | go_big_quiet_skip | (go_big_quiet_want; refine quiet_simple rfl ?_; go_big_quiet_op; go_big_quiet_on) | (go_big_quiet_want; refine quiet_sl128 rfl rfl ?_; simp only [Act.put, List.setIfInBounds_toArray, List.set_cons_succ, List.set_cons_zero]; go_big_quiet_on)))
  (try refine wpQuiet_nil ?_)
  (rw [wpMixC]; simp only [pick, List.drop_succ_cons, List.drop_zero, List.head?_cons, Option.toList_some, List.cons_append, List.nil_append])
  (rw [wpSteps]; go_wp2_with ((go_at_call 145; have hbq : Below W.heap.size W W.drew := (by (repeat (with_reducible first | exact Below.refl _ _ | assumption | refine Below.drewN _ ?_ | refine Below.drew ?_ | refine Below_alloc ?_ _ | refine Below.alloc ?_ (by first | (simp; done) | (simp; omega) | omega) _ | refine Below.setCell ?_ (by first | (simp; done) | (simp; omega) | omega) _ | refine Below_call ?_ (by assumption) | refine Below.trans ?_ (by assumption)))); ((with_reducible refine (HMIN.out _ _ (HI.out _ hbq)).mono ?_); rintro _ w3 ⟨rfl, hb3⟩); have hz3 : W.heap.size ≤ w3.heap.size := hb3.size; have hbm3 : Below (w.heap.size + 1 + 1) W w3 := ((Below.refl (w.heap.size + 1 + 1) W).drew).trans (hb3.mono (by show _ ≤ W.heap.size; omega)))); rw [contF]; refine ⟨?_, ?_⟩; (next => (repeat (with_reducible first | exact Below.refl _ _ | assumption | refine Below.drewN _ ?_ | refine Below.drew ?_ | refine Below_alloc ?_ _ | refine Below.alloc ?_ (by first | (simp; done) | (simp; omega) | omega) _ | refine Below.setCell ?_ (by first | (simp; done) | (simp; omega) | omega) _ | refine Below_call ?_ (by assumption) | refine Below.trans ?_ (by assumption)))))
  (rw [wpSteps]; go_wp2_with ((go_at_call 146; have hbq3 : Below W.heap.size W w3 := (by (repeat (with_reducible first | exact Below.refl _ _ | assumption | refine Below.drewN _ ?_ | refine Below.drew ?_ | refine Below_alloc ?_ _ | refine Below.alloc ?_ (by first | (simp; done) | (simp; omega) | omega) _ | refine Below.setCell ?_ (by first | (simp; done) | (simp; omega) | omega) _ | refine Below_call ?_ (by assumption) | refine Below.trans ?_ (by assumption)))); ((with_reducible refine (HMAX.out _ _ (HI.out _ hbq3)).mono ?_); rintro _ w4 ⟨rfl, hb4⟩); have hbm4 : Below (w.heap.size + 1 + 1) W w4 := hbm3.trans (hb4.mono (by omega)); obtain ⟨g0, g1, fg0, fg1, hgl⟩ := two_cells (((hbq3.trans (hb4.mono hbq3.size)).block (w.heap.size + 1 + 1) hlR).trans R2.out))); rw [contF]; refine ⟨?_, ?_⟩; (next => (repeat (with_reducible first | exact Below.refl _ _ | assumption | refine Below.drewN _ ?_ | refine Below.drew ?_ | refine Below_alloc ?_ _ | refine Below.alloc ?_ (by first | (simp; done) | (simp; omega) | omega) _ | refine Below.setCell ?_ (by first | (simp; done) | (simp; omega) | omega) _ | refine Below_call ?_ (by assumption) | refine Below.trans ?_ (by assumption)))))
  (rw [wpSteps])
  (rw [wpMixC]; simp only [pick, List.drop_succ_cons, List.drop_zero, List.head?_cons, Option.toList_some, List.cons_append, List.nil_append])
  (repeat (first | go_big_quiet_skip | (go_big_quiet_want; refine quiet_simple rfl ?_; go_big_quiet_op; go_big_quiet_on) | (go_big_quiet_want; refine quiet_sl128 rfl rfl ?_; simp only [Act.put, List.setIfInBounds_toArray, List.set_cons_succ, List.set_cons_zero]; go_big_quiet_on)))
  (try refine wpQuiet_nil ?_)
  (rw [wpMixC])
  (rw [wpMix]; simp only [pick, List.drop_succ_cons, List.drop_zero, List.head?_cons, Option.toList_some, List.cons_append, List.nil_append])
  (go_wp2_with ((first | fail)); rw [contF])
  (rw [wpMix])
  (refine hQ' _ _ ?_)
  go_wp2_with fail
  have hbe := fin _ (hbq3.trans (hb4.mono hbq3.size))
  ((try simp only [Exit.inBlock, Exit.then]); refine bodyPost_ret (v := .agg #[.int .i64 tl, .int .i64 th]) ?_ rfl ?_; (next => simp [results, Try.results131, go_sem, hgl, g0, g1]); refine ⟨?_, ?_⟩; (next => rfl); (next => (repeat (with_reducible first | exact Below.refl _ _ | assumption | refine Below.drewN _ ?_ | refine Below.drew ?_ | refine Below_alloc ?_ _ | refine Below.alloc ?_ (by first | (simp; done) | (simp; omega) | omega) _ | refine Below.setCell ?_ (by first | (simp; done) | (simp; omega) | omega) _ | refine Below_call ?_ (by assumption) | refine Below.trans ?_ (by assumption)))))
end Go.Proofs.Ytlmdmpjfehpjeaa

