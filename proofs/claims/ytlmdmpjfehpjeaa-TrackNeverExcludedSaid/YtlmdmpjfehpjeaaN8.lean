/- Texts of this claim, together. -/
import Derived.Test.YtlmdmpjfehpjeaaN7
import Derived.Test.YtlmdmpjfehpjeaaN4
import Derived.Test.YtlmdmpjfehpjeaaN5
import Derived.Test.YtlmdmpjfehpjeaaN6

set_option linter.unusedVariables false
set_option linter.unusedSimpArgs false
namespace Go.Proofs.Ytlmdmpjfehpjeaa
open Go.RowKit
def TBox.v (b : TBox) : Value := .agg #[.int .i64 b.lo.x, .int .i64 b.lo.y, .int .i64 b.lo.z, .int .i64 b.hi.x, .int .i64 b.hi.y, .int .i64 b.hi.z]
theorem six_row {w : World} {g : Nat} {x y z u v s : Value} {t : TypeId} (h : w.heap[g]? = some (.cells #[x, y, z, u, v, s] t (0, 0))) :
  w.cell? ⟨g, 0, none⟩ = some x ∧ w.cell? ⟨g, 1, none⟩ = some y ∧ w.cell? ⟨g, 2, none⟩ = some z ∧ w.cell? ⟨g, 3, none⟩ = some u ∧ w.cell? ⟨g, 4, none⟩ = some v ∧ w.cell? ⟨g, 5, none⟩ = some s ∧ g < w.heap.size := by
 refine ⟨?_, ?_, ?_, ?_, ?_, ?_, (Array.getElem?_eq_some_iff.1 h).1⟩
 ·rw [cell_of_row w g 0 _ t (0, 0) h]; rfl
 ·rw [cell_of_row w g 1 _ t (0, 0) h]; rfl
 ·rw [cell_of_row w g 2 _ t (0, 0) h]; rfl
 ·rw [cell_of_row w g 3 _ t (0, 0) h]; rfl
 ·rw [cell_of_row w g 4 _ t (0, 0) h]; rfl
 ·rw [cell_of_row w g 5 _ t (0, 0) h]; rfl
theorem count_nums {b : TBox} (hl : b.lo.inS 20 = true) (hh : b.hi.inS 20 = true) (ho : b.ok) :
  ∃ A X Y Z Y1 Z1 X1 P, IntKind.i64.wrap (b.hi.x - b.lo.x) = X1 ∧ IntKind.i64.wrap (X1 + 1) = X ∧ IntKind.i64.wrap (1 * X) = A ∧ A = X ∧ IntKind.i64.wrap (b.hi.y - b.lo.y) = Y1 ∧ IntKind.i64.wrap (Y1 + 1) = Y ∧ IntKind.i64.wrap (X * Y) = P ∧ IntKind.i64.wrap (b.hi.z - b.lo.z) = Z1 ∧ IntKind.i64.wrap (Z1 + 1) = Z ∧ IntKind.i64.wrap (P * Z) = b.count := by
 obtain ⟨⟨a1, a1'⟩, ⟨a2, a2'⟩, ⟨a3, a3'⟩⟩ := inS_iff.1 hl
 obtain ⟨⟨b1, b1'⟩, ⟨b2, b2'⟩, ⟨b3, b3'⟩⟩ := inS_iff.1 hh
 have h1 := mul_rg (x := b.hi.x - b.lo.x + 1) (y := b.hi.y - b.lo.y + 1) (A := 41) (B := 41) (C := 1681) (by omega) (by omega) (by decide)
 have h2 := mul_rg (x := (b.hi.x - b.lo.x + 1) * (b.hi.y - b.lo.y + 1)) (y := b.hi.z - b.lo.z + 1) (A := 1681) (B := 41) (C := 68921) h1 (by omega) (by decide)
 refine ⟨b.hi.x - b.lo.x + 1, b.hi.x - b.lo.x + 1, b.hi.y - b.lo.y + 1, b.hi.z - b.lo.z + 1, b.hi.y - b.lo.y, b.hi.z - b.lo.z, b.hi.x - b.lo.x, (b.hi.x - b.lo.x + 1) * (b.hi.y - b.lo.y + 1), IntWalk.i64_in _ (by omega), IntWalk.i64_in _ (by omega), ?_, rfl, IntWalk.i64_in _ (by omega), IntWalk.i64_in _ (by omega), IntWalk.i64_in _ (by omega), IntWalk.i64_in _ (by omega), IntWalk.i64_in _ (by omega), ?_⟩
 ·rw [Int.one_mul]; exact IntWalk.i64_in _ (by omega)
 ·exact IntWalk.i64_in _ (by omega)
set_option maxRecDepth 100000 in
set_option maxHeartbeats 4000000 in
theorem track_count (b : TBox) (w : World) (hl : b.lo.inS 20 = true) (hh : b.hi.inS 20 = true) (ho : b.ok) :
  Calls Try.prog 103 #[b.v] w fun e w' => e = .returned (.int .i64 b.count) ∧ Below w.heap.size w w' := by
 obtain ⟨A, X, Y, Z, Y1, Z1, X1, P, k0, k1, k2, k3, k4, k5, k6, k7, k8, k9⟩ := count_nums hl hh ho
 subst k3
 have k2' : IntKind.i64.wrap A = A := by rw [Int.one_mul] at k2; exact k2
 generalize b.count = C at k9 ⊢
 obtain ⟨⟨lx, ly, lz⟩, ⟨hx, hy, hz⟩⟩ := b
 unfold TBox.v
 simp only at *
 clear hl hh ho
 obtain ⟨W, hW⟩ : ∃ W, W = w.alloc (.cells #[.int .i64 lx, .int .i64 ly, .int .i64 lz, .int .i64 hx, .int .i64 hy, .int .i64 hz] 75) := ⟨_, rfl⟩
 have hbW : Below w.heap.size w W := by rw [hW]; exact BelowA
 have q0 : W.heap[w.heap.size]? = some (.cells #[.int .i64 lx, .int .i64 ly, .int .i64 lz, .int .i64 hx, .int .i64 hy, .int .i64 hz] 75 (0, 0)) := by rw [hW]; exact heap_alloc_new w _
 have l0 := (Array.getElem?_eq_some_iff.1 q0).1
 have Q0 := hid q0
 clear q0
 have hzW := hbW.size
 go_enter Try.func103, Try.ntmps103
 go_wp2_with fail
 rw [← hW]
 clear hW
 go_loopw [3, 5] (fun n i wr => ∃ (k : Nat) (N : Int), k ≤ 3 ∧ i = .int .i64 k ∧ n = .int .i64 N ∧ Hid ((k = 0 → N = 1) ∧ (k = 1 → N = A) ∧ (k = 2 → N = P) ∧ (k = 3 → N = C)) ∧ Below W.heap.size W wr) (fun _ i _ => 3 - (intOf i).toNat)
 case atStart => exact ⟨0, 1, by omega, rfl, rfl, hid ⟨fun _ => rfl, by omega, by omega, by omega⟩, Below.refl _ _⟩
 case round =>
  obtain ⟨k, N, hk, rfl, rfl, HN, hbel⟩ := hrel
  obtain ⟨c0, c1, c2, c3, c4, c5, hlc⟩ := six_row ((hbel.block w.heap.size l0).trans Q0.out)
  have hbx : Below w.heap.size w wr := hbW.trans (hbel.mono hzW)
  rcases (by omega : k = 0 ∨ k = 1 ∨ k = 2 ∨ k = 3) with rfl | rfl | rfl | rfl
  ·obtain rfl := HN.out.1 rfl
   go_wp2_with fail
   refine wp_mixC (fun wc => Below (wr.heap.size) wr wc) 12 [.q [0, 1, 2, 3, 4, 5, 6, 7, 8, 9, 10, 11]] [.q [12]] (by kernel_rfl) (by kernel_rfl) ((Below.refl _ _).drew) ?_
   intro Q' hQ'
   (rw [wpMixC]; simp only [pick, List.drop_succ_cons, List.drop_zero, List.head?_cons, Option.toList_some, List.cons_append, List.nil_append])
   (repeat (first | go_big_quiet_skip | (go_big_quiet_want; refine quiet_simple rfl ?_; go_big_quiet_op; go_big_quiet_on) | (go_big_quiet_want; refine quiet_cellB (ty := 3) rfl rfl (by kernel_rfl) (by assumption) (by first | omega | (simp; omega)) ?_; simp only [Act.put, List.setIfInBounds_toArray, List.set_cons_succ, List.set_cons_zero]; go_big_quiet_on)))
   (try refine wpQuiet_nil ?_)
   (rw [wpMixC])
   (rw [wpMix]; simp only [pick, List.drop_succ_cons, List.drop_zero, List.head?_cons, Option.toList_some, List.cons_append, List.nil_append])
   (repeat (first | (go_big_quiet_step (fail)) | (quiet_step (fail))))
   (try refine wpQuiet_nil ?_)
   (rw [wpMix])
   (refine hQ' _ _ ?_)
   go_wp2_with fail
   go_roundw
   case rel => exact ⟨1, A, by omega, by go_num, rfl, hid ⟨by omega, fun _ => rfl, by omega, by omega⟩, hbel.trans (((Below.refl _ _).drew).mono hbel.size)⟩
   case measure => simp [intOf]
  ·obtain rfl := HN.out.2.1 rfl
   go_wp2_with fail
   refine wp_mixC (fun wc => Below (wr.heap.size) wr wc) 12 [.q [0, 1, 2, 3, 4, 5, 6, 7, 8, 9, 10, 11]] [.q [12]] (by kernel_rfl) (by kernel_rfl) ((Below.refl _ _).drew) ?_
   intro Q' hQ'
   (rw [wpMixC]; simp only [pick, List.drop_succ_cons, List.drop_zero, List.head?_cons, Option.toList_some, List.cons_append, List.nil_append])
   (repeat (first | go_big_quiet_skip | (go_big_quiet_want; refine quiet_simple rfl ?_; go_big_quiet_op; go_big_quiet_on) | (go_big_quiet_want; refine quiet_cellB (ty := 3) rfl rfl (by kernel_rfl) (by assumption) (by first | omega | (simp; omega)) ?_; simp only [Act.put, List.setIfInBounds_toArray, List.set_cons_succ, List.set_cons_zero]; go_big_quiet_on)))
   (try refine wpQuiet_nil ?_)
   (rw [wpMixC])
   (rw [wpMix]; simp only [pick, List.drop_succ_cons, List.drop_zero, List.head?_cons, Option.toList_some, List.cons_append, List.nil_append])
   (repeat (first | (go_big_quiet_step (fail)) | (quiet_step (fail))))
   (try refine wpQuiet_nil ?_)
   (rw [wpMix])
   (refine hQ' _ _ ?_)
   go_wp2_with fail
   go_roundw
   case rel => exact ⟨2, P, by omega, by go_num, rfl, hid ⟨by omega, by omega, fun _ => rfl, by omega⟩, hbel.trans (((Below.refl _ _).drew).mono hbel.size)⟩
   case measure => simp [intOf]
  ·obtain rfl := HN.out.2.2.1 rfl
   go_wp2_with fail
   refine wp_mixC (fun wc => Below (wr.heap.size) wr wc) 12 [.q [0, 1, 2, 3, 4, 5, 6, 7, 8, 9, 10, 11]] [.q [12]] (by kernel_rfl) (by kernel_rfl) ((Below.refl _ _).drew) ?_
   intro Q' hQ'
   (rw [wpMixC]; simp only [pick, List.drop_succ_cons, List.drop_zero, List.head?_cons, Option.toList_some, List.cons_append, List.nil_append])
   (repeat (first | go_big_quiet_skip | (go_big_quiet_want; refine quiet_simple rfl ?_; go_big_quiet_op; go_big_quiet_on) | (go_big_quiet_want; refine quiet_cellB (ty := 3) rfl rfl (by kernel_rfl) (by assumption) (by first | omega | (simp; omega)) ?_; simp only [Act.put, List.setIfInBounds_toArray, List.set_cons_succ, List.set_cons_zero]; go_big_quiet_on)))
   (try refine wpQuiet_nil ?_)
   (rw [wpMixC])
   (rw [wpMix]; simp only [pick, List.drop_succ_cons, List.drop_zero, List.head?_cons, Option.toList_some, List.cons_append, List.nil_append])
   (repeat (first | (go_big_quiet_step (fail)) | (quiet_step (fail))))
   (try refine wpQuiet_nil ?_)
   (rw [wpMix])
   (refine hQ' _ _ ?_)
   go_wp2_with fail
   go_roundw
   case rel => exact ⟨3, C, by omega, by go_num, rfl, hid ⟨by omega, by omega, by omega, fun _ => rfl⟩, hbel.trans (((Below.refl _ _).drew).mono hbel.size)⟩
   case measure => simp [intOf]
  ·obtain rfl := HN.out.2.2.2 rfl
   go_wp2_with fail
   go_ret
   exact ⟨rfl, hbx⟩
theorem boxE_cases (b : TBox) : ((b.lo.inS 20 && b.hi.inS 20) = false → b.err = 2) ∧ ((b.lo.inS 20 && b.hi.inS 20) = true → ¬ b.ok → b.err = 9) ∧ ((b.lo.inS 20 && b.hi.inS 20) = true → b.ok → b.err = unl (decide (b.count ≤ 700)) 8) := by
 unfold TBox.err
 refine ⟨fun h => by simp [firstNZ, h, unl], fun h h2 => ?_, fun h h2 => ?_⟩
 ·have : (decide (b.lo.x ≤ b.hi.x) && decide (b.lo.y ≤ b.hi.y) && decide (b.lo.z ≤ b.hi.z)) = false := by
   apply Bool.eq_false_iff.2
   intro e
   simp only [Bool.and_eq_true, decide_eq_true_eq] at e
   exact h2 ⟨e.1.1, e.1.2, e.2⟩
  rw [h, this]; rfl
 ·have : (decide (b.lo.x ≤ b.hi.x) && decide (b.lo.y ≤ b.hi.y) && decide (b.lo.z ≤ b.hi.z)) = true := by
   simp only [Bool.and_eq_true, decide_eq_true_eq]
   exact ⟨⟨h2.1, h2.2.1⟩, h2.2.2⟩
  rw [h, this]; cases decide (b.count ≤ 700) <;> rfl
set_option maxRecDepth 100000 in
set_option maxHeartbeats 8000000 in
theorem track_CheckBox (b : TBox) (w : World) :
  Calls Try.prog 47 #[b.v] w fun e w' => e = .returned (.int .i64 b.err) ∧ Below w.heap.size w w' := by
 have HE := hid (boxE_cases b)
 have HFL : Hid (∀ W, Calls Try.prog 102 #[b.lo.v, .int .i64 20] W fun e w' => e = .returned (.bool (b.lo.inS 20)) ∧ Below W.heap.size W w') := hid (fun W => track_fits b.lo 20 W (by omega) (by omega))
 have HFH : Hid (∀ W, Calls Try.prog 102 #[b.hi.v, .int .i64 20] W fun e w' => e = .returned (.bool (b.hi.inS 20)) ∧ Below W.heap.size W w') := hid (fun W => track_fits b.hi 20 W (by omega) (by omega))
 have HC : Hid (b.lo.inS 20 = true → b.hi.inS 20 = true → b.ok → ∀ W, Calls Try.prog 103 #[b.v] W fun e w' => e = .returned (.int .i64 b.count) ∧ Below W.heap.size W w') := hid (fun h1 h2 h3 W => track_count b W h1 h2 h3)
 have HOK : Hid (b.ok ↔ b.lo.x ≤ b.hi.x ∧ b.lo.y ≤ b.hi.y ∧ b.lo.z ≤ b.hi.z) := hid Iff.rfl
 generalize b.err = E at HE ⊢
 generalize b.lo.inS 20 = L at HE HFL HC
 generalize b.hi.inS 20 = H at HE HFH HC
 generalize b.count = C at HE HC
 generalize b.ok = OK at HE HC HOK
 obtain ⟨⟨lx, ly, lz⟩, ⟨hx, hy, hz⟩⟩ := b
 unfold TBox.v V3.v at *
 simp only at *
 obtain ⟨W, hW⟩ : ∃ W, W = w.alloc (.cells #[.int .i64 lx, .int .i64 ly, .int .i64 lz, .int .i64 hx, .int .i64 hy, .int .i64 hz] 75) := ⟨_, rfl⟩
 have hbW : Below w.heap.size w W := by rw [hW]; exact BelowA
 have q0 : W.heap[w.heap.size]? = some (.cells #[.int .i64 lx, .int .i64 ly, .int .i64 lz, .int .i64 hx, .int .i64 hy, .int .i64 hz] 75 (0, 0)) := by rw [hW]; exact heap_alloc_new w _
 have l0 := (Array.getElem?_eq_some_iff.1 q0).1
 have Q0 := hid q0
 clear q0
 have hzW := hbW.size
 cases L
 ·have HV : Hid (E = 2) := hid (HE.out.1 rfl)
  go_enter Try.func47, Try.ntmps47
  go_wp2_with (go_at_call 102; refine (HFL.out _).mono ?_; rintro _ w1 ⟨rfl, hb1⟩)
  go_ret
  exact ⟨ret_int HV.out.symm, by exact BelowA⟩
 cases H
 ·have HV : Hid (E = 2) := hid (HE.out.1 rfl)
  go_enter Try.func47, Try.ntmps47
  go_wp2_with (first | (go_at_call 102; ((with_reducible refine (HFL.out _).mono ?_); rintro _ w1 ⟨rfl, hb1⟩); obtain ⟨c0, c1, c2, c3, c4, c5, hlc⟩ := six_row ((hb1.block w.heap.size (by simp)).trans (heap_alloc_new w _))) | (go_at_call 102; ((with_reducible refine (HFH.out _).mono ?_); rintro _ w2 ⟨rfl, hb2⟩)))
  go_ret
  exact ⟨ret_int HV.out.symm, by exact BelowA⟩
 have HV9 : Hid (¬ OK → E = 9) := hid (fun h => HE.out.2.1 rfl h)
 have HVC : Hid (OK → E = unl (decide (C ≤ 700)) 8) := hid (fun h => HE.out.2.2 rfl h)
 have HC2 : Hid (OK → ∀ W, Calls Try.prog 103 #[.agg #[.int .i64 lx, .int .i64 ly, .int .i64 lz, .int .i64 hx, .int .i64 hy, .int .i64 hz]] W fun e w' => e = .returned (.int .i64 C) ∧ Below W.heap.size W w') := hid (fun h => HC.out rfl rfl h)
 clear HE HC
 go_enter Try.func47, Try.ntmps47
 go_wp2_with (first | (go_at_call 102; ((with_reducible refine (HFL.out _).mono ?_); rintro _ w1 ⟨rfl, hb1⟩); obtain ⟨c0, c1, c2, c3, c4, c5, hlc⟩ := six_row ((hb1.block w.heap.size (by simp)).trans (heap_alloc_new w _))) | (go_at_call 102; ((with_reducible refine (HFH.out _).mono ?_); rintro _ w2 ⟨rfl, hb2⟩)))
 have hb02 : Below w.heap.size w w2 := by exact BelowA
 have hbW2 : Below W.heap.size W w2 := by rw [hW]; exact hb1.trans (hb2.mono hb1.size)
 clear hW hb1 hb2 c0 c1 c2 c3 c4 c5 hlc
 go_loopw [14] (fun i wr => ∃ (k : Nat), k ≤ 3 ∧ i = .int .i64 k ∧ Hid ((0 < k → lx ≤ hx) ∧ (1 < k → ly ≤ hy) ∧ (2 < k → lz ≤ hz)) ∧ Below W.heap.size W wr) (fun i _ => 3 - (intOf i).toNat)
 case atStart => exact ⟨0, by omega, rfl, hid ⟨by omega, by omega, by omega⟩, hbW2⟩
 case round =>
  obtain ⟨k, hk, rfl, HO, hbel⟩ := hrel
  obtain ⟨c0, c1, c2, c3, c4, c5, hlc⟩ := six_row ((hbel.block w.heap.size l0).trans Q0.out)
  have hbx : Below w.heap.size w wr := hbW.trans (hbel.mono hzW)
  rcases (by omega : k = 0 ∨ k = 1 ∨ k = 2 ∨ k = 3) with rfl | rfl | rfl | rfl
  ·by_cases hlt : hx < lx
   ·have HV : Hid (E = 9) := hid (HV9.out (fun h => by have := HOK.out.1 h; omega))
    go_wp2_with fail
    refine wp_mixC (fun wc => Below (wr.heap.size) wr wc) 9 [.q [0, 1, 2, 3, 4, 5, 6, 7, 8]] [] (by kernel_rfl) (by kernel_rfl) ((Below.refl _ _).drew) ?_
    intro Q' hQ'
    (rw [wpMixC]; simp only [pick, List.drop_succ_cons, List.drop_zero, List.head?_cons, Option.toList_some, List.cons_append, List.nil_append])
    (repeat (first | go_big_quiet_skip | (go_big_quiet_want; refine quiet_simple rfl ?_; go_big_quiet_op; go_big_quiet_on) | (go_big_quiet_want; refine quiet_cellB (ty := 3) rfl rfl (by kernel_rfl) (by assumption) (by first | omega | (simp; omega)) ?_; simp only [Act.put, List.setIfInBounds_toArray, List.set_cons_succ, List.set_cons_zero]; go_big_quiet_on)))
    (try refine wpQuiet_nil ?_)
    (rw [wpMixC])
    (rw [wpMix])
    (refine hQ' _ _ ?_)
    go_wp2_with fail
    go_ret
    exact ⟨ret_int HV.out.symm, by exact BelowA⟩
   ·have HL := hid (show lx ≤ hx by omega)
    go_wp2_with fail
    refine wp_mixC (fun wc => Below (wr.heap.size) wr wc) 9 [.q [0, 1, 2, 3, 4, 5, 6, 7, 8]] [] (by kernel_rfl) (by kernel_rfl) ((Below.refl _ _).drew) ?_
    intro Q' hQ'
    (rw [wpMixC]; simp only [pick, List.drop_succ_cons, List.drop_zero, List.head?_cons, Option.toList_some, List.cons_append, List.nil_append])
    (repeat (first | go_big_quiet_skip | (go_big_quiet_want; refine quiet_simple rfl ?_; go_big_quiet_op; go_big_quiet_on) | (go_big_quiet_want; refine quiet_cellB (ty := 3) rfl rfl (by kernel_rfl) (by assumption) (by first | omega | (simp; omega)) ?_; simp only [Act.put, List.setIfInBounds_toArray, List.set_cons_succ, List.set_cons_zero]; go_big_quiet_on)))
    (try refine wpQuiet_nil ?_)
    (rw [wpMixC])
    (rw [wpMix])
    (refine hQ' _ _ ?_)
    go_wp2_with fail
    go_roundw
    case rel => exact ⟨1, by omega, by go_num, hid ⟨fun _ => HL.out, fun h => absurd h (by omega), fun h => absurd h (by omega)⟩, hbel.trans (((Below.refl _ _).drew).mono hbel.size)⟩
    case measure => simp [intOf]
  ·by_cases hlt : hy < ly
   ·have HV : Hid (E = 9) := hid (HV9.out (fun h => by have := HOK.out.1 h; omega))
    go_wp2_with fail
    refine wp_mixC (fun wc => Below (wr.heap.size) wr wc) 9 [.q [0, 1, 2, 3, 4, 5, 6, 7, 8]] [] (by kernel_rfl) (by kernel_rfl) ((Below.refl _ _).drew) ?_
    intro Q' hQ'
    (rw [wpMixC]; simp only [pick, List.drop_succ_cons, List.drop_zero, List.head?_cons, Option.toList_some, List.cons_append, List.nil_append])
    (repeat (first | go_big_quiet_skip | (go_big_quiet_want; refine quiet_simple rfl ?_; go_big_quiet_op; go_big_quiet_on) | (go_big_quiet_want; refine quiet_cellB (ty := 3) rfl rfl (by kernel_rfl) (by assumption) (by first | omega | (simp; omega)) ?_; simp only [Act.put, List.setIfInBounds_toArray, List.set_cons_succ, List.set_cons_zero]; go_big_quiet_on)))
    (try refine wpQuiet_nil ?_)
    (rw [wpMixC])
    (rw [wpMix])
    (refine hQ' _ _ ?_)
    go_wp2_with fail
    go_ret
    exact ⟨ret_int HV.out.symm, by exact BelowA⟩
   ·have HL := hid (show ly ≤ hy by omega)
    go_wp2_with fail
    refine wp_mixC (fun wc => Below (wr.heap.size) wr wc) 9 [.q [0, 1, 2, 3, 4, 5, 6, 7, 8]] [] (by kernel_rfl) (by kernel_rfl) ((Below.refl _ _).drew) ?_
    intro Q' hQ'
    (rw [wpMixC]; simp only [pick, List.drop_succ_cons, List.drop_zero, List.head?_cons, Option.toList_some, List.cons_append, List.nil_append])
    (repeat (first | go_big_quiet_skip | (go_big_quiet_want; refine quiet_simple rfl ?_; go_big_quiet_op; go_big_quiet_on) | (go_big_quiet_want; refine quiet_cellB (ty := 3) rfl rfl (by kernel_rfl) (by assumption) (by first | omega | (simp; omega)) ?_; simp only [Act.put, List.setIfInBounds_toArray, List.set_cons_succ, List.set_cons_zero]; go_big_quiet_on)))
    (try refine wpQuiet_nil ?_)
    (rw [wpMixC])
    (rw [wpMix])
    (refine hQ' _ _ ?_)
    go_wp2_with fail
    go_roundw
    case rel => exact ⟨2, by omega, by go_num, hid ⟨fun _ => HO.out.1 (by omega), fun _ => HL.out, fun h => absurd h (by omega)⟩, hbel.trans (((Below.refl _ _).drew).mono hbel.size)⟩
    case measure => simp [intOf]
  ·by_cases hlt : hz < lz
   ·have HV : Hid (E = 9) := hid (HV9.out (fun h => by have := HOK.out.1 h; omega))
    go_wp2_with fail
    refine wp_mixC (fun wc => Below (wr.heap.size) wr wc) 9 [.q [0, 1, 2, 3, 4, 5, 6, 7, 8]] [] (by kernel_rfl) (by kernel_rfl) ((Below.refl _ _).drew) ?_
    intro Q' hQ'
    (rw [wpMixC]; simp only [pick, List.drop_succ_cons, List.drop_zero, List.head?_cons, Option.toList_some, List.cons_append, List.nil_append])
    (repeat (first | go_big_quiet_skip | (go_big_quiet_want; refine quiet_simple rfl ?_; go_big_quiet_op; go_big_quiet_on) | (go_big_quiet_want; refine quiet_cellB (ty := 3) rfl rfl (by kernel_rfl) (by assumption) (by first | omega | (simp; omega)) ?_; simp only [Act.put, List.setIfInBounds_toArray, List.set_cons_succ, List.set_cons_zero]; go_big_quiet_on)))
    (try refine wpQuiet_nil ?_)
    (rw [wpMixC])
    (rw [wpMix])
    (refine hQ' _ _ ?_)
    go_wp2_with fail
    go_ret
    exact ⟨ret_int HV.out.symm, by exact BelowA⟩
   ·have HL := hid (show lz ≤ hz by omega)
    go_wp2_with fail
    refine wp_mixC (fun wc => Below (wr.heap.size) wr wc) 9 [.q [0, 1, 2, 3, 4, 5, 6, 7, 8]] [] (by kernel_rfl) (by kernel_rfl) ((Below.refl _ _).drew) ?_
    intro Q' hQ'
    (rw [wpMixC]; simp only [pick, List.drop_succ_cons, List.drop_zero, List.head?_cons, Option.toList_some, List.cons_append, List.nil_append])
    (repeat (first | go_big_quiet_skip | (go_big_quiet_want; refine quiet_simple rfl ?_; go_big_quiet_op; go_big_quiet_on) | (go_big_quiet_want; refine quiet_cellB (ty := 3) rfl rfl (by kernel_rfl) (by assumption) (by first | omega | (simp; omega)) ?_; simp only [Act.put, List.setIfInBounds_toArray, List.set_cons_succ, List.set_cons_zero]; go_big_quiet_on)))
    (try refine wpQuiet_nil ?_)
    (rw [wpMixC])
    (rw [wpMix])
    (refine hQ' _ _ ?_)
    go_wp2_with fail
    go_roundw
    case rel => exact ⟨3, by omega, by go_num, hid ⟨fun _ => HO.out.1 (by omega), fun _ => HO.out.2.1 (by omega), fun _ => HL.out⟩, hbel.trans (((Below.refl _ _).drew).mono hbel.size)⟩
    case measure => simp [intOf]
  ·have hok : OK := HOK.out.2 ⟨HO.out.1 (by omega), HO.out.2.1 (by omega), HO.out.2.2 (by omega)⟩
   have HV := hid (HVC.out hok)
   have HC3 := hid (HC2.out hok)
   clear hok
   go_wp2_with (first | (go_at_call 103; refine (HC3.out _).mono ?_; rintro _ w4 ⟨rfl, hb4⟩) | (go_at_call 72; refine (track_unless _ _ _).mono ?_; rintro _ _ ⟨rfl, rfl⟩))
   go_ret
   exact ⟨ret_int HV.out.symm, by exact BelowA⟩
end Go.Proofs.Ytlmdmpjfehpjeaa
set_option linter.unusedVariables false
set_option linter.unusedSimpArgs false
namespace Go.Proofs.Ytlmdmpjfehpjeaa
open Go.RowKit
section
variable {H : Type} {enc : TypeId × Value → H} {P : Program} {w : World} {base : Nat} {spare : Nat → Bool} {held : Bool}
end
section
variable {H : Type} {enc : TypeId × Value → H} {w : World} {base : Nat} {spare : Nat → Bool} {held : Bool} {r : Reach} {b0 : Nat}
end
end Go.Proofs.Ytlmdmpjfehpjeaa
set_option linter.unusedVariables false
set_option linter.unusedSimpArgs false
namespace Go.Proofs.Ytlmdmpjfehpjeaa
open Go.RowKit Ev
theorem mx_if (a b : Int) : (if b > a then b else a) = max a b := by split <;> omega
theorem mn_if (a b : Int) : (if b < a then b else a) = min a b := by split <;> omega
def sqW (lo hi : Int) : Rg := if lo ≤ 0 ∧ hi ≥ 0 then ⟨0, max (wr (lo * lo)) (wr (hi * hi))⟩ else ⟨min (wr (lo * lo)) (wr (hi * hi)), max (wr (lo * lo)) (wr (hi * hi))⟩
def Rg.plusW (r s : Rg) : Rg := ⟨wr (r.lo + s.lo), wr (r.hi + s.hi)⟩
def sqsW (b : TBox) : Rg := ((Rg.plusW ⟨0, 0⟩ (sqW b.lo.x b.hi.x)).plusW (sqW b.lo.y b.hi.y)).plusW (sqW b.lo.z b.hi.z)
def canW (m : TMod) (b : TBox) : Bool := decide ((sqsW b).hi ≥ m.lo) && decide ((sqsW b).lo ≤ m.hi)
def con_base_Within : Con := fun args => match args with
 | [.t (.c (.v (.int .i64 a))), .t (.c (.v (.int .i64 b))), .t (.c (.v (.int .i64 c)))] => some (.t (.c (.v (.bool (inB a b c)))), none, false)
 | _ => none
theorem ok_base_Within : Ok Try.prog 26 con_base_Within := by
 refine Ok.oldG (Enters.of (fn := Try.f26) (by kernel_rfl) (by kernel_rfl) (by kernel_rfl)) fun args r pre fresh h hp => ?_
 unfold con_base_Within at h
 split at h
 ·rename_i a b c
  cases h
  refine ⟨rfl, _, rfl, fun W N vs hv => ?_⟩
  obtain ⟨u0, ws0, k0, g0, hv0⟩ := hv.cons_inv
  subst k0
  have e0 := plain_arg rfl g0
  subst e0
  obtain ⟨u1, ws1, k1, g1, hv1⟩ := hv0.cons_inv
  subst k1
  have e1 := plain_arg rfl g1
  subst e1
  obtain ⟨u2, ws2, k2, g2, hv2⟩ := hv1.cons_inv
  subst k2
  have e2 := plain_arg rfl g2
  subst e2
  have ev := hv2.nil_inv
  subst ev
  exact (base_Within a b c W).mono fun e w' h => ⟨h.1, h.2 ▸ Below.refl _ _⟩
 ·cases h
def S1 : Sum := addS noS 26 con_base_Within
theorem VS1 : Valid Try.prog S1 := Valid.add Valid.no ok_base_Within
def vc_ref05_isSide (n : Int) (post : DV → Prop) : Prop := post (.t (.c (.v (.bool (inB n (-20 : Int) (20 : Int))))))
def ann_ref05_isSide : Ann := ⟨fun _ => none, fun _ => none, fun _ => [], noIt, false, fun _ => none, fun _ => none⟩
theorem ev_ref05_isSide (J : Inv) (n : Int) (post : DV → Prop) : evFn Try.prog tab S1 ann_ref05_isSide J Try.f97 [.t (.c (.v (.int .i64 n)))] post = vc_ref05_isSide n post := by kernel_rfl
theorem fit_ref05_isSide : okFn ann_ref05_isSide Try.f97 = true := by kernel_rfl
theorem lp_ref05_isSide (J : Inv) (post : DV → Prop) : AllG J (loopsFn Try.prog tab S1 ann_ref05_isSide J Try.f97 post) = (True) := by kernel_rfl
theorem spec_ref05_isSide (n : Int) : vc_ref05_isSide n (fun r => LeD r (.t (.c (.v (.bool (inB n (-20) 20)))))) := by
 exact LeD.refl _
def con_ref05_isSide : Con := fun args => match args with
 | [.t (.c (.v (.int .i64 n)))] => some (.t (.c (.v (.bool (inB n (-20) 20)))), none, false)
 | _ => none
theorem ok_ref05_isSide : Ok Try.prog 97 con_ref05_isSide := by
 refine Ok.fn (ann := ann_ref05_isSide) mixed tabOK VS1 ValidIt.no (fn := Try.f97) (by kernel_rfl) (by kernel_rfl) fit_ref05_isSide fun args r pre fresh h hp => ?_
 unfold con_ref05_isSide at h
 split at h
 ·rename_i n
  cases h
  refine ⟨rfl, fun _ _ _ => False, _, LeA.refl _, Nat.le_of_ble_eq_true (by kernel_rfl), ?_, ?_⟩
  ·rw [ev_ref05_isSide]; exact spec_ref05_isSide n
  ·rw [lp_ref05_isSide]; trivial
 ·cases h
def S2 : Sum := addS S1 97 con_ref05_isSide
theorem VS2 : Valid Try.prog S2 := Valid.add VS1 ok_ref05_isSide
def S3 : Sum := S2
theorem VS3 : Valid Try.prog S3 := VS2
def S4 : Sum := S3
theorem VS4 : Valid Try.prog S4 := VS3
def S5 : Sum := S4
theorem VS5 : Valid Try.prog S5 := VS4
def S6 : Sum := S5
theorem VS6 : Valid Try.prog S6 := VS5
def S7 : Sum := S6
theorem VS7 : Valid Try.prog S7 := VS6
end Go.Proofs.Ytlmdmpjfehpjeaa
set_option linter.unusedVariables false
set_option linter.unusedSimpArgs false
namespace Go.Proofs.Ytlmdmpjfehpjeaa
open Go.RowKit
set_option maxRecDepth 100000 in
set_option maxHeartbeats 4000000 in
theorem track_openBox (m : TMod) (b : TBox) (w : World) :
  Calls Try.prog 92 #[m.v, b.v] w fun e w' => e = .returned (.tuple #[m.v, .int .i64 (firstNZ [m.err, b.err])]) ∧ Below w.heap.size w w' := by
 have HO : Hid (∀ W, Calls Try.prog 119 #[m.v] W fun e w' => e = .returned (.tuple #[m.v, .int .i64 m.err]) ∧ Below W.heap.size W w') := hid (fun W => track_open m W)
 have HC : Hid (∀ W, Calls Try.prog 47 #[b.v] W fun e w' => e = .returned (.int .i64 b.err) ∧ Below W.heap.size W w') := hid (fun W => track_CheckBox b W)
 have HFI : Hid (∀ v w, IntsAt w v [m.err, b.err] → Calls Try.prog 69 #[v] w fun e w' => e = .returned (.int .i64 (firstNZ [m.err, b.err])) ∧ w = w') := hid (fun v w h => track_first _ v w h)
 generalize firstNZ [m.err, b.err] = E at HFI ⊢
 generalize m.err = EM at HO HFI
 generalize b.err = EB at HC HFI
 obtain ⟨px, py, pz, tm, tk, lo, hi, li, ea, la, no, mi⟩ := m
 obtain ⟨⟨lx, ly, lz⟩, ⟨hx, hy, hz⟩⟩ := b
 unfold TMod.v TBox.v at *
 simp only at *
 obtain ⟨W0, hW0⟩ : ∃ W0, W0 = ((w.alloc (.cells #[.int .i64 px, .int .i64 py, .int .i64 pz, .int .i64 tm, .int .i64 tk, .int .i64 lo, .int .i64 hi, .int .i64 li, .int .i64 ea, .int .i64 la, .int .i64 no, .int .i64 mi] 26)).alloc (.cells #[.int .i64 lx, .int .i64 ly, .int .i64 lz, .int .i64 hx, .int .i64 hy, .int .i64 hz] 75)).alloc (.cells #[.int .i64 0, .int .i64 0, .int .i64 0, .int .i64 0, .int .i64 0, .int .i64 0, .int .i64 0, .int .i64 0, .int .i64 0, .int .i64 0, .int .i64 0, .int .i64 0] 134) := ⟨_, rfl⟩
 have hbW0 : Below w.heap.size w W0 := by rw [hW0]; exact BelowA
 obtain ⟨q0, q1, q2⟩ := al3 w _ _ _ _ _ _ W0 hW0
 have l1 := (Array.getElem?_eq_some_iff.1 q1).1
 have l2 := (Array.getElem?_eq_some_iff.1 q2).1
 have Q1 := hid q1
 have Q2 := hid q2
 have hzW0 := hbW0.size
 clear q0 q1 q2
 go_enter Try.func92, Try.ntmps92
 go_wp2_with (go_at_call 119; rw [← hW0]; refine (HO.out _).mono ?_; rintro _ w1 ⟨rfl, hb1⟩)
 have hz1 : W0.heap.size ≤ w1.heap.size := hb1.size
 obtain ⟨W2, hW2⟩ : ∃ W2, W2 = w1.alloc (.cells #[.int .i64 px, .int .i64 py, .int .i64 pz, .int .i64 tm, .int .i64 tk, .int .i64 lo, .int .i64 hi, .int .i64 li, .int .i64 ea, .int .i64 la, .int .i64 no, .int .i64 mi] 134) := ⟨_, rfl⟩
 have hb12 : Below w1.heap.size w1 W2 := by rw [hW2]; exact BelowA
 have hb02 : Below W0.heap.size W0 W2 := hb1.trans (hb12.mono hz1)
 have r0 : W2.heap[w1.heap.size]? = some (.cells #[.int .i64 px, .int .i64 py, .int .i64 pz, .int .i64 tm, .int .i64 tk, .int .i64 lo, .int .i64 hi, .int .i64 li, .int .i64 ea, .int .i64 la, .int .i64 no, .int .i64 mi] 134 (0, 0)) := by rw [hW2]; exact heap_alloc_new w1 _
 rw [← hW2]
 clear hW2 hW0
 obtain ⟨m0, m1, m2, m3, m4, m5, m6, m7, m8, m9, m10, m11, ml⟩ := tw_cells (r0)
 obtain ⟨b0, b1, b2, b3, b4, b5, hlb⟩ := six_row ((hb02.block (w.heap.size + 1) l1).trans Q1.out)
 have R2 := hid ((hb02.block (w.heap.size + 1 + 1) l2).trans Q2.out)
 have hl2 := (Array.getElem?_eq_some_iff.1 R2.out).1
 have hbw2 : Below w.heap.size w W2 := hbW0.trans (hb02.mono hzW0)
 clear r0
 have fin : ∀ w5 : World, Below W2.heap.size W2 w5 → Below w.heap.size w w5 := fun w5 h => hbw2.trans (h.mono hbw2.size)
 refine wp_mixC (KeepB [w1.heap.size, w.heap.size + 1] W2) 7 [.q [0, 1, 2], .f [3, 4, 5, 6]] [.q [7]] (by kernel_rfl) (by kernel_rfl) ((KeepB.refl (by first | (simp; done) | (simp; omega))).drew) ?_
 intro Q' hQ'
 (rw [wpMixC]; simp only [pick, List.drop_succ_cons, List.drop_zero, List.head?_cons, Option.toList_some, List.cons_append, List.nil_append])
 (repeat (first | go_big_quiet_skip | (go_big_quiet_want; refine quiet_simple rfl ?_; go_big_quiet_op; go_big_quiet_on) | (go_big_quiet_want; refine quiet_agg6K (ty := 75) rfl rfl (by kernel_rfl) (by assumption) (by assumption) (by assumption) (by assumption) (by assumption) (by assumption) (by simp) ?_; simp only [Act.put, List.setIfInBounds_toArray, List.set_cons_succ, List.set_cons_zero]; go_big_quiet_on) | (go_big_quiet_want; refine quiet_agg12K (ty := 134) rfl rfl (by kernel_rfl) (by assumption) (by assumption) (by assumption) (by assumption) (by assumption) (by assumption) (by assumption) (by assumption) (by assumption) (by assumption) (by assumption) (by assumption) (by simp) ?_; simp only [Act.put, List.setIfInBounds_toArray, List.set_cons_succ, List.set_cons_zero]; go_big_quiet_on)))
 (try refine wpQuiet_nil ?_)
 (rw [wpMixC]; simp only [pick, List.drop_succ_cons, List.drop_zero, List.head?_cons, Option.toList_some, List.cons_append, List.nil_append])
 (rw [wpSteps]; go_wp2_with ((go_at_call 47; refine (HC.out _).mono ?_; rintro _ w3 ⟨rfl, hb3⟩)); rw [contF]; refine ⟨?_, ?_⟩; (next => exact KeepA))
 (rw [wpSteps]; go_wp2_with (fail); rw [contF]; refine ⟨?_, ?_⟩; (next => exact KeepA))
 (rw [wpSteps]; go_wp2_with ((go_at_call 69; have hb24 : Below W2.heap.size W2 w3 := (by exact BelowA); obtain ⟨g0, g1, g2, g3, g4, g5, g6, g7, g8, g9, g10, g11, gl⟩ := tw_cells ((hb24.block (w.heap.size + 1 + 1) hl2).trans R2.out); obtain ⟨fg0, fg1, fg2, fg3, fg4, fg5, fg6, fg7, fg8, fg9, fg10, fg11⟩ := tw_frozen ((hb24.block (w.heap.size + 1 + 1) hl2).trans R2.out); have HB04 := hid (fin _ hb24); refine (HFI.out _ _ (intsAt_new _ _ _ _ _ rfl (by simp) (by first | rfl | simp))).mono ?_; rintro _ _ ⟨rfl, rfl⟩)); rw [contF]; refine ⟨?_, ?_⟩; (next => exact KeepA))
 (rw [wpSteps]; go_wp2_with (fail); rw [contF]; refine ⟨?_, ?_⟩; (next => exact KeepA))
 (rw [wpSteps])
 (rw [wpMixC])
 (rw [wpMix]; simp only [pick, List.drop_succ_cons, List.drop_zero, List.head?_cons, Option.toList_some, List.cons_append, List.nil_append])
 (repeat (first | (go_big_quiet_step (fail)) | (quiet_step (fail))))
 (try refine wpQuiet_nil ?_)
 (rw [wpMix])
 (refine hQ' _ _ ?_)
 go_wp2_with fail
 have hb04 := HB04.out
 ((try simp only [Exit.inBlock, Exit.then]); refine bodyPost_ret (v := .tuple #[.agg #[.int .i64 px, .int .i64 py, .int .i64 pz, .int .i64 tm, .int .i64 tk, .int .i64 lo, .int .i64 hi, .int .i64 li, .int .i64 ea, .int .i64 la, .int .i64 no, .int .i64 mi], .int .i64 E]) ?_ rfl ?_; (next => simp [results, Try.results92, go_sem, gl, g0, g1, g2, g3, g4, g5, g6, g7, g8, g9, g10, g11]); refine ⟨?_, ?_⟩; (next => rfl); (next => exact BelowA))
set_option maxRecDepth 100000 in
set_option maxHeartbeats 4000000 in
theorem track_openHits (m : TMod) (b : TBox) (l : List THit) (v : Value) (w : World) (h : HitsAt w v l) :
  Calls Try.prog 95 #[m.v, b.v, v] w fun e w' => e = .returned (.tuple #[m.v, .int .i64 (firstNZ [firstNZ [m.err, b.err], hitsE l])]) ∧ Below w.heap.size w w' := by
 have HO : Hid (∀ W, Calls Try.prog 92 #[m.v, b.v] W fun e w' => e = .returned (.tuple #[m.v, .int .i64 (firstNZ [m.err, b.err])]) ∧ Below W.heap.size W w') := hid (fun W => track_openBox m b W)
 have HC : Hid (∀ W, Below w.heap.size w W → Calls Try.prog 89 #[v] W fun e w' => e = .returned (.int .i64 (hitsE l)) ∧ Below W.heap.size W w') := hid (fun W hb => track_hitsErr l v W (h.below hb))
 have HFI : Hid (∀ v w, IntsAt w v [firstNZ [m.err, b.err], hitsE l] → Calls Try.prog 69 #[v] w fun e w' => e = .returned (.int .i64 (firstNZ [firstNZ [m.err, b.err], hitsE l])) ∧ w = w') := hid (fun v w h => track_first _ v w h)
 obtain ⟨ao, cap, rfl, _, _, _⟩ := h.opn
 clear h
 generalize firstNZ [firstNZ [m.err, b.err], hitsE l] = E at HFI ⊢
 generalize firstNZ [m.err, b.err] = EM at HO HFI
 generalize hitsE l = EB at HC HFI
 obtain ⟨px, py, pz, tm, tk, lo, hi, li, ea, la, no, mi⟩ := m
 obtain ⟨⟨lx, ly, lz⟩, ⟨hx, hy, hz⟩⟩ := b
 unfold TMod.v TBox.v at *
 simp only at *
 obtain ⟨W0, hW0⟩ : ∃ W0, W0 = ((w.alloc (.cells #[.int .i64 px, .int .i64 py, .int .i64 pz, .int .i64 tm, .int .i64 tk, .int .i64 lo, .int .i64 hi, .int .i64 li, .int .i64 ea, .int .i64 la, .int .i64 no, .int .i64 mi] 26)).alloc (.cells #[.int .i64 lx, .int .i64 ly, .int .i64 lz, .int .i64 hx, .int .i64 hy, .int .i64 hz] 75)).alloc (.cells #[.int .i64 0, .int .i64 0, .int .i64 0, .int .i64 0, .int .i64 0, .int .i64 0, .int .i64 0, .int .i64 0, .int .i64 0, .int .i64 0, .int .i64 0, .int .i64 0] 134) := ⟨_, rfl⟩
 have hbW0 : Below w.heap.size w W0 := by rw [hW0]; exact BelowA
 obtain ⟨q0, q1, q2⟩ := al3 w _ _ _ _ _ _ W0 hW0
 have l1 := (Array.getElem?_eq_some_iff.1 q1).1
 have l2 := (Array.getElem?_eq_some_iff.1 q2).1
 have Q1 := hid q1
 have Q2 := hid q2
 have hzW0 := hbW0.size
 clear q0 q1 q2
 go_enter Try.func95, Try.ntmps95
 go_wp2_with (go_at_call 92; rw [← hW0]; refine (HO.out _).mono ?_; rintro _ w1 ⟨rfl, hb1⟩)
 have hz1 : W0.heap.size ≤ w1.heap.size := hb1.size
 obtain ⟨W2, hW2⟩ : ∃ W2, W2 = w1.alloc (.cells #[.int .i64 px, .int .i64 py, .int .i64 pz, .int .i64 tm, .int .i64 tk, .int .i64 lo, .int .i64 hi, .int .i64 li, .int .i64 ea, .int .i64 la, .int .i64 no, .int .i64 mi] 134) := ⟨_, rfl⟩
 have hb12 : Below w1.heap.size w1 W2 := by rw [hW2]; exact BelowA
 have hb02 : Below W0.heap.size W0 W2 := hb1.trans (hb12.mono hz1)
 have r0 : W2.heap[w1.heap.size]? = some (.cells #[.int .i64 px, .int .i64 py, .int .i64 pz, .int .i64 tm, .int .i64 tk, .int .i64 lo, .int .i64 hi, .int .i64 li, .int .i64 ea, .int .i64 la, .int .i64 no, .int .i64 mi] 134 (0, 0)) := by rw [hW2]; exact heap_alloc_new w1 _
 rw [← hW2]
 clear hW2 hW0
 obtain ⟨m0, m1, m2, m3, m4, m5, m6, m7, m8, m9, m10, m11, ml⟩ := tw_cells (r0)
 have hlb : w.heap.size + 1 < W2.heap.size := by omega
 have R2 := hid ((hb02.block (w.heap.size + 1 + 1) l2).trans Q2.out)
 have hl2 := (Array.getElem?_eq_some_iff.1 R2.out).1
 have hbw2 : Below w.heap.size w W2 := hbW0.trans (hb02.mono hzW0)
 clear r0
 have fin : ∀ w5 : World, Below W2.heap.size W2 w5 → Below w.heap.size w w5 := fun w5 h => hbw2.trans (h.mono hbw2.size)
 refine wp_mixC (KeepB [w1.heap.size] W2) 7 [.q [0, 1, 2], .f [3, 4, 5, 6]] [.q [7]] (by kernel_rfl) (by kernel_rfl) ((KeepB.refl (by first | (simp; done) | (simp; omega))).drew) ?_
 intro Q' hQ'
 (rw [wpMixC]; simp only [pick, List.drop_succ_cons, List.drop_zero, List.head?_cons, Option.toList_some, List.cons_append, List.nil_append])
 (repeat (first | go_big_quiet_skip | (go_big_quiet_want; refine quiet_simple rfl ?_; go_big_quiet_op; go_big_quiet_on) | (go_big_quiet_want; refine quiet_agg12K (ty := 134) rfl rfl (by kernel_rfl) (by assumption) (by assumption) (by assumption) (by assumption) (by assumption) (by assumption) (by assumption) (by assumption) (by assumption) (by assumption) (by assumption) (by assumption) (by simp) ?_; simp only [Act.put, List.setIfInBounds_toArray, List.set_cons_succ, List.set_cons_zero]; go_big_quiet_on)))
 (try refine wpQuiet_nil ?_)
 (rw [wpMixC]; simp only [pick, List.drop_succ_cons, List.drop_zero, List.head?_cons, Option.toList_some, List.cons_append, List.nil_append])
 (rw [wpSteps]; go_wp2_with ((go_at_call 89; refine (HC.out _ (fin _ (by exact BelowA))).mono ?_; rintro _ w3 ⟨rfl, hb3⟩)); rw [contF]; refine ⟨?_, ?_⟩; (next => exact KeepA))
 (rw [wpSteps]; go_wp2_with (fail); rw [contF]; refine ⟨?_, ?_⟩; (next => exact KeepA))
 (rw [wpSteps]; go_wp2_with ((go_at_call 69; have hb24 : Below W2.heap.size W2 w3 := (by exact BelowA); obtain ⟨g0, g1, g2, g3, g4, g5, g6, g7, g8, g9, g10, g11, gl⟩ := tw_cells ((hb24.block (w.heap.size + 1 + 1) hl2).trans R2.out); obtain ⟨fg0, fg1, fg2, fg3, fg4, fg5, fg6, fg7, fg8, fg9, fg10, fg11⟩ := tw_frozen ((hb24.block (w.heap.size + 1 + 1) hl2).trans R2.out); have HB04 := hid (fin _ hb24); refine (HFI.out _ _ (intsAt_new _ _ _ _ _ rfl (by simp) (by first | rfl | simp))).mono ?_; rintro _ _ ⟨rfl, rfl⟩)); rw [contF]; refine ⟨?_, ?_⟩; (next => exact KeepA))
 (rw [wpSteps]; go_wp2_with (fail); rw [contF]; refine ⟨?_, ?_⟩; (next => exact KeepA))
 (rw [wpSteps])
 (rw [wpMixC])
 (rw [wpMix]; simp only [pick, List.drop_succ_cons, List.drop_zero, List.head?_cons, Option.toList_some, List.cons_append, List.nil_append])
 (repeat (first | (go_big_quiet_step (fail)) | (quiet_step (fail))))
 (try refine wpQuiet_nil ?_)
 (rw [wpMix])
 (refine hQ' _ _ ?_)
 go_wp2_with fail
 have hb04 := HB04.out
 ((try simp only [Exit.inBlock, Exit.then]); refine bodyPost_ret (v := .tuple #[.agg #[.int .i64 px, .int .i64 py, .int .i64 pz, .int .i64 tm, .int .i64 tk, .int .i64 lo, .int .i64 hi, .int .i64 li, .int .i64 ea, .int .i64 la, .int .i64 no, .int .i64 mi], .int .i64 E]) ?_ rfl ?_; (next => simp [results, Try.results95, go_sem, gl, g0, g1, g2, g3, g4, g5, g6, g7, g8, g9, g10, g11]); refine ⟨?_, ?_⟩; (next => rfl); (next => exact BelowA))
end Go.Proofs.Ytlmdmpjfehpjeaa
set_option linter.unusedVariables false
set_option linter.unusedSimpArgs false
namespace Go.Proofs.Ytlmdmpjfehpjeaa
open Go.RowKit
def Rg.v (r : Rg) : Value := .agg #[.int .i64 r.lo, .int .i64 r.hi]
set_option maxRecDepth 100000 in
set_option maxHeartbeats 4000000 in
theorem track_plus (r s : Rg) (w : World) (h1 : -4000000000000000000 ≤ r.lo ∧ r.lo ≤ 4000000000000000000) (h2 : -4000000000000000000 ≤ r.hi ∧ r.hi ≤ 4000000000000000000) (h3 : -4000000000000000000 ≤ s.lo ∧ s.lo ≤ 4000000000000000000) (h4 : -4000000000000000000 ≤ s.hi ∧ s.hi ≤ 4000000000000000000) :
  Calls Try.prog 129 #[r.v, s.v] w fun e w' => e = .returned (r.plus s).v ∧ Below w.heap.size w w' := by
 obtain ⟨a, b⟩ := r
 obtain ⟨c, d⟩ := s
 unfold Rg.v Rg.plus
 simp only at *
 go_enter Try.func129, Try.ntmps129
 go_wp2_with fail
 ((try simp only [Exit.inBlock, Exit.then]); refine bodyPost_ret (v := .agg #[.int .i64 (a + c), .int .i64 (b + d)]) ?_ rfl ?_; (next => simp [results, Try.results129, go_sem]); refine ⟨?_, ?_⟩; (next => rfl); (next => exact BelowA))
set_option maxRecDepth 100000 in
set_option maxHeartbeats 4000000 in
theorem track_square (r : Rg) (w : World) (h1 : -3000000000 ≤ r.lo ∧ r.lo ≤ 3000000000) (h2 : -3000000000 ≤ r.hi ∧ r.hi ≤ 3000000000) :
  Calls Try.prog 130 #[r.v] w fun e w' => e = .returned r.square.v ∧ Below w.heap.size w w' := by
 obtain ⟨a, b⟩ := r
 simp only at *
 have g1 := mul_rg h1 h1 (C := 9000000000000000000) (by decide)
 have g2 := mul_rg h2 h2 (C := 9000000000000000000) (by decide)
 have HV : Hid ((⟨a, b⟩ : Rg).square = if a ≤ 0 ∧ 0 ≤ b then ⟨0, max (a * a) (b * b)⟩ else ⟨min (a * a) (b * b), max (a * a) (b * b)⟩) := hid rfl
 obtain ⟨A, hA⟩ : ∃ A, a * a = A := ⟨_, rfl⟩
 obtain ⟨B, hB⟩ : ∃ B, b * b = B := ⟨_, rfl⟩
 have k1 : IntKind.i64.wrap (a * a) = A := by rw [hA]; exact IntWalk.i64_in _ (by omega)
 have k2 : IntKind.i64.wrap (b * b) = B := by rw [hB]; exact IntWalk.i64_in _ (by omega)
 rw [hA] at g1 HV
 rw [hB] at g2 HV
 generalize (⟨a, b⟩ : Rg).square = Q at HV ⊢
 unfold Rg.v
 simp only
 obtain ⟨W, hW⟩ : ∃ W, W = (w.alloc (.cells #[.int .i64 a, .int .i64 b] 157)).alloc (.cells #[.int .i64 0, .int .i64 0] 157) := ⟨_, rfl⟩
 have hbW : Below w.heap.size w W := by rw [hW]; exact BelowA
 obtain ⟨q0, q1, l0, l1⟩ := al2 w _ _ _ _ W hW
 obtain ⟨c0, c1, fc0, fc1, hlc⟩ := two_cells q0
 obtain ⟨g0, g1', fg0, fg1, hlg⟩ := two_cells q1
 clear q0 q1 hA hB fc0 fc1
 by_cases p1 : a ≤ 0
 ·by_cases p2 : 0 ≤ b
  ·have HQ : Hid (Q.lo = 0 ∧ Q.hi = max A B) := hid (by rw [HV.out, if_pos ⟨p1, p2⟩]; exact ⟨rfl, rfl⟩)
   go_enter Try.func130, Try.ntmps130
   go_wp2_with fail
   rw [← hW]
   clear hW
   refine wp_mixC (fun wc => Below (W.heap.size) W wc) 11 [.q [0, 1, 2, 3, 4, 5, 6, 7, 8, 9, 10]] [.q [11]] (by kernel_rfl) (by kernel_rfl) ((Below.refl _ _).drew) ?_
   intro Q' hQ'
   (rw [wpMixC]; simp only [pick, List.drop_succ_cons, List.drop_zero, List.head?_cons, Option.toList_some, List.cons_append, List.nil_append])
   (repeat (first | go_big_quiet_skip | (go_big_quiet_want; refine quiet_simple rfl ?_; go_big_quiet_op; go_big_quiet_on) | (go_big_quiet_want; refine quiet_cellB (ty := 3) rfl rfl (by kernel_rfl) (by assumption) (by first | omega | (simp; omega)) ?_; simp only [Act.put, List.setIfInBounds_toArray, List.set_cons_succ, List.set_cons_zero]; go_big_quiet_on)))
   (try refine wpQuiet_nil ?_)
   (rw [wpMixC])
   (rw [wpMix]; simp only [pick, List.drop_succ_cons, List.drop_zero, List.head?_cons, Option.toList_some, List.cons_append, List.nil_append])
   (repeat (first | (go_big_quiet_step (fail)) | (quiet_step (fail))))
   (try refine wpQuiet_nil ?_)
   (rw [wpMix])
   (refine hQ' _ _ ?_)
   go_wp2_with fail
   all_goals
    ((try simp only [Exit.inBlock, Exit.then]); refine bodyPost_ret (v := .agg #[.int .i64 0, .int .i64 (max A B)]) ?_ rfl ?_; (next => (simp [results, Try.results130, go_sem, hlg, g0, g1'] <;> omega)))
    exact ⟨by rw [HQ.out.1, HQ.out.2], by exact BelowA⟩
  ·have HQ : Hid (Q.lo = min A B ∧ Q.hi = max A B) := hid (by rw [HV.out, if_neg (fun h => p2 h.2)]; exact ⟨rfl, rfl⟩)
   go_enter Try.func130, Try.ntmps130
   go_wp2_with fail
   rw [← hW]
   clear hW
   refine wp_mixC (fun wc => Below (W.heap.size) W wc) 11 [.q [0, 1, 2, 3, 4, 5, 6, 7, 8, 9, 10]] [.q [11]] (by kernel_rfl) (by kernel_rfl) ((Below.refl _ _).drew) ?_
   intro Q' hQ'
   (rw [wpMixC]; simp only [pick, List.drop_succ_cons, List.drop_zero, List.head?_cons, Option.toList_some, List.cons_append, List.nil_append])
   (repeat (first | go_big_quiet_skip | (go_big_quiet_want; refine quiet_simple rfl ?_; go_big_quiet_op; go_big_quiet_on) | (go_big_quiet_want; refine quiet_cellB (ty := 3) rfl rfl (by kernel_rfl) (by assumption) (by first | omega | (simp; omega)) ?_; simp only [Act.put, List.setIfInBounds_toArray, List.set_cons_succ, List.set_cons_zero]; go_big_quiet_on)))
   (try refine wpQuiet_nil ?_)
   (rw [wpMixC])
   (rw [wpMix]; simp only [pick, List.drop_succ_cons, List.drop_zero, List.head?_cons, Option.toList_some, List.cons_append, List.nil_append])
   (repeat (first | (go_big_quiet_step (fail)) | (quiet_step (fail))))
   (try refine wpQuiet_nil ?_)
   (rw [wpMix])
   (refine hQ' _ _ ?_)
   go_wp2_with fail
   all_goals
    ((try simp only [Exit.inBlock, Exit.then]); refine bodyPost_ret (v := .agg #[.int .i64 (min A B), .int .i64 (max A B)]) ?_ rfl ?_; (next => (simp [results, Try.results130, go_sem, hlg, g0, g1'] <;> omega)))
    exact ⟨by rw [HQ.out.1, HQ.out.2], by exact BelowA⟩
 ·have HQ : Hid (Q.lo = min A B ∧ Q.hi = max A B) := hid (by rw [HV.out, if_neg (fun h => p1 h.1)]; exact ⟨rfl, rfl⟩)
  go_enter Try.func130, Try.ntmps130
  go_wp2_with fail
  rw [← hW]
  clear hW
  refine wp_mixC (fun wc => Below (W.heap.size) W wc) 11 [.q [0, 1, 2, 3, 4, 5, 6, 7, 8, 9, 10]] [.q [11]] (by kernel_rfl) (by kernel_rfl) ((Below.refl _ _).drew) ?_
  intro Q' hQ'
  (rw [wpMixC]; simp only [pick, List.drop_succ_cons, List.drop_zero, List.head?_cons, Option.toList_some, List.cons_append, List.nil_append])
  (repeat (first | go_big_quiet_skip | (go_big_quiet_want; refine quiet_simple rfl ?_; go_big_quiet_op; go_big_quiet_on) | (go_big_quiet_want; refine quiet_cellB (ty := 3) rfl rfl (by kernel_rfl) (by assumption) (by first | omega | (simp; omega)) ?_; simp only [Act.put, List.setIfInBounds_toArray, List.set_cons_succ, List.set_cons_zero]; go_big_quiet_on)))
  (try refine wpQuiet_nil ?_)
  (rw [wpMixC])
  (rw [wpMix]; simp only [pick, List.drop_succ_cons, List.drop_zero, List.head?_cons, Option.toList_some, List.cons_append, List.nil_append])
  (repeat (first | (go_big_quiet_step (fail)) | (quiet_step (fail))))
  (try refine wpQuiet_nil ?_)
  (rw [wpMix])
  (refine hQ' _ _ ?_)
  go_wp2_with fail
  all_goals
   ((try simp only [Exit.inBlock, Exit.then]); refine bodyPost_ret (v := .agg #[.int .i64 (min A B), .int .i64 (max A B)]) ?_ rfl ?_; (next => (simp [results, Try.results130, go_sem, hlg, g0, g1'] <;> omega)))
   exact ⟨by rw [HQ.out.1, HQ.out.2], by exact BelowA⟩
set_option maxRecDepth 100000 in
set_option maxHeartbeats 4000000 in
theorem slices_Min (a b c d : Int) (v : Value) (w : World) (h : IntsAt w v [a, b, c, d]) :
  Calls Try.prog 145 #[v] w fun e w' => e = .returned (.int .i64 (mn4 a b c d)) ∧ Below w.heap.size w w' := by
 obtain ⟨ao, cap, rfl, h1, h2, h3⟩ := h.opn
 obtain ⟨g, off, rfl, hb, hc⟩ := h3 0 (by simp)
 have c0 := hc 0 (by simp)
 have c1 := hc 1 (by simp)
 have c2 := hc 2 (by simp)
 have c3 := hc 3 (by simp)
 rw [show nth [a, b, c, d] 0 = a from rfl, Nat.add_zero] at c0
 rw [show nth [a, b, c, d] 1 = b from rfl] at c1
 rw [show nth [a, b, c, d] 2 = c from rfl] at c2
 rw [show nth [a, b, c, d] 3 = d from rfl] at c3
 have HV : Hid (mn4 a b c d = min (min (min a b) c) d) := hid rfl
 generalize mn4 a b c d = R at HV ⊢
 simp only [List.length_cons, List.length_nil, Nat.zero_add, Nat.reduceAdd] at *
 clear hc h3 h
 unfold maxLen at h2
 go_enter Try.func145, Try.ntmps145
 go_wp2_with fail
 refine wp_loop_rounds 4 ?_
 repeat any_goals (rw [rounds_succ]; go_wp2_with fail)
 all_goals go_ret
 all_goals exact ⟨ret_int (by rw [HV.out]; omega), Below.refl _ _⟩
set_option maxRecDepth 100000 in
set_option maxHeartbeats 4000000 in
theorem slices_Max (a b c d : Int) (v : Value) (w : World) (h : IntsAt w v [a, b, c, d]) :
  Calls Try.prog 146 #[v] w fun e w' => e = .returned (.int .i64 (mx4 a b c d)) ∧ Below w.heap.size w w' := by
 obtain ⟨ao, cap, rfl, h1, h2, h3⟩ := h.opn
 obtain ⟨g, off, rfl, hb, hc⟩ := h3 0 (by simp)
 have c0 := hc 0 (by simp)
 have c1 := hc 1 (by simp)
 have c2 := hc 2 (by simp)
 have c3 := hc 3 (by simp)
 rw [show nth [a, b, c, d] 0 = a from rfl, Nat.add_zero] at c0
 rw [show nth [a, b, c, d] 1 = b from rfl] at c1
 rw [show nth [a, b, c, d] 2 = c from rfl] at c2
 rw [show nth [a, b, c, d] 3 = d from rfl] at c3
 have HV : Hid (mx4 a b c d = max (max (max a b) c) d) := hid rfl
 generalize mx4 a b c d = R at HV ⊢
 simp only [List.length_cons, List.length_nil, Nat.zero_add, Nat.reduceAdd] at *
 clear hc h3 h
 unfold maxLen at h2
 go_enter Try.func146, Try.ntmps146
 go_wp2_with fail
 refine wp_loop_rounds 4 ?_
 repeat any_goals (rw [rounds_succ]; go_wp2_with fail)
 all_goals go_ret
 all_goals exact ⟨ret_int (by rw [HV.out]; omega), Below.refl _ _⟩
end Go.Proofs.Ytlmdmpjfehpjeaa
set_option linter.unusedVariables false
set_option linter.unusedSimpArgs false
namespace Go.Proofs.Ytlmdmpjfehpjeaa
open Go.RowKit
theorem run_sl4 (b : Nat) (w : World) : (Instr.sliceAt 128 (.pointer (some ⟨b, 0, none⟩)) none none none).run Try.prog w = .ok (.slice (some ⟨b, 0, none⟩) 4 4) w := by kernel_rfl
theorem quiet_sl128 {o : Oper} {a : Act} {C : World → Prop} {K : Act → Prop} {x : Operand} {b : Nat} (ho : o.op = .slice 128 x none none none) (hx : a.eval x = .pointer (some ⟨b, 0, none⟩)) (hK : K (a.put o.dst (.slice (some ⟨b, 0, none⟩) 4 4))) : o.quiet Try.prog a C K :=
 quiet_val _ (fun w _ => by
  unfold execOp
  simp only [ho, hx, Option.map_none]
  simp [go_sem, run_sl4]) hK
set_option maxRecDepth 100000 in
set_option maxHeartbeats 4000000 in
theorem track_times (r s : Rg) (w : World) (h1 : -4000000000000000000 ≤ r.lo * s.lo ∧ r.lo * s.lo ≤ 4000000000000000000) (h2 : -4000000000000000000 ≤ r.lo * s.hi ∧ r.lo * s.hi ≤ 4000000000000000000) (h3 : -4000000000000000000 ≤ r.hi * s.lo ∧ r.hi * s.lo ≤ 4000000000000000000) (h4 : -4000000000000000000 ≤ r.hi * s.hi ∧ r.hi * s.hi ≤ 4000000000000000000) :
  Calls Try.prog 131 #[r.v, s.v] w fun e w' => e = .returned (r.times s).v ∧ Below w.heap.size w w' := by
 have HV : Hid ((r.times s).lo = mn4 (r.lo * s.lo) (r.lo * s.hi) (r.hi * s.lo) (r.hi * s.hi) ∧ (r.times s).hi = mx4 (r.lo * s.lo) (r.lo * s.hi) (r.hi * s.lo) (r.hi * s.hi)) := hid ⟨rfl, rfl⟩
 generalize r.times s = T at HV ⊢
 obtain ⟨a, b⟩ := r
 obtain ⟨c, d⟩ := s
 simp only at *
 obtain ⟨P1, hP1⟩ : ∃ P, a * c = P := ⟨_, rfl⟩
 obtain ⟨P2, hP2⟩ : ∃ P, a * d = P := ⟨_, rfl⟩
 obtain ⟨P3, hP3⟩ : ∃ P, b * c = P := ⟨_, rfl⟩
 obtain ⟨P4, hP4⟩ : ∃ P, b * d = P := ⟨_, rfl⟩
 rw [hP1] at h1 HV
 rw [hP2] at h2 HV
 rw [hP3] at h3 HV
 rw [hP4] at h4 HV
 have HMIN : Hid (∀ (v : Value) (w : World), IntsAt w v [P1, P2, P3, P4] → Calls Try.prog 145 #[v] w fun e w' => e = .returned (.int .i64 T.lo) ∧ Below w.heap.size w w') := hid (fun v w h => by rw [HV.out.1]; exact slices_Min _ _ _ _ v w h)
 have HMAX : Hid (∀ (v : Value) (w : World), IntsAt w v [P1, P2, P3, P4] → Calls Try.prog 146 #[v] w fun e w' => e = .returned (.int .i64 T.hi) ∧ Below w.heap.size w w') := hid (fun v w h => by rw [HV.out.2]; exact slices_Max _ _ _ _ v w h)
 clear HV
 obtain ⟨tl, th⟩ := T
 unfold Rg.v
 simp only at *
 obtain ⟨W0, hW0⟩ : ∃ W0, W0 = ((w.alloc (.cells #[.int .i64 a, .int .i64 b] 157)).alloc (.cells #[.int .i64 c, .int .i64 d] 157)).alloc (.cells #[.int .i64 0, .int .i64 0] 157) := ⟨_, rfl⟩
 have hbW0 : Below w.heap.size w W0 := by rw [hW0]; exact BelowA
 obtain ⟨q0, q1, q2⟩ := al3 w _ _ _ _ _ _ W0 hW0
 have l2 := (Array.getElem?_eq_some_iff.1 q2).1
 have Q2 := hid q2
 have hzW0 := hbW0.size
 clear q0 q1 q2
 go_enter Try.func131, Try.ntmps131
 go_wp2_with fail
 rw [← hW0]
 obtain ⟨W, hW⟩ : ∃ W, W = W0.alloc (.cells #[.int .i64 P1, .int .i64 P2, .int .i64 P3, .int .i64 P4] 128) := ⟨_, rfl⟩
 have hbW : Below W0.heap.size W0 W := by rw [hW]; exact BelowA
 have HI : Hid (∀ W', Below W.heap.size W W' → IntsAt W' (.slice (some ⟨W0.heap.size, 0, none⟩) 4 4) [P1, P2, P3, P4]) := hid (fun W' h => ((by rw [hW]; exact intsAt_new W0 128 [P1, P2, P3, P4] 4 W0.heap.size rfl (by omega) rfl) : IntsAt W _ _).below h)
 have R2 := hid ((hbW.block (w.heap.size + 1 + 1) l2).trans Q2.out)
 have hlW0 : W0.heap.size < W.heap.size := by rw [hW]; simp
 have hz0 : W0.heap.size = w.heap.size + 1 + 1 + 1 := by rw [hW0]; simp
 rw [← hW]
 rw [hz0] at HI hlW0
 clear hW hW0
 have fin : ∀ w5 : World, Below W.heap.size W w5 → Below w.heap.size w w5 := fun w5 h => (hbW0.trans (hbW.mono hzW0)).trans (h.mono (Nat.le_trans hzW0 hbW.size))
 have hlR := (Array.getElem?_eq_some_iff.1 R2.out).1
 refine wp_mixC (fun wc => Below ((w.heap.size + 1 + 1)) W wc) 5 [.q [0, 2], .f [1, 3], .q [4]] [.f [5]] (by kernel_rfl) (by kernel_rfl) ((Below.refl _ _).drew) ?_
 intro Q' hQ'
 (rw [wpMixC]; simp only [pick, List.drop_succ_cons, List.drop_zero, List.head?_cons, Option.toList_some, List.cons_append, List.nil_append])
 (repeat (first | go_big_quiet_skip | (go_big_quiet_want; refine quiet_simple rfl ?_; go_big_quiet_op; go_big_quiet_on) | (go_big_quiet_want; refine quiet_sl128 rfl rfl ?_; simp only [Act.put, List.setIfInBounds_toArray, List.set_cons_succ, List.set_cons_zero]; go_big_quiet_on)))
 (try refine wpQuiet_nil ?_)
 (rw [wpMixC]; simp only [pick, List.drop_succ_cons, List.drop_zero, List.head?_cons, Option.toList_some, List.cons_append, List.nil_append])
 (rw [wpSteps]; go_wp2_with ((go_at_call 145; have hbq : Below W.heap.size W W.drew := (by exact BelowA); ((with_reducible refine (HMIN.out _ _ (HI.out _ hbq)).mono ?_); rintro _ w3 ⟨rfl, hb3⟩); have hz3 : W.heap.size ≤ w3.heap.size := hb3.size; have hbm3 : Below (w.heap.size + 1 + 1) W w3 := ((Below.refl (w.heap.size + 1 + 1) W).drew).trans (hb3.mono (by show _ ≤ W.heap.size; omega)))); rw [contF]; refine ⟨?_, ?_⟩; (next => exact BelowA))
 (rw [wpSteps]; go_wp2_with ((go_at_call 146; have hbq3 : Below W.heap.size W w3 := (by exact BelowA); ((with_reducible refine (HMAX.out _ _ (HI.out _ hbq3)).mono ?_); rintro _ w4 ⟨rfl, hb4⟩); have hbm4 : Below (w.heap.size + 1 + 1) W w4 := hbm3.trans (hb4.mono (by omega)); obtain ⟨g0, g1, fg0, fg1, hgl⟩ := two_cells (((hbq3.trans (hb4.mono hbq3.size)).block (w.heap.size + 1 + 1) hlR).trans R2.out))); rw [contF]; refine ⟨?_, ?_⟩; (next => exact BelowA))
 (rw [wpSteps])
 (rw [wpMixC]; simp only [pick, List.drop_succ_cons, List.drop_zero, List.head?_cons, Option.toList_some, List.cons_append, List.nil_append])
 (repeat (first | go_big_quiet_skip | (go_big_quiet_want; refine quiet_simple rfl ?_; go_big_quiet_op; go_big_quiet_on) | (go_big_quiet_want; refine quiet_sl128 rfl rfl ?_; simp only [Act.put, List.setIfInBounds_toArray, List.set_cons_succ, List.set_cons_zero]; go_big_quiet_on)))
 (try refine wpQuiet_nil ?_)
 (rw [wpMixC])
 (rw [wpMix]; simp only [pick, List.drop_succ_cons, List.drop_zero, List.head?_cons, Option.toList_some, List.cons_append, List.nil_append])
 (go_wp2_with ((first | fail)); rw [contF])
 (rw [wpMix])
 (refine hQ' _ _ ?_)
 go_wp2_with fail
 have hbe := fin _ (hbq3.trans (hb4.mono hbq3.size))
 ((try simp only [Exit.inBlock, Exit.then]); refine bodyPost_ret (v := .agg #[.int .i64 tl, .int .i64 th]) ?_ rfl ?_; (next => simp [results, Try.results131, go_sem, hgl, g0, g1]); refine ⟨?_, ?_⟩; (next => rfl); (next => exact BelowA))
end Go.Proofs.Ytlmdmpjfehpjeaa
set_option linter.unusedVariables false
set_option linter.unusedSimpArgs false
namespace Go.Proofs.Ytlmdmpjfehpjeaa
open Go.RowKit
theorem Rg.square_sz {r : Rg} {A C : Int} (h1 : -A ≤ r.lo ∧ r.lo ≤ A) (h2 : -A ≤ r.hi ∧ r.hi ≤ A) (hC : A * A ≤ C) : (0 ≤ r.square.lo ∧ r.square.lo ≤ C) ∧ (0 ≤ r.square.hi ∧ r.square.hi ≤ C) := by
 have g1 := mul_rg h1 h1 hC
 have g2 := mul_rg h2 h2 hC
 have g3 := sq_nn r.lo
 have g4 := sq_nn r.hi
 unfold Rg.square
 split <;> simp only <;> omega
def TMod.canB (m : TMod) (b : TBox) : Bool := decide (m.lo ≤ b.squares.hi) && decide (b.squares.lo ≤ m.hi)
theorem canB_iff {m : TMod} {b : TBox} : m.canB b = true ↔ m.canBe b := by simp [TMod.canB, TMod.canBe]
set_option maxRecDepth 100000 in
set_option maxHeartbeats 8000000 in
theorem track_squares (m : TMod) (b : TBox) (w : World) (hl : b.lo.inS 20 = true) (hh : b.hi.inS 20 = true) :
  Calls Try.prog 93 #[m.v, b.v] w fun e w' => e = .returned (.tuple #[b.squares.v, .bool (m.canB b)]) ∧ Below w.heap.size w w' := by
 obtain ⟨a1, a2, a3⟩ := inS_iff.1 hl
 obtain ⟨b1, b2, b3⟩ := inS_iff.1 hh
 have s1 := Rg.square_sz (r := b.rx) (A := 20) (C := 400) a1 b1 (by decide)
 have s2 := Rg.square_sz (r := b.ry) (A := 20) (C := 400) a2 b2 (by decide)
 have s3 := Rg.square_sz (r := b.rz) (A := 20) (C := 400) a3 b3 (by decide)
 have HQ0 : Hid (∀ W, Calls Try.prog 130 #[b.rx.v] W fun e w' => e = .returned b.rx.square.v ∧ Below W.heap.size W w') := hid (fun W => track_square _ W (by show _ ≤ b.lo.x ∧ b.lo.x ≤ _; omega) (by show _ ≤ b.hi.x ∧ b.hi.x ≤ _; omega))
 have HQ1 : Hid (∀ W, Calls Try.prog 130 #[b.ry.v] W fun e w' => e = .returned b.ry.square.v ∧ Below W.heap.size W w') := hid (fun W => track_square _ W (by show _ ≤ b.lo.y ∧ b.lo.y ≤ _; omega) (by show _ ≤ b.hi.y ∧ b.hi.y ≤ _; omega))
 have HQ2 : Hid (∀ W, Calls Try.prog 130 #[b.rz.v] W fun e w' => e = .returned b.rz.square.v ∧ Below W.heap.size W w') := hid (fun W => track_square _ W (by show _ ≤ b.lo.z ∧ b.lo.z ≤ _; omega) (by show _ ≤ b.hi.z ∧ b.hi.z ≤ _; omega))
 have HS : Hid (b.squares = (((⟨0, 0⟩ : Rg).plus b.rx.square).plus b.ry.square).plus b.rz.square) := hid rfl
 have HCB : Hid (m.canB b = (decide (m.lo ≤ b.squares.hi) && decide (b.squares.lo ≤ m.hi))) := hid rfl
 generalize b.squares = P3 at HS HCB ⊢
 generalize m.canB b = CB at HCB ⊢
 have HP0 : Hid (∀ W, Calls Try.prog 129 #[(⟨0, 0⟩ : Rg).v, b.rx.square.v] W fun e w' => e = .returned ((⟨0, 0⟩ : Rg).plus b.rx.square).v ∧ Below W.heap.size W w') := hid (fun W => track_plus _ _ W (by simp only; omega) (by simp only; omega) (by omega) (by omega))
 have t1 : (0 ≤ ((⟨0, 0⟩ : Rg).plus b.rx.square).lo ∧ ((⟨0, 0⟩ : Rg).plus b.rx.square).lo ≤ 400) ∧ (0 ≤ ((⟨0, 0⟩ : Rg).plus b.rx.square).hi ∧ ((⟨0, 0⟩ : Rg).plus b.rx.square).hi ≤ 400) := by unfold Rg.plus; simp only; omega
 generalize (⟨0, 0⟩ : Rg).plus b.rx.square = P1 at HS HP0 t1
 have HP1 : Hid (∀ W, Calls Try.prog 129 #[P1.v, b.ry.square.v] W fun e w' => e = .returned (P1.plus b.ry.square).v ∧ Below W.heap.size W w') := hid (fun W => track_plus _ _ W (by omega) (by omega) (by omega) (by omega))
 have t2 : (0 ≤ (P1.plus b.ry.square).lo ∧ (P1.plus b.ry.square).lo ≤ 800) ∧ (0 ≤ (P1.plus b.ry.square).hi ∧ (P1.plus b.ry.square).hi ≤ 800) := by unfold Rg.plus; simp only; omega
 generalize P1.plus b.ry.square = P2 at HS HP1 t2
 have HP2 : Hid (∀ W, Calls Try.prog 129 #[P2.v, b.rz.square.v] W fun e w' => e = .returned P3.v ∧ Below W.heap.size W w') := hid (fun W => by rw [HS.out]; exact track_plus _ _ W (by omega) (by omega) (by omega) (by omega))
 clear HS
 generalize b.rx.square = Q0 at HQ0 HP0
 generalize b.ry.square = Q1 at HQ1 HP1
 generalize b.rz.square = Q2 at HQ2 HP2
 simp only [TBox.rx, TBox.ry, TBox.rz] at HQ0 HQ1 HQ2
 clear s1 s2 s3 t1 t2 a1 a2 a3 b1 b2 b3 hl hh
 obtain ⟨px, py, pz, tm, tk, lo, hi, li, ea, la, no, mi⟩ := m
 obtain ⟨⟨lx, ly, lz⟩, ⟨hx, hy, hz⟩⟩ := b
 obtain ⟨q0l, q0h⟩ := Q0
 obtain ⟨q1l, q1h⟩ := Q1
 obtain ⟨q2l, q2h⟩ := Q2
 obtain ⟨p1l, p1h⟩ := P1
 obtain ⟨p2l, p2h⟩ := P2
 obtain ⟨p3l, p3h⟩ := P3
 unfold TMod.v TBox.v Rg.v at *
 simp only at *
 obtain ⟨W0, hW0⟩ : ∃ W0, W0 = (((w.alloc (.cells #[.int .i64 px, .int .i64 py, .int .i64 pz, .int .i64 tm, .int .i64 tk, .int .i64 lo, .int .i64 hi, .int .i64 li, .int .i64 ea, .int .i64 la, .int .i64 no, .int .i64 mi] 134)).alloc (.cells #[.int .i64 lx, .int .i64 ly, .int .i64 lz, .int .i64 hx, .int .i64 hy, .int .i64 hz] 75)).alloc (.cells #[.int .i64 0, .int .i64 0] 157)).alloc (.cells #[.int .i64 0, .int .i64 0] 157) := ⟨_, rfl⟩
 have hbW0 : Below w.heap.size w W0 := by rw [hW0]; exact BelowA
 obtain ⟨hz0, q0, q1, q2, q3⟩ := al4 w _ _ _ _ _ _ _ _ W0 hW0
 have H0 := hid q0
 have H1 := hid q1
 have H2 := hid q2
 have H3 := hid q3
 clear q0 q1 q2 q3
 go_enter Try.func93, Try.ntmps93
 go_wp2_with fail
 rw [← hW0]
 clear hW0
 go_loopw [8] (fun i wr => ∃ (k : Nat) (rl rh : Int), k ≤ 3 ∧ i = .int .i64 k ∧ Hid (wr.heap[w.heap.size + 1 + 1 + 1]? = some (.cells #[.int .i64 rl, .int .i64 rh] 157 (0, 0))) ∧ Hid ((k = 0 → rl = 0 ∧ rh = 0) ∧ (k = 1 → rl = p1l ∧ rh = p1h) ∧ (k = 2 → rl = p2l ∧ rh = p2h) ∧ (k = 3 → rl = p3l ∧ rh = p3h)) ∧ Below (w.heap.size + 1 + 1 + 1) W0 wr) (fun i _ => 3 - (intOf i).toNat)
 case atStart => exact ⟨0, 0, 0, by omega, rfl, H3, hid ⟨fun _ => ⟨rfl, rfl⟩, by omega, by omega, by omega⟩, Below.refl _ _⟩
 case round =>
  obtain ⟨k, rl, rh, hk, rfl, HR, HO, hbel⟩ := hrel
  have hzr := hbel.size
  obtain ⟨c0, c1, c2, c3, c4, c5, hlc⟩ := six_row ((hbel.block (w.heap.size + 1) (by omega)).trans H1.out)
  have hro := HR.out
  obtain ⟨s0, s1, fs0, fs1, hls⟩ := two_cells hro
  have R0 := hid ((hbel.block w.heap.size (by omega)).trans H0.out)
  have R2 := hid ((hbel.block (w.heap.size + 1 + 1) (by omega)).trans H2.out)
  have hbx : Below w.heap.size w wr := hbW0.trans (hbel.mono (by omega))
  have HBX := hid hbx
  clear hbx
  rcases (by omega : k = 0 ∨ k = 1 ∨ k = 2 ∨ k = 3) with rfl | rfl | rfl | rfl
  ·obtain ⟨rfl, rfl⟩ := HO.out.1 rfl
   go_wp2_with fail
   refine wp_mixC (KeepB [w.heap.size + 1, w.heap.size + 1 + 1 + 1] wr) 12 [.q [0, 1, 2, 3, 4, 5, 6, 7, 8, 9], .f [10, 11]] [.f [12]] (by kernel_rfl) (by kernel_rfl) ((KeepB.refl (by first | (simp; done) | (simp; omega))).drew) ?_
   intro Q' hQ'
   (rw [wpMixC]; simp only [pick, List.drop_succ_cons, List.drop_zero, List.head?_cons, Option.toList_some, List.cons_append, List.nil_append])
   (repeat (first | go_big_quiet_skip | (go_big_quiet_want; refine quiet_simple rfl ?_; go_big_quiet_op; go_big_quiet_on) | (go_big_quiet_want; refine quiet_cellK (ty := 3) rfl rfl (by kernel_rfl) (by assumption) (by simp) ?_; simp only [Act.put, List.setIfInBounds_toArray, List.set_cons_succ, List.set_cons_zero]; go_big_quiet_on) | (go_big_quiet_want; refine quiet_agg2K (ty := 157) rfl rfl (by kernel_rfl) (by assumption) (by assumption) (by simp) ?_; simp only [Act.put, List.setIfInBounds_toArray, List.set_cons_succ, List.set_cons_zero]; go_big_quiet_on)))
   (try refine wpQuiet_nil ?_)
   (rw [wpMixC]; simp only [pick, List.drop_succ_cons, List.drop_zero, List.head?_cons, Option.toList_some, List.cons_append, List.nil_append])
   (rw [wpSteps]; go_wp2_with ((go_at_call 130; ((with_reducible refine (HQ0.out _).mono ?_); rintro _ w2 ⟨rfl, hb2⟩))); rw [contF]; refine ⟨?_, ?_⟩; (next => exact KeepA))
   (rw [wpSteps]; go_wp2_with ((go_at_call 129; ((with_reducible refine (HP0.out _).mono ?_); rintro _ w3 ⟨rfl, hb3⟩); have hb13 : Below wr.heap.size wr w3 := (by exact BelowA); have HB13 := hid hb13; have HR3 := hid ((hb13.block (w.heap.size + 1 + 1 + 1) hls).trans HR.out); obtain ⟨s0, s1, fs0, fs1, hls⟩ := two_cells HR3.out)); rw [contF]; refine ⟨?_, ?_⟩; (next => exact KeepA))
   (rw [wpSteps])
   (rw [wpMixC])
   (rw [wpMix]; simp only [pick, List.drop_succ_cons, List.drop_zero, List.head?_cons, Option.toList_some, List.cons_append, List.nil_append])
   (go_wp2_with ((first | fail)); rw [contF])
   (rw [wpMix])
   (refine hQ' _ _ ?_)
   go_wp2_with fail
   go_roundw
   case rel => exact ⟨1, p1l, p1h, by omega, by go_num, hid (two_set HR3.out), hid ⟨by omega, fun _ => ⟨rfl, rfl⟩, by omega, by omega⟩, (hbel.trans (HB13.out.mono (by omega))).trans (((Below.refl _ _).setCell (by simp) _).setCell (by simp) _)⟩
   case measure => simp [intOf]
  ·obtain ⟨rfl, rfl⟩ := HO.out.2.1 rfl
   go_wp2_with fail
   refine wp_mixC (KeepB [w.heap.size + 1, w.heap.size + 1 + 1 + 1] wr) 12 [.q [0, 1, 2, 3, 4, 5, 6, 7, 8, 9], .f [10, 11]] [.f [12]] (by kernel_rfl) (by kernel_rfl) ((KeepB.refl (by first | (simp; done) | (simp; omega))).drew) ?_
   intro Q' hQ'
   (rw [wpMixC]; simp only [pick, List.drop_succ_cons, List.drop_zero, List.head?_cons, Option.toList_some, List.cons_append, List.nil_append])
   (repeat (first | go_big_quiet_skip | (go_big_quiet_want; refine quiet_simple rfl ?_; go_big_quiet_op; go_big_quiet_on) | (go_big_quiet_want; refine quiet_cellK (ty := 3) rfl rfl (by kernel_rfl) (by assumption) (by simp) ?_; simp only [Act.put, List.setIfInBounds_toArray, List.set_cons_succ, List.set_cons_zero]; go_big_quiet_on) | (go_big_quiet_want; refine quiet_agg2K (ty := 157) rfl rfl (by kernel_rfl) (by assumption) (by assumption) (by simp) ?_; simp only [Act.put, List.setIfInBounds_toArray, List.set_cons_succ, List.set_cons_zero]; go_big_quiet_on)))
   (try refine wpQuiet_nil ?_)
   (rw [wpMixC]; simp only [pick, List.drop_succ_cons, List.drop_zero, List.head?_cons, Option.toList_some, List.cons_append, List.nil_append])
   (rw [wpSteps]; go_wp2_with ((go_at_call 130; ((with_reducible refine (HQ1.out _).mono ?_); rintro _ w2 ⟨rfl, hb2⟩))); rw [contF]; refine ⟨?_, ?_⟩; (next => exact KeepA))
   (rw [wpSteps]; go_wp2_with ((go_at_call 129; ((with_reducible refine (HP1.out _).mono ?_); rintro _ w3 ⟨rfl, hb3⟩); have hb13 : Below wr.heap.size wr w3 := (by exact BelowA); have HB13 := hid hb13; have HR3 := hid ((hb13.block (w.heap.size + 1 + 1 + 1) hls).trans HR.out); obtain ⟨s0, s1, fs0, fs1, hls⟩ := two_cells HR3.out)); rw [contF]; refine ⟨?_, ?_⟩; (next => exact KeepA))
   (rw [wpSteps])
   (rw [wpMixC])
   (rw [wpMix]; simp only [pick, List.drop_succ_cons, List.drop_zero, List.head?_cons, Option.toList_some, List.cons_append, List.nil_append])
   (go_wp2_with ((first | fail)); rw [contF])
   (rw [wpMix])
   (refine hQ' _ _ ?_)
   go_wp2_with fail
   go_roundw
   case rel => exact ⟨2, p2l, p2h, by omega, by go_num, hid (two_set HR3.out), hid ⟨by omega, by omega, fun _ => ⟨rfl, rfl⟩, by omega⟩, (hbel.trans (HB13.out.mono (by omega))).trans (((Below.refl _ _).setCell (by simp) _).setCell (by simp) _)⟩
   case measure => simp [intOf]
  ·obtain ⟨rfl, rfl⟩ := HO.out.2.2.1 rfl
   go_wp2_with fail
   refine wp_mixC (KeepB [w.heap.size + 1, w.heap.size + 1 + 1 + 1] wr) 12 [.q [0, 1, 2, 3, 4, 5, 6, 7, 8, 9], .f [10, 11]] [.f [12]] (by kernel_rfl) (by kernel_rfl) ((KeepB.refl (by first | (simp; done) | (simp; omega))).drew) ?_
   intro Q' hQ'
   (rw [wpMixC]; simp only [pick, List.drop_succ_cons, List.drop_zero, List.head?_cons, Option.toList_some, List.cons_append, List.nil_append])
   (repeat (first | go_big_quiet_skip | (go_big_quiet_want; refine quiet_simple rfl ?_; go_big_quiet_op; go_big_quiet_on) | (go_big_quiet_want; refine quiet_cellK (ty := 3) rfl rfl (by kernel_rfl) (by assumption) (by simp) ?_; simp only [Act.put, List.setIfInBounds_toArray, List.set_cons_succ, List.set_cons_zero]; go_big_quiet_on) | (go_big_quiet_want; refine quiet_agg2K (ty := 157) rfl rfl (by kernel_rfl) (by assumption) (by assumption) (by simp) ?_; simp only [Act.put, List.setIfInBounds_toArray, List.set_cons_succ, List.set_cons_zero]; go_big_quiet_on)))
   (try refine wpQuiet_nil ?_)
   (rw [wpMixC]; simp only [pick, List.drop_succ_cons, List.drop_zero, List.head?_cons, Option.toList_some, List.cons_append, List.nil_append])
   (rw [wpSteps]; go_wp2_with ((go_at_call 130; ((with_reducible refine (HQ2.out _).mono ?_); rintro _ w2 ⟨rfl, hb2⟩))); rw [contF]; refine ⟨?_, ?_⟩; (next => exact KeepA))
   (rw [wpSteps]; go_wp2_with ((go_at_call 129; ((with_reducible refine (HP2.out _).mono ?_); rintro _ w3 ⟨rfl, hb3⟩); have hb13 : Below wr.heap.size wr w3 := (by exact BelowA); have HB13 := hid hb13; have HR3 := hid ((hb13.block (w.heap.size + 1 + 1 + 1) hls).trans HR.out); obtain ⟨s0, s1, fs0, fs1, hls⟩ := two_cells HR3.out)); rw [contF]; refine ⟨?_, ?_⟩; (next => exact KeepA))
   (rw [wpSteps])
   (rw [wpMixC])
   (rw [wpMix]; simp only [pick, List.drop_succ_cons, List.drop_zero, List.head?_cons, Option.toList_some, List.cons_append, List.nil_append])
   (go_wp2_with ((first | fail)); rw [contF])
   (rw [wpMix])
   (refine hQ' _ _ ?_)
   go_wp2_with fail
   go_roundw
   case rel => exact ⟨3, p3l, p3h, by omega, by go_num, hid (two_set HR3.out), hid ⟨by omega, by omega, by omega, fun _ => ⟨rfl, rfl⟩⟩, (hbel.trans (HB13.out.mono (by omega))).trans (((Below.refl _ _).setCell (by simp) _).setCell (by simp) _)⟩
   case measure => simp [intOf]
  ·obtain ⟨rfl, rfl⟩ := HO.out.2.2.2 rfl
   obtain ⟨m0, m1, m2, m3, m4, m5, m6, m7, m8, m9, m10, m11, ml⟩ := tw_cells (R0.out)
   obtain ⟨g0, g1, fg0, fg1, hlg⟩ := two_cells R2.out
   have hbx := HBX.out
   clear fs0 fs1 hro
   by_cases e1 : lo ≤ rh
   ·have e1' : decide (lo ≤ rh) = true := decide_eq_true e1
    have HV : Hid (CB = decide (rl ≤ hi)) := hid (by rw [HCB.out, e1']; rfl)
    go_wp2_with fail
    refine wp_mixC (KeepB [w.heap.size, w.heap.size + 1 + 1 + 1] wr) 18 [.q [0, 1, 2, 3, 4, 5, 6, 7, 8, 9, 10, 11, 12, 13, 14, 15, 16], .f [17]] [.q [18]] (by kernel_rfl) (by kernel_rfl) ((KeepB.refl (by first | (simp; done) | (simp; omega))).drew) ?_
    intro Q' hQ'
    (rw [wpMixC]; simp only [pick, List.drop_succ_cons, List.drop_zero, List.head?_cons, Option.toList_some, List.cons_append, List.nil_append])
    (repeat (first | go_big_quiet_skip | (go_big_quiet_want; refine quiet_simple rfl ?_; go_big_quiet_op; go_big_quiet_on) | (go_big_quiet_want; refine quiet_cellK (ty := 3) rfl rfl (by kernel_rfl) (by assumption) (by simp) ?_; simp only [Act.put, List.setIfInBounds_toArray, List.set_cons_succ, List.set_cons_zero]; go_big_quiet_on) | (go_big_quiet_want; refine quiet_agg2K (ty := 157) rfl rfl (by kernel_rfl) (by assumption) (by assumption) (by simp) ?_; simp only [Act.put, List.setIfInBounds_toArray, List.set_cons_succ, List.set_cons_zero]; go_big_quiet_on)))
    (try refine wpQuiet_nil ?_)
    (rw [wpMixC]; simp only [pick, List.drop_succ_cons, List.drop_zero, List.head?_cons, Option.toList_some, List.cons_append, List.nil_append])
    (rw [wpSteps]; go_wp2_with (fail); rw [contF]; refine ⟨?_, ?_⟩; (next => exact KeepA))
    (rw [wpSteps])
    (rw [wpMixC])
    (rw [wpMix]; simp only [pick, List.drop_succ_cons, List.drop_zero, List.head?_cons, Option.toList_some, List.cons_append, List.nil_append])
    (repeat (first | (go_big_quiet_step (fail)) | (quiet_step (fail))))
    (try refine wpQuiet_nil ?_)
    (rw [wpMix])
    (refine hQ' _ _ ?_)
    go_wp2_with fail
    ((try simp only [Exit.inBlock, Exit.then]); refine bodyPost_ret (v := .tuple #[.agg #[.int .i64 rl, .int .i64 rh], .bool (decide (rl ≤ hi))]) ?_ rfl ?_; (next => simp [results, Try.results93, go_sem, hlg, g0, g1]))
    exact ⟨by rw [HV.out], by exact BelowA⟩
   ·have e1' : decide (lo ≤ rh) = false := decide_eq_false e1
    have HV : Hid (CB = false) := hid (by rw [HCB.out, e1']; rfl)
    go_wp2_with fail
    refine wp_mixC (KeepB [w.heap.size, w.heap.size + 1 + 1 + 1] wr) 18 [.q [0, 1, 2, 3, 4, 5, 6, 7, 8, 9, 10, 11, 12, 13, 14, 15, 16], .f [17]] [.q [18]] (by kernel_rfl) (by kernel_rfl) ((KeepB.refl (by first | (simp; done) | (simp; omega))).drew) ?_
    intro Q' hQ'
    (rw [wpMixC]; simp only [pick, List.drop_succ_cons, List.drop_zero, List.head?_cons, Option.toList_some, List.cons_append, List.nil_append])
    (repeat (first | go_big_quiet_skip | (go_big_quiet_want; refine quiet_simple rfl ?_; go_big_quiet_op; go_big_quiet_on) | (go_big_quiet_want; refine quiet_cellK (ty := 3) rfl rfl (by kernel_rfl) (by assumption) (by simp) ?_; simp only [Act.put, List.setIfInBounds_toArray, List.set_cons_succ, List.set_cons_zero]; go_big_quiet_on) | (go_big_quiet_want; refine quiet_agg2K (ty := 157) rfl rfl (by kernel_rfl) (by assumption) (by assumption) (by simp) ?_; simp only [Act.put, List.setIfInBounds_toArray, List.set_cons_succ, List.set_cons_zero]; go_big_quiet_on)))
    (try refine wpQuiet_nil ?_)
    (rw [wpMixC]; simp only [pick, List.drop_succ_cons, List.drop_zero, List.head?_cons, Option.toList_some, List.cons_append, List.nil_append])
    (rw [wpSteps]; go_wp2_with (fail); rw [contF]; refine ⟨?_, ?_⟩; (next => exact KeepA))
    (rw [wpSteps])
    (rw [wpMixC])
    (rw [wpMix]; simp only [pick, List.drop_succ_cons, List.drop_zero, List.head?_cons, Option.toList_some, List.cons_append, List.nil_append])
    (repeat (first | (go_big_quiet_step (fail)) | (quiet_step (fail))))
    (try refine wpQuiet_nil ?_)
    (rw [wpMix])
    (refine hQ' _ _ ?_)
    go_wp2_with fail
    ((try simp only [Exit.inBlock, Exit.then]); refine bodyPost_ret (v := .tuple #[.agg #[.int .i64 rl, .int .i64 rh], .bool false]) ?_ rfl ?_; (next => simp [results, Try.results93, go_sem, hlg, g0, g1]))
    exact ⟨by rw [HV.out], by exact BelowA⟩
end Go.Proofs.Ytlmdmpjfehpjeaa
set_option linter.unusedVariables false
set_option linter.unusedSimpArgs false
namespace Go.Proofs.Ytlmdmpjfehpjeaa
open Go.RowKit
section
variable {P : Program} {md : Region.Mode} {ops : Array Oper} {Q : Exit → Act → World → Prop} {C : World → Prop}
def mixgB (l : List Oper) (n1 : Nat) (qs ks : List Nat) (j : Nat) (s1 s2 : List Stp) (Z : Array Bool) : Bool :=
 Region.noSelect l.toArray && phaseB .any l.toArray n1 && decide (qs.length + (ks.length + 1) + lenS s1 + lenS s2 = l.length) && qcB .any l.toArray n1 qs (Array.replicate l.length false) && fltB .any l.toArray j Z ks (runSet (Array.replicate l.length false) qs) && mixcB .any l.toArray n1 s2 s1 Z
theorem wp_mixG (C : World → Prop) {id : Nat} {a : Act} {w : World} {l : List Oper} (n1 : Nat) (qs ks : List Nat) (j : Nat) (s1 s2 : List Stp) (Z : Array Bool) (hm : P.follows .mixedOrders = true) (hB : mixgB l n1 qs ks j s1 s2 Z = true) (hC : C w.drew)
  (h : ∀ Q' : Exit → Act → World → Prop, (∀ a w, Q .normal a w → Q' .normal a w) → wpQuiet P l.toArray C (fun a' => wpFlt P l.toArray C (fun a'' w'' => wpMixC P l C Q' s2 s1 a'' w'') (pick l [j]) (pick l ks) a' w.drew) (pick l qs) a) :
  (Code.region id l.toArray true).wp P Q a w := by
 simp only [mixgB, Bool.and_eq_true, decide_eq_true_eq] at hB
 obtain ⟨⟨⟨⟨⟨hsel, hp⟩, hlen⟩, hq⟩, hf⟩, hB⟩ := hB
 refine Code.wp_mono (Q := noPan Q) (fun e a w hq => by cases e <;> first | exact hq | exact (hq : False).elim) ?_
 refine wp_region_any hm ?_
 have hQ : ∀ c a a' w, noPan Q (.panic c) a w → noPan Q (.panic c) a' w := fun c a a' w hq => hq
 have h1 := wpAnyC_q (C := C) hp hQ hsel (m := lenS s2) (n := ks.length + 1 + lenS s1) (X := fun a' _ => wpFlt P l.toArray C (fun a'' w'' => wpMixC P l C (noPan Q) s2 s1 a'' w'') (pick l [j]) (pick l ks) a' w.drew) qs (Array.replicate l.length false) a w.drew hC hq
  (fun a' hx => wpAnyC_flt (n := lenS s1) (Z := Z) (fun a'' w'' hC'' h'' => wpAnyC_mix (md := .any) hp hQ hsel s1 Z a'' w'' hC'' hB h'') ks _ a' w.drew hC hf hx)
  (h (noPan Q) fun _ _ h => h)
 have := wpAny_of_C (C := C) _ _ _ _ h1
 rw [show qs.length + (ks.length + 1 + lenS s1) + lenS s2 = l.toArray.size from by simp; omega] at this
 simpa using this
end
end Go.Proofs.Ytlmdmpjfehpjeaa
set_option linter.unusedVariables false
set_option linter.unusedSimpArgs false
namespace Go.Proofs.Ytlmdmpjfehpjeaa
open Go.RowKit
section
variable {P : Program} {md : Region.Mode} {ops : Array Oper} {Q : Exit → Act → World → Prop} {C : World → Prop}
end
end Go.Proofs.Ytlmdmpjfehpjeaa
set_option linter.unusedVariables false
set_option linter.unusedSimpArgs false
namespace Go.Proofs.Ytlmdmpjfehpjeaa
open Go.RowKit
def Rg.bd (r : Rg) (A : Int) : Prop := (-A ≤ r.lo ∧ r.lo ≤ A) ∧ (-A ≤ r.hi ∧ r.hi ≤ A)
theorem Rg.times_bd {r s : Rg} {A B C : Int} (h : r.bd A) (g : s.bd B) (hC : A * B ≤ C) : (r.times s).bd C := by
 have h1 := mul_rg h.1 g.1 hC
 have h2 := mul_rg h.1 g.2 hC
 have h3 := mul_rg h.2 g.1 hC
 have h4 := mul_rg h.2 g.2 hC
 unfold Rg.bd Rg.times mn4 mx4; simp only; omega
theorem Rg.plus_bd {r s : Rg} {A B C : Int} (h : r.bd A) (g : s.bd B) (hC : A + B ≤ C) : (r.plus s).bd C := by
 unfold Rg.bd Rg.plus at *; simp only; omega
theorem Rg.square_bd {r : Rg} {A C : Int} (h : r.bd A) (hC : A * A ≤ C) : r.square.bd C ∧ 0 ≤ r.square.lo ∧ 0 ≤ r.square.hi := by
 have := Rg.square_sz h.1 h.2 hC
 unfold Rg.bd; omega
def CR (f : FuncId) (args : Array Value) (v : Value) : Prop := ∀ W, Calls Try.prog f args W fun e w' => e = .returned v ∧ Below W.heap.size W w'
def Stg (tk d A : Int) (r P L P' L' : Rg) : Prop :=
 ∃ (R S U V : Rg) (TD : Int), IntKind.i64.wrap (tk * d) = TD ∧ CR 131 #[r.v, .agg #[.int .i64 (-A), .int .i64 (-A)]] R.v ∧ CR 129 #[R.v, .agg #[.int .i64 TD, .int .i64 TD]] S.v ∧ CR 131 #[S.v, r.v] U.v ∧ CR 129 #[P.v, U.v] P'.v ∧ CR 130 #[S.v] V.v ∧ CR 129 #[L.v, V.v] L'.v
theorem stg {tk d A : Int} {r P L : Rg} (htk : 1 ≤ tk ∧ tk ≤ 20) (hd : -2000 ≤ d ∧ d ≤ 2000) (hA : -1010101 ≤ A ∧ A ≤ 1010101) (hr : r.bd 20) (hP : P.bd 1000000000) (hL : L.bd 1000000000000000) :
  Stg tk d A r P L (P.plus ((restR tk r d A).times r)) (L.plus (restR tk r d A).square) ∧ ((restR tk r d A).times r).bd 404840400 ∧ ((restR tk r d A).square.bd 409739373680400 ∧ 0 ≤ (restR tk r d A).square.lo ∧ 0 ≤ (restR tk r d A).square.hi) := by
 have hT := mul_rg (x := tk) (y := d) (A := 20) (B := 2000) (C := 40000) (by omega) hd (by decide)
 have hn : (⟨-A, -A⟩ : Rg).bd 1010101 := by unfold Rg.bd; simp only; omega
 have hR := Rg.times_bd hr hn (C := 20202020) (by decide)
 have hTD : (⟨tk * d, tk * d⟩ : Rg).bd 40000 := ⟨hT, hT⟩
 have hS := Rg.plus_bd hR hTD (C := 20242020) (by decide)
 have hU := Rg.times_bd hS hr (C := 404840400) (by decide)
 have hV := Rg.square_bd hS (C := 409739373680400) (by decide)
 refine ⟨⟨r.times ⟨-A, -A⟩, restR tk r d A, (restR tk r d A).times r, (restR tk r d A).square, tk * d, IntWalk.i64_in _ (by omega), ?_, ?_, ?_, ?_, ?_, ?_⟩, hU, hV⟩
 ·intro W
  have m1 := mul_rg hr.1 hn.1 (C := 20202020) (by decide)
  have m2 := mul_rg hr.2 hn.1 (C := 20202020) (by decide)
  exact track_times r ⟨-A, -A⟩ W (by simp only at *; omega) (by simp only at *; omega) (by simp only at *; omega) (by simp only at *; omega)
 ·intro W
  exact track_plus _ ⟨tk * d, tk * d⟩ W (by have := hR.1; omega) (by have := hR.2; omega) (by simp only; omega) (by simp only; omega)
 ·intro W
  have hS' : (restR tk r d A).bd 20242020 := hS
  have m1 := mul_rg hS'.1 hr.1 (C := 404840400) (by decide)
  have m2 := mul_rg hS'.1 hr.2 (C := 404840400) (by decide)
  have m3 := mul_rg hS'.2 hr.1 (C := 404840400) (by decide)
  have m4 := mul_rg hS'.2 hr.2 (C := 404840400) (by decide)
  exact track_times _ _ W (by omega) (by omega) (by omega) (by omega)
 ·intro W
  have hU' : ((restR tk r d A).times r).bd 404840400 := hU
  unfold Rg.bd at hU' hP
  exact track_plus _ _ W (by omega) (by omega) (by omega) (by omega)
 ·intro W
  have hS' : (restR tk r d A).bd 20242020 := hS
  unfold Rg.bd at hS'
  exact track_square _ W (by omega) (by omega)
 ·intro W
  have hV' : (restR tk r d A).square.bd 409739373680400 := hV.1
  unfold Rg.bd at hV' hL
  exact track_plus _ _ W (by omega) (by omega) (by omega) (by omega)
theorem stg3 {m : TMod} {b : TBox} {p : V3} {t : Int} (ho : m.Ok) (hl : b.lo.inS 20 = true) (hh : b.hi.inS 20 = true) (hp : p.inS 1000 = true) (ht : -1000101 ≤ t ∧ t ≤ 1000100) :
  ∃ P1 P2 L1 L2 : Rg, Stg m.tk (p.x - m.px) (t - m.tm) b.rx ⟨0, 0⟩ ⟨0, 0⟩ P1 L1 ∧ Stg m.tk (p.y - m.py) (t - m.tm) b.ry P1 L1 P2 L2 ∧ Stg m.tk (p.z - m.pz) (t - m.tm) b.rz P2 L2 (m.prodR b p t) (m.leftR b p t) ∧ (m.prodR b p t).bd 1214521200 ∧ (m.leftR b p t).bd 1229218121041200 ∧ 0 ≤ (m.leftR b p t).lo ∧ 0 ≤ (m.leftR b p t).hi := by
 obtain ⟨a1, a2, a3⟩ := inS_iff.1 hl
 obtain ⟨b1, b2, b3⟩ := inS_iff.1 hh
 obtain ⟨c1, c2, c3⟩ := inS_iff.1 hp
 have hA : -1010101 ≤ t - m.tm ∧ t - m.tm ≤ 1010101 := by have := ho.tm; omega
 have z : (⟨0, 0⟩ : Rg).bd 0 := by unfold Rg.bd; simp
 have zw : ∀ (C : Int), 0 ≤ C → (⟨0, 0⟩ : Rg).bd C := fun C h => by unfold Rg.bd; simp only; omega
 have s0 := stg (tk := m.tk) (d := p.x - m.px) (A := t - m.tm) (r := b.rx) (P := ⟨0, 0⟩) (L := ⟨0, 0⟩) ho.tk (by have := ho.px; omega) hA ⟨a1, b1⟩ (zw _ (by decide)) (zw _ (by decide))
 have p1 := Rg.plus_bd z s0.2.1 (C := 404840400) (by decide)
 have l1 := Rg.plus_bd z s0.2.2.1 (C := 409739373680400) (by decide)
 have w : ∀ {r : Rg} {A B : Int}, r.bd A → A ≤ B → r.bd B := fun h g => by unfold Rg.bd at *; omega
 have s1 := stg (tk := m.tk) (d := p.y - m.py) (A := t - m.tm) (r := b.ry) ho.tk (by have := ho.py; omega) hA ⟨a2, b2⟩ (w p1 (by decide)) (w l1 (by decide))
 have p2 := Rg.plus_bd p1 s1.2.1 (C := 809680800) (by decide)
 have l2 := Rg.plus_bd l1 s1.2.2.1 (C := 819478747360800) (by decide)
 have s2 := stg (tk := m.tk) (d := p.z - m.pz) (A := t - m.tm) (r := b.rz) ho.tk (by have := ho.pz; omega) hA ⟨a3, b3⟩ (w p2 (by decide)) (w l2 (by decide))
 have p3 := Rg.plus_bd p2 s2.2.1 (C := 1214521200) (by decide)
 have l3 := Rg.plus_bd l2 s2.2.2.1 (C := 1229218121041200) (by decide)
 have h0 := s0.2.2.2
 have h1 := s1.2.2.2
 have h2 := s2.2.2.2
 refine ⟨_, _, _, _, s0.1, s1.1, s2.1, p3, l3, ?_, ?_⟩
 ·unfold TMod.leftR Rg.plus; simp only; omega
 ·unfold TMod.leftR Rg.plus; simp only; omega
theorem fast_bd {m : TMod} {b : TBox} (ho : m.Ok) (hl : b.lo.inS 20 = true) (hh : b.hi.inS 20 = true) (hc : m.canBe b) :
  (1 ≤ (m.fast b).lo ∧ (m.fast b).lo ≤ 1200) ∧ (1 ≤ (m.fast b).hi ∧ (m.fast b).hi ≤ 1200) ∧ IntKind.i64.wrap (max b.squares.lo m.lo - m.slow) = (m.fast b).lo ∧ IntKind.i64.wrap (min b.squares.hi m.hi - m.slow) = (m.fast b).hi := by
 obtain ⟨a1, a2, a3⟩ := inS_iff.1 hl
 obtain ⟨b1, b2, b3⟩ := inS_iff.1 hh
 have s1 := Rg.square_sz (r := b.rx) (A := 20) (C := 400) a1 b1 (by decide)
 have s2 := Rg.square_sz (r := b.ry) (A := 20) (C := 400) a2 b2 (by decide)
 have s3 := Rg.square_sz (r := b.rz) (A := 20) (C := 400) a3 b3 (by decide)
 have hsq : (0 ≤ b.squares.lo ∧ b.squares.lo ≤ 1200) ∧ (0 ≤ b.squares.hi ∧ b.squares.hi ≤ 1200) := by unfold TBox.squares Rg.plus; simp only; omega
 have h1 := ho.slo; have h2 := ho.slp; have h3 := ho.lo; have h4 := ho.hi; have h5 := ho.ord
 unfold TMod.canBe at hc
 have e1 : (m.fast b).lo = max b.squares.lo m.lo - m.slow := rfl
 have e2 : (m.fast b).hi = min b.squares.hi m.hi - m.slow := rfl
 refine ⟨by omega, by omega, ?_, ?_⟩
 ·rw [e1]; exact IntWalk.i64_in _ (by omega)
 ·rw [e2]; exact IntWalk.i64_in _ (by omega)
end Go.Proofs.Ytlmdmpjfehpjeaa
set_option linter.unusedVariables false
set_option linter.unusedSimpArgs false
namespace Go.Proofs.Ytlmdmpjfehpjeaa
open Go.RowKit
theorem law_few5 (l : List THit) (v : Value) (w : World) (h : HitsAt w v l) :
  Calls Try.prog 28 #[v] w fun e w' => e = .returned (.bool (decide (l.length ≤ 14))) ∧ w = w' := by
 obtain ⟨ao, cap, rfl, h1, h2, h3⟩ := h.opn
 clear h h3
 unfold maxLen at h2
 by_cases hl : l.length ≤ 14
 all_goals
  have HL := hid hl
  go_enter Try.func28, Try.ntmps28
  go_wp2_with fail
  go_ret
  exact ⟨ret_bool (by simp [HL.out]; omega), rfl⟩
set_option maxRecDepth 100000 in
set_option maxHeartbeats 4000000 in
theorem ref_CheckHits (l : List THit) (v : Value) (w : World) (h : HitsAt w v l) :
  Calls Try.prog 33 #[v] w fun e w' => e = .returned (.tuple #[.int .i64 (hitsIdx l), .int .i64 (hitsE l)]) ∧ Below w.heap.size w w' := by
 obtain ⟨ao, cap, rfl, h1, h2, h3⟩ := h.opn
 unfold maxLen at h2
 by_cases hbig : 12 < l.length
 ·have HR : Hid (hitsIdx l = 0 ∧ hitsE l = 8) := hid (by simp [hitsIdx, hitsE, hbig])
  go_enter Try.func33, Try.ntmps33
  go_wp2_with fail
  go_ret2
  exact ⟨by rw [HR.out.1, HR.out.2]; rfl, Below.refl _ _⟩
 have HBIG := hid hbig
 go_enter Try.func33, Try.ntmps33
 go_wp2_with fail
 go_loopw [4] (fun i wr => ∃ k : Nat, k ≤ l.length ∧ i = .int .i64 k ∧ Hid (∀ j, j < k → (hitAt l j).err = 0) ∧ Below w.heap.size w wr) (fun i _ => l.length - (intOf i).toNat)
 case atStart => exact ⟨0, Nat.zero_le _, rfl, hid (fun j hj => by omega), Below.refl _ _⟩
 case round =>
  obtain ⟨k, hk, rfl, HZ, hbel⟩ := hrel
  have hzw := hbel.size
  by_cases hlt : k < l.length
  ·obtain ⟨b, off, rfl, hb, hc⟩ := h3 k hlt
   obtain ⟨c0, c1, c2, c3, c4⟩ := hc k hlt
   obtain ⟨hcb, hfb⟩ := bcell hbel
   rw [← hcb b _ hb] at c0 c1 c2 c3 c4
   have hbw : b < wr.heap.size := by omega
   have HBAD : Hid (∀ e, (hitAt l k).err = e → e ≠ 0 → hitsIdx l = k ∧ hitsE l = e) := hid (by
    intro e he hne
    have hne' : (hitAt l k).err ≠ 0 := by rw [he]; exact hne
    unfold hitsIdx hitsE
    rw [if_neg hbig, if_neg hbig, scan_at (f := fun i => (hitAt l i).err) HZ.out hlt hne', scanI_at (f := fun i => (hitAt l i).err) HZ.out hlt hne', he]
    exact ⟨rfl, rfl⟩)
   have HOK : Hid ((hitAt l k).err = 0 → ∀ j, j < k + 1 → (hitAt l j).err = 0) := hid (by
    intro he j hj
    rcases Nat.lt_or_ge j k with h | h
    ·exact HZ.out j h
    ·rw [show j = k from by omega]; exact he)
   have HE : Hid ((hitAt l k).err = firstNZ [plE (hitAt l k).p, tmE (hitAt l k).t, unl (inB (hitAt l k).w 0 100) 2]) := hid rfl
   have HP : Hid (∀ W, Calls Try.prog 21 #[.agg #[.int .i64 (hitAt l k).p.x, .int .i64 (hitAt l k).p.y, .int .i64 (hitAt l k).p.z]] W fun e w' => e = .returned (.int .i64 (plE (hitAt l k).p)) ∧ Below W.heap.size W w') := hid (fun W => ref_PlaceErr _ _ _ W)
   have HT : Hid (∀ W, Calls Try.prog 45 #[.int .i64 (hitAt l k).t] W fun e w' => e = .returned (.int .i64 (tmE (hitAt l k).t)) ∧ W = w') := hid (fun W => ref_TimeErr _ W)
   generalize (hitAt l k).err = E at HBAD HOK HE
   generalize hitAt l k = x at *
   obtain ⟨⟨x0, x1, x2⟩, t, u⟩ := x
   simp only at *
   generalize plE ⟨x0, x1, x2⟩ = P at HP HE
   generalize tmE t = T at HT HE
   clear hc h3 h hcb hfb
   by_cases hp : P = 0
   ·subst hp
    by_cases ht : T = 0
    ·subst ht
     cases hu : inB u 0 100
     ·have HV : Hid (E = 2) := hid (by rw [HE.out, hu]; rfl)
      have HU := hid hu
      go_wp2_with (first | (go_at_call 21; refine (HP.out _).mono ?_; rintro _ w2 ⟨rfl, hb2⟩; obtain ⟨hcb, _⟩ := bcell hb2; rw [← hcb b _ hbw] at c0 c1 c2 c3 c4; have hbw2 : b < w2.heap.size := Nat.lt_of_lt_of_le hbw hb2.size; clear hcb) | (go_at_call 45; refine (HT.out _).mono ?_; rintro _ _ ⟨rfl, rfl⟩) | (go_at_call 80; refine (ref_isWeight _ _).mono ?_; rintro _ _ ⟨rfl, rfl⟩))
      go_ret2
      obtain ⟨e2, e3⟩ := HBAD.out _ HV.out (by decide)
      exact ⟨by rw [e2, e3]; rfl, by exact BelowA⟩
     ·have HV : Hid (E = 0) := hid (by rw [HE.out, hu]; rfl)
      go_wp2_with (first | (go_at_call 21; refine (HP.out _).mono ?_; rintro _ w2 ⟨rfl, hb2⟩; obtain ⟨hcb, _⟩ := bcell hb2; rw [← hcb b _ hbw] at c0 c1 c2 c3 c4; have hbw2 : b < w2.heap.size := Nat.lt_of_lt_of_le hbw hb2.size; clear hcb) | (go_at_call 45; refine (HT.out _).mono ?_; rintro _ _ ⟨rfl, rfl⟩) | (go_at_call 80; refine (ref_isWeight _ _).mono ?_; rintro _ _ ⟨rfl, rfl⟩))
      go_roundw
      case rel => exact ⟨k + 1, by omega, by go_num, hid (HOK.out HV.out), by exact BelowA⟩
      case measure => simp [intOf]; omega
    ·have hne : (T != 0) = true := by simpa using ht
     have HV : Hid (E = T) := hid (by rw [HE.out]; simp [firstNZ, ht])
     have HT0 := hid ht
     clear ht
     go_wp2_with (first | (go_at_call 21; refine (HP.out _).mono ?_; rintro _ w2 ⟨rfl, hb2⟩; obtain ⟨hcb, _⟩ := bcell hb2; rw [← hcb b _ hbw] at c0 c1 c2 c3 c4; have hbw2 : b < w2.heap.size := Nat.lt_of_lt_of_le hbw hb2.size; clear hcb) | (go_at_call 45; refine (HT.out _).mono ?_; rintro _ _ ⟨rfl, rfl⟩))
     go_ret2
     obtain ⟨e2, e3⟩ := HBAD.out _ HV.out HT0.out
     exact ⟨by rw [e2, e3]; rfl, by exact BelowA⟩
   ·have hne : (P != 0) = true := by simpa using hp
    have HV : Hid (E = P) := hid (by rw [HE.out]; simp [firstNZ, hp])
    have HP0 := hid hp
    clear hp
    go_wp2_with (go_at_call 21; refine (HP.out _).mono ?_; rintro _ w2 ⟨rfl, hb2⟩)
    go_ret2
    obtain ⟨e2, e3⟩ := HBAD.out _ HV.out HP0.out
    exact ⟨by rw [e2, e3]; rfl, by exact BelowA⟩
  ·have hkl : k = l.length := by omega
   have e1 := scan_end (f := fun i => (hitAt l i).err) (n := l.length) fun j hj => HZ.out j (by omega)
   have e2 := scanI_end (f := fun i => (hitAt l i).err) (n := l.length) fun j hj => HZ.out j (by omega)
   have HR : Hid (hitsIdx l = 0 ∧ hitsE l = 0) := hid (by unfold hitsIdx hitsE; rw [if_neg hbig, if_neg hbig, e1, e2]; exact ⟨rfl, rfl⟩)
   clear e1 e2
   go_wp2_with fail
   go_ret2
   exact ⟨by rw [HR.out.1, HR.out.2]; rfl, by exact BelowA⟩
theorem ref_HitsErr (l : List THit) (v : Value) (w : World) (h : HitsAt w v l) :
  Calls Try.prog 40 #[v] w fun e w' => e = .returned (.int .i64 (hitsE l)) ∧ Below w.heap.size w w' := by
 go_enter Try.func40, Try.ntmps40
 go_wp2_with (go_at_call 33; refine (ref_CheckHits l v _ h).mono ?_; rintro _ w1 ⟨rfl, hb1⟩)
 go_ret
 exact ⟨rfl, hb1⟩
end Go.Proofs.Ytlmdmpjfehpjeaa
set_option linter.unusedVariables false
set_option linter.unusedSimpArgs false
namespace Go.Proofs.Ytlmdmpjfehpjeaa
open Go.RowKit Ev
def hitsC (l : List THit) : Nat → Nat → CV := fun i j => match j with
 | 0 => .v (.int .i64 (hitAt l i).p.x)
 | 1 => .v (.int .i64 (hitAt l i).p.y)
 | 2 => .v (.int .i64 (hitAt l i).p.z)
 | 3 => .v (.int .i64 (hitAt l i).t)
 | _ => .v (.int .i64 (hitAt l i).w)
def mkHit (g : Nat → Int) : THit := ⟨⟨g 0, g 1, g 2⟩, g 3, g 4⟩
theorem hitAt_C {n : Nat} {c : Nat → Nat → CV} {i : Nat} (hi : i < n) : hitAt (listC n mkHit c) i = mkHit fun j => cvInt (c i j) := listC_get hi
theorem leL_THit {n : Nat} {c : Nat → Nat → CV} (hp : numsP 5 n c) : LeD (.t (.c (.sl 5 n c))) (.t (.c (.sl 5 (listC n mkHit c).length (hitsC (listC n mkHit c))))) := by
 refine leL hp fun i j hi hj => ?_
 unfold hitsC
 rw [hitAt_C hi]
 rcases (by omega : j = 0 ∨ j = 1 ∨ j = 2 ∨ j = 3 ∨ j = 4) with rfl | rfl | rfl | rfl | rfl <;> rfl
theorem at_THit {w : World} {N : Nat → Prop} {n : Nat} {c : Nat → Nat → CV} {v : Value} (hp : numsP 5 n c) (h : RelF w N (.sl 5 n c) v) : HitsAt w v (listC n mkHit c) := by
 have hl : (listC n mkHit c).length = n := listC_len
 unfold HitsAt
 rw [hl]
 refine sl_SlAt h fun i j hi hj => ?_
 rw [hitAt_C hi, hp i j hi hj]
 rcases (by omega : j = 0 ∨ j = 1 ∨ j = 2 ∨ j = 3 ∨ j = 4) with rfl | rfl | rfl | rfl | rfl <;> rfl
def con_law05_few : Con := fun args => match args with
 | [.t (.c (.sl 5 n_l c_l))] => some (.t (.c (.v (.bool (decide (((listC n_l mkHit c_l)).length ≤ 14))))), some (numsP 5 n_l c_l), false)
 | _ => none
theorem ok_law05_few : Ok Try.prog 28 con_law05_few := by
 refine Ok.oldG (Enters.of (fn := Try.f28) (by kernel_rfl) (by kernel_rfl) (by kernel_rfl)) fun args r pre fresh h hp => ?_
 unfold con_law05_few at h
 split at h
 ·rename_i n_l c_l
  cases h
  refine ⟨rfl, _, rfl, fun W N vs hv => ?_⟩
  have hp0 := hp
  obtain ⟨v_l, ws0, k0, g0, hv0⟩ := hv.cons_inv
  subst k0
  have h_l := at_THit hp0 g0
  have ev := hv0.nil_inv
  subst ev
  generalize listC n_l mkHit c_l = l at *
  exact (law_few5 l v_l W h_l).mono fun e w' h => ⟨h.1, h.2 ▸ Below.refl _ _⟩
 ·cases h
def S8 : Sum := addS S7 28 con_law05_few
theorem VS8 : Valid Try.prog S8 := Valid.add VS7 ok_law05_few
def con_ref05_ModelErr : Con := fun args => match args with
 | [.t (.a [.v (.int .i64 m0), .v (.int .i64 m1), .v (.int .i64 m2), .v (.int .i64 m3), .v (.int .i64 m4), .v (.int .i64 m5), .v (.int .i64 m6), .v (.int .i64 m7), .v (.int .i64 m8), .v (.int .i64 m9), .v (.int .i64 m10), .v (.int .i64 m11)])] => some (.t (.c (.v (.int .i64 (((⟨m0, m1, m2, m3, m4, m5, m6, m7, m8, m9, m10, m11⟩ : TMod)).err)))), none, false)
 | _ => none
theorem ok_ref05_ModelErr : Ok Try.prog 18 con_ref05_ModelErr := by
 refine Ok.oldG (Enters.of (fn := Try.f18) (by kernel_rfl) (by kernel_rfl) (by kernel_rfl)) fun args r pre fresh h hp => ?_
 unfold con_ref05_ModelErr at h
 split at h
 ·rename_i m0 m1 m2 m3 m4 m5 m6 m7 m8 m9 m10 m11
  cases h
  refine ⟨rfl, _, rfl, fun W N vs hv => ?_⟩
  obtain ⟨u0, ws0, k0, g0, hv0⟩ := hv.cons_inv
  subst k0
  have e0 := plain_arg rfl g0
  subst e0
  have ev := hv0.nil_inv
  subst ev
  exact ref_ModelErr (⟨m0, m1, m2, m3, m4, m5, m6, m7, m8, m9, m10, m11⟩ : TMod) W
 ·cases h
def S9 : Sum := addS S8 18 con_ref05_ModelErr
theorem VS9 : Valid Try.prog S9 := Valid.add VS8 ok_ref05_ModelErr
def con_ref05_MomentErr : Con := fun args => match args with
 | [.t (.a [.v (.int .i64 p0), .v (.int .i64 p1), .v (.int .i64 p2), .v (.int .i64 p3)])] => some (.t (.c (.v (.int .i64 (momE ⟨p0, p1, p2⟩ p3)))), none, false)
 | _ => none
theorem ok_ref05_MomentErr : Ok Try.prog 20 con_ref05_MomentErr := by
 refine Ok.oldG (Enters.of (fn := Try.f20) (by kernel_rfl) (by kernel_rfl) (by kernel_rfl)) fun args r pre fresh h hp => ?_
 unfold con_ref05_MomentErr at h
 split at h
 ·rename_i p0 p1 p2 p3
  cases h
  refine ⟨rfl, _, rfl, fun W N vs hv => ?_⟩
  obtain ⟨u0, ws0, k0, g0, hv0⟩ := hv.cons_inv
  subst k0
  have e0 := plain_arg rfl g0
  subst e0
  have ev := hv0.nil_inv
  subst ev
  exact ref_MomentErr (⟨p0, p1, p2⟩ : V3) p3 W
 ·cases h
def S10 : Sum := addS S9 20 con_ref05_MomentErr
theorem VS10 : Valid Try.prog S10 := Valid.add VS9 ok_ref05_MomentErr
def con_ref05_HitsErr : Con := fun args => match args with
 | [.t (.c (.sl 5 n_l c_l))] => some (.t (.c (.v (.int .i64 (hitsE (listC n_l mkHit c_l))))), some (numsP 5 n_l c_l), false)
 | _ => none
theorem ok_ref05_HitsErr : Ok Try.prog 40 con_ref05_HitsErr := by
 refine Ok.oldG (Enters.of (fn := Try.f40) (by kernel_rfl) (by kernel_rfl) (by kernel_rfl)) fun args r pre fresh h hp => ?_
 unfold con_ref05_HitsErr at h
 split at h
 ·rename_i n_l c_l
  cases h
  refine ⟨rfl, _, rfl, fun W N vs hv => ?_⟩
  have hp0 := hp
  obtain ⟨v_l, ws0, k0, g0, hv0⟩ := hv.cons_inv
  subst k0
  have h_l := at_THit hp0 g0
  have ev := hv0.nil_inv
  subst ev
  generalize listC n_l mkHit c_l = l at *
  exact ref_HitsErr l v_l W h_l
 ·cases h
def S11 : Sum := addS S10 40 con_ref05_HitsErr
theorem VS11 : Valid Try.prog S11 := Valid.add VS10 ok_ref05_HitsErr
def con_track_unless : Con := fun args => match args with
 | [.t (.c (.v (.bool b))), .t (.c (.v (.int .i64 n)))] => some (.t (.c (.v (.int .i64 (unl b n)))), none, false)
 | _ => none
theorem ok_track_unless : Ok Try.prog 72 con_track_unless := by
 refine Ok.oldG (Enters.of (fn := Try.f72) (by kernel_rfl) (by kernel_rfl) (by kernel_rfl)) fun args r pre fresh h hp => ?_
 unfold con_track_unless at h
 split at h
 ·rename_i b n
  cases h
  refine ⟨rfl, _, rfl, fun W N vs hv => ?_⟩
  obtain ⟨u0, ws0, k0, g0, hv0⟩ := hv.cons_inv
  subst k0
  have e0 := plain_arg rfl g0
  subst e0
  obtain ⟨u1, ws1, k1, g1, hv1⟩ := hv0.cons_inv
  subst k1
  have e1 := plain_arg rfl g1
  subst e1
  have ev := hv1.nil_inv
  subst ev
  exact (track_unless b n W).mono fun e w' h => ⟨h.1, h.2 ▸ Below.refl _ _⟩
 ·cases h
def S12 : Sum := addS S11 72 con_track_unless
theorem VS12 : Valid Try.prog S12 := Valid.add VS11 ok_track_unless
def con_track_first : Con := fun args => match args with
 | [.t (.c (.sl 1 n_l c_l))] => some (.t (.c (.v (.int .i64 (firstNZ (listC n_l mkInt c_l))))), some (numsP 1 n_l c_l), false)
 | _ => none
theorem ok_track_first : Ok Try.prog 69 con_track_first := by
 refine Ok.oldG (Enters.of (fn := Try.f69) (by kernel_rfl) (by kernel_rfl) (by kernel_rfl)) fun args r pre fresh h hp => ?_
 unfold con_track_first at h
 split at h
 ·rename_i n_l c_l
  cases h
  refine ⟨rfl, _, rfl, fun W N vs hv => ?_⟩
  have hp0 := hp
  obtain ⟨v_l, ws0, k0, g0, hv0⟩ := hv.cons_inv
  subst k0
  have h_l := at_int hp0 g0
  have ev := hv0.nil_inv
  subst ev
  generalize listC n_l mkInt c_l = l at *
  exact (track_first l v_l W h_l).mono fun e w' h => ⟨h.1, h.2 ▸ Below.refl _ _⟩
 ·cases h
def S13 : Sum := addS S12 69 con_track_first
theorem VS13 : Valid Try.prog S13 := Valid.add VS12 ok_track_first
def con_track_momentErr : Con := fun args => match args with
 | [.t (.a [.v (.int .i64 p0), .v (.int .i64 p1), .v (.int .i64 p2), .v (.int .i64 p3)])] => some (.t (.c (.v (.int .i64 (momE ⟨p0, p1, p2⟩ p3)))), none, false)
 | _ => none
theorem ok_track_momentErr : Ok Try.prog 74 con_track_momentErr := by
 refine Ok.oldG (Enters.of (fn := Try.f74) (by kernel_rfl) (by kernel_rfl) (by kernel_rfl)) fun args r pre fresh h hp => ?_
 unfold con_track_momentErr at h
 split at h
 ·rename_i p0 p1 p2 p3
  cases h
  refine ⟨rfl, _, rfl, fun W N vs hv => ?_⟩
  obtain ⟨u0, ws0, k0, g0, hv0⟩ := hv.cons_inv
  subst k0
  have e0 := plain_arg rfl g0
  subst e0
  have ev := hv0.nil_inv
  subst ev
  exact track_momentErr (⟨p0, p1, p2⟩ : V3) p3 W
 ·cases h
def S14 : Sum := addS S13 74 con_track_momentErr
theorem VS14 : Valid Try.prog S14 := Valid.add VS13 ok_track_momentErr
def con_track_openBox : Con := fun args => match args with
 | [.t (.a [.v (.int .i64 m0), .v (.int .i64 m1), .v (.int .i64 m2), .v (.int .i64 m3), .v (.int .i64 m4), .v (.int .i64 m5), .v (.int .i64 m6), .v (.int .i64 m7), .v (.int .i64 m8), .v (.int .i64 m9), .v (.int .i64 m10), .v (.int .i64 m11)]), .t (.a [.v (.int .i64 b0), .v (.int .i64 b1), .v (.int .i64 b2), .v (.int .i64 b3), .v (.int .i64 b4), .v (.int .i64 b5)])] => some (.tu [.a [.v (.int .i64 m0), .v (.int .i64 m1), .v (.int .i64 m2), .v (.int .i64 m3), .v (.int .i64 m4), .v (.int .i64 m5), .v (.int .i64 m6), .v (.int .i64 m7), .v (.int .i64 m8), .v (.int .i64 m9), .v (.int .i64 m10), .v (.int .i64 m11)], .c (.v (.int .i64 (firstNZ [((⟨m0, m1, m2, m3, m4, m5, m6, m7, m8, m9, m10, m11⟩ : TMod)).err, ((⟨⟨b0, b1, b2⟩, ⟨b3, b4, b5⟩⟩ : TBox)).err])))], none, false)
 | _ => none
theorem ok_track_openBox : Ok Try.prog 92 con_track_openBox := by
 refine Ok.oldG (Enters.of (fn := Try.f92) (by kernel_rfl) (by kernel_rfl) (by kernel_rfl)) fun args r pre fresh h hp => ?_
 unfold con_track_openBox at h
 split at h
 ·rename_i m0 m1 m2 m3 m4 m5 m6 m7 m8 m9 m10 m11 b0 b1 b2 b3 b4 b5
  cases h
  refine ⟨rfl, _, rfl, fun W N vs hv => ?_⟩
  obtain ⟨u0, ws0, k0, g0, hv0⟩ := hv.cons_inv
  subst k0
  have e0 := plain_arg rfl g0
  subst e0
  obtain ⟨u1, ws1, k1, g1, hv1⟩ := hv0.cons_inv
  subst k1
  have e1 := plain_arg rfl g1
  subst e1
  have ev := hv1.nil_inv
  subst ev
  exact track_openBox (⟨m0, m1, m2, m3, m4, m5, m6, m7, m8, m9, m10, m11⟩ : TMod) (⟨⟨b0, b1, b2⟩, ⟨b3, b4, b5⟩⟩ : TBox) W
 ·cases h
def S15 : Sum := addS S14 92 con_track_openBox
theorem VS15 : Valid Try.prog S15 := Valid.add VS14 ok_track_openBox
def con_track_openHits : Con := fun args => match args with
 | [.t (.a [.v (.int .i64 m0), .v (.int .i64 m1), .v (.int .i64 m2), .v (.int .i64 m3), .v (.int .i64 m4), .v (.int .i64 m5), .v (.int .i64 m6), .v (.int .i64 m7), .v (.int .i64 m8), .v (.int .i64 m9), .v (.int .i64 m10), .v (.int .i64 m11)]), .t (.a [.v (.int .i64 b0), .v (.int .i64 b1), .v (.int .i64 b2), .v (.int .i64 b3), .v (.int .i64 b4), .v (.int .i64 b5)]), .t (.c (.sl 5 n_l c_l))] => some (.tu [.a [.v (.int .i64 m0), .v (.int .i64 m1), .v (.int .i64 m2), .v (.int .i64 m3), .v (.int .i64 m4), .v (.int .i64 m5), .v (.int .i64 m6), .v (.int .i64 m7), .v (.int .i64 m8), .v (.int .i64 m9), .v (.int .i64 m10), .v (.int .i64 m11)], .c (.v (.int .i64 (firstNZ [firstNZ [((⟨m0, m1, m2, m3, m4, m5, m6, m7, m8, m9, m10, m11⟩ : TMod)).err, ((⟨⟨b0, b1, b2⟩, ⟨b3, b4, b5⟩⟩ : TBox)).err], hitsE (listC n_l mkHit c_l)])))], some (numsP 5 n_l c_l), false)
 | _ => none
theorem ok_track_openHits : Ok Try.prog 95 con_track_openHits := by
 refine Ok.oldG (Enters.of (fn := Try.f95) (by kernel_rfl) (by kernel_rfl) (by kernel_rfl)) fun args r pre fresh h hp => ?_
 unfold con_track_openHits at h
 split at h
 ·rename_i m0 m1 m2 m3 m4 m5 m6 m7 m8 m9 m10 m11 b0 b1 b2 b3 b4 b5 n_l c_l
  cases h
  refine ⟨rfl, _, rfl, fun W N vs hv => ?_⟩
  have hp0 := hp
  obtain ⟨u0, ws0, k0, g0, hv0⟩ := hv.cons_inv
  subst k0
  have e0 := plain_arg rfl g0
  subst e0
  obtain ⟨u1, ws1, k1, g1, hv1⟩ := hv0.cons_inv
  subst k1
  have e1 := plain_arg rfl g1
  subst e1
  obtain ⟨v_l, ws2, k2, g2, hv2⟩ := hv1.cons_inv
  subst k2
  have h_l := at_THit hp0 g2
  have ev := hv2.nil_inv
  subst ev
  generalize listC n_l mkHit c_l = l at *
  exact track_openHits (⟨m0, m1, m2, m3, m4, m5, m6, m7, m8, m9, m10, m11⟩ : TMod) (⟨⟨b0, b1, b2⟩, ⟨b3, b4, b5⟩⟩ : TBox) l v_l W h_l
 ·cases h
def S16 : Sum := addS S15 95 con_track_openHits
theorem VS16 : Valid Try.prog S16 := Valid.add VS15 ok_track_openHits
def con_track_ends_times : Con := fun args => match args with
 | [.t (.a [.v (.int .i64 r0), .v (.int .i64 r1)]), .t (.a [.v (.int .i64 s0), .v (.int .i64 s1)])] => some (.t (.a [.v (.int .i64 ((((⟨r0, r1⟩ : Rg) : Rg).times (⟨s0, s1⟩ : Rg)).lo)), .v (.int .i64 ((((⟨r0, r1⟩ : Rg) : Rg).times (⟨s0, s1⟩ : Rg)).hi))]), some ((-4000000000000000000 ≤ r0 * s0 ∧ r0 * s0 ≤ 4000000000000000000) ∧ (-4000000000000000000 ≤ r0 * s1 ∧ r0 * s1 ≤ 4000000000000000000) ∧ (-4000000000000000000 ≤ r1 * s0 ∧ r1 * s0 ≤ 4000000000000000000) ∧ (-4000000000000000000 ≤ r1 * s1 ∧ r1 * s1 ≤ 4000000000000000000)), false)
 | _ => none
theorem ok_track_ends_times : Ok Try.prog 131 con_track_ends_times := by
 refine Ok.oldG (Enters.of (fn := Try.f131) (by kernel_rfl) (by kernel_rfl) (by kernel_rfl)) fun args r pre fresh h hp => ?_
 unfold con_track_ends_times at h
 split at h
 ·rename_i r0 r1 s0 s1
  cases h
  refine ⟨rfl, _, rfl, fun W N vs hv => ?_⟩
  have hp := hp
  obtain ⟨u0, ws0, k0, g0, hv0⟩ := hv.cons_inv
  subst k0
  have e0 := plain_arg rfl g0
  subst e0
  obtain ⟨u1, ws1, k1, g1, hv1⟩ := hv0.cons_inv
  subst k1
  have e1 := plain_arg rfl g1
  subst e1
  have ev := hv1.nil_inv
  subst ev
  exact track_times ⟨r0, r1⟩ ⟨s0, s1⟩ W hp.1 hp.2.1 hp.2.2.1 hp.2.2.2
 ·cases h
def S17 : Sum := addS S16 131 con_track_ends_times
theorem VS17 : Valid Try.prog S17 := Valid.add VS16 ok_track_ends_times
end Go.Proofs.Ytlmdmpjfehpjeaa
set_option linter.unusedVariables false
set_option linter.unusedSimpArgs false
namespace Go.Proofs.Ytlmdmpjfehpjeaa
open Go.RowKit Ev
theorem leI {a b : Int} (h : a = b) : LeD (.t (.c (.v (.int .i64 a)))) (.t (.c (.v (.int .i64 b)))) := LeD.of (by rw [h])
theorem leB {a b : Bool} (h : a = b) : LeD (.t (.c (.v (.bool a)))) (.t (.c (.v (.bool b)))) := LeD.of (by rw [h])
theorem bw {r : Rg} {A B : Int} (h : A ≤ B) (g : r.bd A) : r.bd B := by unfold Rg.bd at *; omega
theorem sqW_eq {r : Rg} {A C : Int} (h : r.bd A) (hC : A * A ≤ C) (hm : C ≤ 4000000000000000000) : sqW r.lo r.hi = r.square := by
 have m1 := mul_rg h.1 h.1 hC
 have m2 := mul_rg h.2 h.2 hC
 have e1 : wr (r.lo * r.lo) = r.lo * r.lo := IntWalk.i64_in _ (by omega)
 have e2 : wr (r.hi * r.hi) = r.hi * r.hi := IntWalk.i64_in _ (by omega)
 unfold sqW Rg.square
 rw [e1, e2]
theorem plusW_eq {r s : Rg} {A B : Int} (h : r.bd A) (g : s.bd B) (hm : A + B ≤ 8000000000000000000) : r.plusW s = r.plus s := by
 unfold Rg.bd at h g
 have e1 : wr (r.lo + s.lo) = r.lo + s.lo := IntWalk.i64_in _ (by omega)
 have e2 : wr (r.hi + s.hi) = r.hi + s.hi := IntWalk.i64_in _ (by omega)
 unfold Rg.plusW Rg.plus
 rw [e1, e2]
theorem sqsW_eq {b : TBox} (hl : b.lo.inS 20 = true) (hh : b.hi.inS 20 = true) : sqsW b = b.squares := by
 obtain ⟨a1, a2, a3⟩ := inS_iff.1 hl
 obtain ⟨b1, b2, b3⟩ := inS_iff.1 hh
 have r1 : b.rx.bd 20 := ⟨a1, b1⟩
 have r2 : b.ry.bd 20 := ⟨a2, b2⟩
 have r3 : b.rz.bd 20 := ⟨a3, b3⟩
 have s1 := (Rg.square_bd r1 (C := 400) (by decide)).1
 have s2 := (Rg.square_bd r2 (C := 400) (by decide)).1
 have s3 := (Rg.square_bd r3 (C := 400) (by decide)).1
 have z : (⟨0, 0⟩ : Rg).bd 0 := by unfold Rg.bd; simp
 have p1 := Rg.plus_bd z s1 (C := 400) (by decide)
 have p2 := Rg.plus_bd p1 s2 (C := 800) (by decide)
 have e1 : sqW b.lo.x b.hi.x = b.rx.square := sqW_eq r1 (C := 400) (by decide) (by decide)
 have e2 : sqW b.lo.y b.hi.y = b.ry.square := sqW_eq r2 (C := 400) (by decide) (by decide)
 have e3 : sqW b.lo.z b.hi.z = b.rz.square := sqW_eq r3 (C := 400) (by decide) (by decide)
 unfold sqsW TBox.squares
 rw [e1, e2, e3, plusW_eq z s1 (by decide), plusW_eq p1 s2 (by decide), plusW_eq p2 s3 (by decide)]
theorem canW_eq {m : TMod} {b : TBox} (hl : b.lo.inS 20 = true) (hh : b.hi.inS 20 = true) : canW m b = m.canB b := by
 unfold canW TMod.canB
 rw [sqsW_eq hl hh]
def vc_ref05_Count (b0 b1 b2 b3 b4 b5 : Int) (post : DV → Prop) : Prop := (0 ≤ (0 : Int) ∧ (0 : Int) < ((3 : Nat) : Int)) ∧ ((0 ≤ (0 : Int) ∧ (0 : Int) < ((3 : Nat) : Int)) ∧ (lt (IntKind.i64.wrap (b3 - b0)) fun x1 => lt (IntKind.i64.wrap (x1 + (1 : Int))) fun x2 => (0 ≤ (1 : Int) ∧ (1 : Int) < ((3 : Nat) : Int)) ∧ ((0 ≤ (1 : Int) ∧ (1 : Int) < ((3 : Nat) : Int)) ∧ (lt (IntKind.i64.wrap (b4 - b1)) fun x3 => lt (IntKind.i64.wrap (x3 + (1 : Int))) fun x4 => lt (IntKind.i64.wrap (x2 * x4)) fun x5 => (0 ≤ (2 : Int) ∧ (2 : Int) < ((3 : Nat) : Int)) ∧ ((0 ≤ (2 : Int) ∧ (2 : Int) < ((3 : Nat) : Int)) ∧ (lt (IntKind.i64.wrap (b5 - b2)) fun x6 => lt (IntKind.i64.wrap (x6 + (1 : Int))) fun x7 => lt (IntKind.i64.wrap (x5 * x7)) fun x8 => post (.t (.c (.v (.int .i64 x8))))))))))
def ann_ref05_Count : Ann := ⟨fun _ => none, fun _ => none, fun _ => [], noIt, false, fun _ => none, fun _ => none⟩
theorem ev_ref05_Count (J : Inv) (b0 b1 b2 b3 b4 b5 : Int) (post : DV → Prop) : evFn Try.prog tab S17 ann_ref05_Count J Try.f54 [.t (.a [.v (.int .i64 b0), .v (.int .i64 b1), .v (.int .i64 b2), .v (.int .i64 b3), .v (.int .i64 b4), .v (.int .i64 b5)])] post = vc_ref05_Count b0 b1 b2 b3 b4 b5 post := by kernel_rfl
theorem fit_ref05_Count : okFn ann_ref05_Count Try.f54 = true := by kernel_rfl
theorem lp_ref05_Count (J : Inv) (post : DV → Prop) : AllG J (loopsFn Try.prog tab S17 ann_ref05_Count J Try.f54 post) = (True) := by kernel_rfl
theorem spec_ref05_Count (b0 b1 b2 b3 b4 b5 : Int) (hp : ((⟨⟨b0, b1, b2⟩, ⟨b3, b4, b5⟩⟩ : TBox)).lo.inS 20 = true ∧ ((⟨⟨b0, b1, b2⟩, ⟨b3, b4, b5⟩⟩ : TBox)).hi.inS 20 = true) : vc_ref05_Count b0 b1 b2 b3 b4 b5 (fun r => LeD r (.t (.c (.v (.int .i64 (((⟨⟨b0, b1, b2⟩, ⟨b3, b4, b5⟩⟩ : TBox)).count)))))) := by
 obtain ⟨a1, a2, a3⟩ := inS_iff.1 hp.1
 obtain ⟨c1, c2, c3⟩ := inS_iff.1 hp.2
 simp only at a1 a2 a3 c1 c2 c3
 unfold vc_ref05_Count
 (repeat' with_reducible first | (refine lt_i ?_; intro _ _) | (refine cond_i ?_ ?_ <;> intro _) | (refine And.intro ?_ ?_))
 all_goals first | decide | skip
 rename_i x1 h1 x2 h2 x3 h3 x4 h4 x5 h5 x6 h6 x7 h7 x8 h8
 rw [IntWalk.i64_in _ (by omega)] at h1
 rw [IntWalk.i64_in _ (by omega)] at h2
 rw [IntWalk.i64_in _ (by omega)] at h3
 rw [IntWalk.i64_in _ (by omega)] at h4
 have m1 := mul_rg (x := x2) (y := x4) (A := 41) (B := 41) (C := 1681) (by omega) (by omega) (by decide)
 rw [IntWalk.i64_in _ (by omega)] at h5
 rw [IntWalk.i64_in _ (by omega)] at h6
 rw [IntWalk.i64_in _ (by omega)] at h7
 have m2 := mul_rg (x := x5) (y := x7) (A := 1681) (B := 41) (C := 68921) (by omega) (by omega) (by decide)
 rw [IntWalk.i64_in _ (by omega)] at h8
 refine LeD.of ?_
 unfold TBox.count
 simp only
 rw [← h8, ← h5, ← h2, ← h4, ← h7, ← h1, ← h3, ← h6]
def con_ref05_Count : Con := fun args => match args with
 | [.t (.a [.v (.int .i64 b0), .v (.int .i64 b1), .v (.int .i64 b2), .v (.int .i64 b3), .v (.int .i64 b4), .v (.int .i64 b5)])] => some (.t (.c (.v (.int .i64 (((⟨⟨b0, b1, b2⟩, ⟨b3, b4, b5⟩⟩ : TBox)).count)))), some (((⟨⟨b0, b1, b2⟩, ⟨b3, b4, b5⟩⟩ : TBox)).lo.inS 20 = true ∧ ((⟨⟨b0, b1, b2⟩, ⟨b3, b4, b5⟩⟩ : TBox)).hi.inS 20 = true), false)
 | _ => none
theorem ok_ref05_Count : Ok Try.prog 54 con_ref05_Count := by
 refine Ok.fn (ann := ann_ref05_Count) mixed tabOK VS17 ValidIt.no (fn := Try.f54) (by kernel_rfl) (by kernel_rfl) fit_ref05_Count fun args r pre fresh h hp => ?_
 unfold con_ref05_Count at h
 split at h
 ·rename_i b0 b1 b2 b3 b4 b5
  cases h
  refine ⟨rfl, fun _ _ _ => False, _, LeA.refl _, Nat.le_of_ble_eq_true (by kernel_rfl), ?_, ?_⟩
  ·rw [ev_ref05_Count]; exact spec_ref05_Count b0 b1 b2 b3 b4 b5 hp
  ·rw [lp_ref05_Count]; trivial
 ·cases h
def S18 : Sum := addS S17 54 con_ref05_Count
theorem VS18 : Valid Try.prog S18 := Valid.add VS17 ok_ref05_Count
def vc_ref05_BoxErr (b0 b1 b2 b3 b4 b5 : Int) (post : DV → Prop) : Prop := (0 ≤ (0 : Int) ∧ (0 : Int) < ((3 : Nat) : Int)) ∧ (cond (!(inB b0 (-20) 20)) ((true = true) ∧ (post (.t (.c (.v (.int .i64 2)))))) ((0 ≤ (0 : Int) ∧ (0 : Int) < ((3 : Nat) : Int)) ∧ (cond (!(inB b3 (-20) 20)) (post (.t (.c (.v (.int .i64 2))))) ((0 ≤ (1 : Int) ∧ (1 : Int) < ((3 : Nat) : Int)) ∧ (cond (!(inB b1 (-20) 20)) ((true = true) ∧ (post (.t (.c (.v (.int .i64 2)))))) ((0 ≤ (1 : Int) ∧ (1 : Int) < ((3 : Nat) : Int)) ∧ (cond (!(inB b4 (-20) 20)) (post (.t (.c (.v (.int .i64 2))))) ((0 ≤ (2 : Int) ∧ (2 : Int) < ((3 : Nat) : Int)) ∧ (cond (!(inB b2 (-20) 20)) ((true = true) ∧ (post (.t (.c (.v (.int .i64 2)))))) ((0 ≤ (2 : Int) ∧ (2 : Int) < ((3 : Nat) : Int)) ∧ (cond (!(inB b5 (-20) 20)) (post (.t (.c (.v (.int .i64 2))))) ((0 ≤ (0 : Int) ∧ (0 : Int) < ((3 : Nat) : Int)) ∧ ((0 ≤ (0 : Int) ∧ (0 : Int) < ((3 : Nat) : Int)) ∧ (cond (decide (b0 > b3)) (post (.t (.c (.v (.int .i64 9))))) ((0 ≤ (1 : Int) ∧ (1 : Int) < ((3 : Nat) : Int)) ∧ ((0 ≤ (1 : Int) ∧ (1 : Int) < ((3 : Nat) : Int)) ∧ (cond (decide (b1 > b4)) (post (.t (.c (.v (.int .i64 9))))) ((0 ≤ (2 : Int) ∧ (2 : Int) < ((3 : Nat) : Int)) ∧ ((0 ≤ (2 : Int) ∧ (2 : Int) < ((3 : Nat) : Int)) ∧ (cond (decide (b2 > b5)) (post (.t (.c (.v (.int .i64 9))))) ((((⟨⟨b0, b1, b2⟩, ⟨b3, b4, b5⟩⟩ : TBox)).lo.inS 20 = true ∧ ((⟨⟨b0, b1, b2⟩, ⟨b3, b4, b5⟩⟩ : TBox)).hi.inS 20 = true) ∧ (cond (decide ((((⟨⟨b0, b1, b2⟩, ⟨b3, b4, b5⟩⟩ : TBox)).count) > (700 : Int))) (post (.t (.c (.v (.int .i64 8))))) (post (.t (.c (.v (.int .i64 0)))))))))))))))))))))))))))
def ann_ref05_BoxErr : Ann := ⟨fun r => lookA r [(9, ([[], [], [0, 1], [0, 1, 2], [], [], [4, 5], [4, 5, 6], [0, 1, 2, 3, 4, 5, 6, 7]], [[], [], [], [], [], [], [], [], []]))], fun b => lookA b [(0, (some 4, some ⟨[1, 3], [1], []⟩)), (2, (some 4, some ⟨[1, 4], [1], []⟩))], fun _ => [], noIt, false, fun _ => none, fun _ => none⟩
theorem ev_ref05_BoxErr (J : Inv) (b0 b1 b2 b3 b4 b5 : Int) (post : DV → Prop) : evFn Try.prog tab S18 ann_ref05_BoxErr J Try.f39 [.t (.a [.v (.int .i64 b0), .v (.int .i64 b1), .v (.int .i64 b2), .v (.int .i64 b3), .v (.int .i64 b4), .v (.int .i64 b5)])] post = vc_ref05_BoxErr b0 b1 b2 b3 b4 b5 post := by kernel_rfl
theorem fit_ref05_BoxErr : okFn ann_ref05_BoxErr Try.f39 = true := by kernel_rfl
theorem lp_ref05_BoxErr (J : Inv) (post : DV → Prop) : AllG J (loopsFn Try.prog tab S18 ann_ref05_BoxErr J Try.f39 post) = (True) := by kernel_rfl
theorem spec_ref05_BoxErr (b0 b1 b2 b3 b4 b5 : Int) : vc_ref05_BoxErr b0 b1 b2 b3 b4 b5 (fun r => LeD r (.t (.c (.v (.int .i64 (((⟨⟨b0, b1, b2⟩, ⟨b3, b4, b5⟩⟩ : TBox)).err)))))) := by
 unfold vc_ref05_BoxErr
 (repeat' with_reducible first | (refine lt_i ?_; intro _ _) | (refine cond_i ?_ ?_ <;> intro _) | (refine And.intro ?_ ?_))
 all_goals first
  | decide
  | (refine leI ?_; simp_all [TBox.err, firstNZ, unl, V3.inS]; done)
  | (simp_all [V3.inS]; done)
  | (refine leI ?_; simp_all [TBox.err, firstNZ, unl, V3.inS]; omega)
def con_ref05_BoxErr : Con := fun args => match args with
 | [.t (.a [.v (.int .i64 b0), .v (.int .i64 b1), .v (.int .i64 b2), .v (.int .i64 b3), .v (.int .i64 b4), .v (.int .i64 b5)])] => some (.t (.c (.v (.int .i64 (((⟨⟨b0, b1, b2⟩, ⟨b3, b4, b5⟩⟩ : TBox)).err)))), none, false)
 | _ => none
theorem ok_ref05_BoxErr : Ok Try.prog 39 con_ref05_BoxErr := by
 refine Ok.fn (ann := ann_ref05_BoxErr) mixed tabOK VS18 ValidIt.no (fn := Try.f39) (by kernel_rfl) (by kernel_rfl) fit_ref05_BoxErr fun args r pre fresh h hp => ?_
 unfold con_ref05_BoxErr at h
 split at h
 ·rename_i b0 b1 b2 b3 b4 b5
  cases h
  refine ⟨rfl, fun _ _ _ => False, _, LeA.refl _, Nat.le_of_ble_eq_true (by kernel_rfl), ?_, ?_⟩
  ·rw [ev_ref05_BoxErr]; exact spec_ref05_BoxErr b0 b1 b2 b3 b4 b5
  ·rw [lp_ref05_BoxErr]; trivial
 ·cases h
def S19 : Sum := addS S18 39 con_ref05_BoxErr
theorem VS19 : Valid Try.prog S19 := Valid.add VS18 ok_ref05_BoxErr
def S20 : Sum := S19
theorem VS20 : Valid Try.prog S20 := VS19
end Go.Proofs.Ytlmdmpjfehpjeaa