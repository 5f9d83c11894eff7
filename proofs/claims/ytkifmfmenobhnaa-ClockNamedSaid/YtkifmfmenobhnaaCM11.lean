/- Texts of this claim, together. -/
import Derived.Test.YtkifmfmenobhnaaCM10
import Derived.Lib.SliceRun
import Derived.Test.YtkifmfmenobhnaaCM4

set_option linter.unusedVariables false
set_option linter.unusedSimpArgs false
namespace Go.Proofs.Ytkifmfmenobhnaa
open Go.RowKit Ev
def LkIn (w : World) (g : Nat) (l : List Lnk) (a b : Nat) : Prop := ∀ p, a ≤ p → p < b → ∀ c, c < 4 → w.cell? ⟨g, p * 4 + c, none⟩ = some (lkC (lnkAt l p) c)
structure ButB (W : World) (g : Nat) (w : World) : Prop where
 os : w.os = W.os
 tape : w.tape = W.tape
 output : w.output = W.output
 size : W.heap.size ≤ w.heap.size
 block : ∀ b, b < W.heap.size → b ≠ g → w.heap[b]? = W.heap[b]?
theorem ButB.below {W w w' : World} {g : Nat} (h : ButB W g w) (hb : Below w.heap.size w w') : ButB W g w' := ⟨hb.os.trans h.os, hb.tape.trans h.tape, hb.output.trans h.output, Nat.le_trans h.size hb.size, fun b h1 h2 => (hb.block b (Nat.lt_of_lt_of_le h1 h.size)).trans (h.block b h1 h2)⟩
theorem mem_lnkJ {l : List Lnk} {z : Lnk} (h : z ∈ l) : ∃ k, k < l.length ∧ lnkAt l k = z := by
 obtain ⟨i, hi, e⟩ := List.getElem_of_mem h
 exact ⟨i, hi, by simp [lnkAt, List.getD, hi, e]⟩
def z4 : Array Value := #[.int .i64 0, .int .i64 0, .int .i64 0, .int .i64 0]
theorem z4_one (n : Nat) : ∀ u ∈ (Builtin.zeroCells z4 n).toList, u.oneCell' = true := by
 intro u hu
 simp only [Builtin.zeroCells, Array.toList_map, List.mem_map] at hu
 obtain ⟨i, _, rfl⟩ := hu
 have h : i % z4.size < 4 := Nat.mod_lt _ (by decide)
 generalize i % z4.size = r at h
 rcases (by omega : r = 0 ∨ r = 1 ∨ r = 2 ∨ r = 3) with rfl | rfl | rfl | rfl <;> rfl
theorem z4_len (n : Nat) : (Builtin.zeroCells z4 n).toList.length = n * 4 := by simp [Builtin.zeroCells, z4]
theorem run_clear4 (w : World) (g o n c : Nat) (hn : 0 < n) (hc : ∀ j, j < n * 4 → (w.cell? ⟨g, o + j, none⟩).isSome = true) (hf : ∀ j, w.frozen? ⟨g, j, none⟩ = false) (ty : TypeId) :
  (Builtin.clear_ #[53] ty #[.slice (some ⟨g, o, none⟩) n c]).run Try.prog w = .ok (.tuple #[]) (w.setCells g o (Builtin.zeroCells z4 n).toList) := by
 have hv : ∀ w, (zeroValue 125).run Try.prog w = .ok (.agg z4) w := fun _ => by kernel_rfl
 have hst := run_storeCells_cells (P := Try.prog) g o (Builtin.zeroCells z4 n).toList 0 w (by rw [z4_len]; simpa using hc) (by simpa using fun j _ => hf _) (z4_one n)
 simp only [Nat.add_zero] at hst
 obtain ⟨m, rfl⟩ : ∃ m, n = m + 1 := ⟨n - 1, by omega⟩
 have hz : (Value.agg z4).cells = z4 := by simp [Value.cells]
 simp [Builtin.clear_, run_underlying Try.underlying53, hv, hz, hst]
theorem setCells_but (g : Nat) : ∀ (vs : List Value) (o : Nat) (w : World), (∀ b, b ≠ g → (w.setCells g o vs).heap[b]? = w.heap[b]?) ∧ (w.setCells g o vs).heap.size = w.heap.size ∧ (w.setCells g o vs).os = w.os ∧ (w.setCells g o vs).tape = w.tape ∧ (w.setCells g o vs).output = w.output
 | [], o, w => ⟨fun _ _ => rfl, rfl, rfl, rfl, rfl⟩
 | v :: vs, o, w => by
  obtain ⟨h1, h2, h3, h4, h5⟩ := setCells_but g vs (o + 1) (w.setCell ⟨g, o, none⟩ v)
  refine ⟨fun b hb => (h1 b hb).trans (heap_setCell_other _ _ _ _ hb), h2.trans (by simp), h3.trans (by first | rfl | simp), h4.trans (by first | rfl | simp), h5.trans (by first | rfl | simp)⟩
def keptK (q : Int) (l : List Lnk) (j : Nat) : List Lnk := (l.take j).filter fun x => !hasK q x
theorem keptK_succ {q : Int} {l : List Lnk} {j : Nat} (hj : j < l.length) : keptK q l (j + 1) = keptK q l j ++ (if hasK q (lnkAt l j) = true then [] else [lnkAt l j]) := by
 unfold keptK
 rw [List.take_succ_eq_append_getElem hj, List.filter_append]
 have e : l[j] = lnkAt l j := by simp [lnkAt, List.getD, hj]
 rw [e]
 cases h : hasK q (lnkAt l j) <;> simp [h]
theorem keptK_len (q : Int) (l : List Lnk) (j : Nat) : (keptK q l j).length ≤ j := by
 unfold keptK
 have := List.length_filter_le (fun x => !hasK q x) (l.take j)
 rw [List.length_take] at this
 omega
set_option maxRecDepth 100000 in
set_option maxHeartbeats 2000000 in
theorem walk_DeleteL (W : World) (B : Nat) (q : Int) (hB : B < W.heap.size) (hq : W.cell? ⟨B, 0, none⟩ = some (.int .i64 q)) (l : List Lnk) (g cap : Nat) (hg : g < W.heap.size) (hne : B ≠ g) (hl : l.length ≤ 100) (hc : LkIn W g l 0 l.length) (hf : ∀ o, W.frozen? ⟨g, o, none⟩ = false) (hcap : l.length ≤ cap) :
  Calls Try.prog 117 #[.slice (some ⟨g, 0, none⟩) l.length cap, .func (.func 119) #[] #[.pointer (some ⟨B, 0, none⟩)]] W fun e W' => e = .returned (.slice (some ⟨g, 0, none⟩) (keptK q l l.length).length cap) ∧ LkIn W' g (keptK q l l.length) 0 (keptK q l l.length).length ∧ ButB W g W' := by
 have HB := hid hB
 have HQ := hid hq
 have HC := hid hc
 have HF := hid hf
 have HG := hid hg
 have hat : LnkAt W (some ⟨g, 0, none⟩) l := fun k hk => ⟨g, 0, rfl, hg, by rw [Nat.zero_add]; exact hc k (Nat.zero_le _) hk 0 (by omega), by rw [Nat.zero_add]; exact hc k (Nat.zero_le _) hk 1 (by omega), by rw [Nat.zero_add]; exact hc k (Nat.zero_le _) hk 2 (by omega), by rw [Nat.zero_add]; exact hc k (Nat.zero_le _) hk 3 (by omega)⟩
 have HI := hid (walk_IndexFuncL W B q hB hq l (some ⟨g, 0, none⟩) cap hl hat)
 clear hat hc hf hq
 go_enter Try.func117, Try.ntmps117
 go_wp2_with (go_at_call 133; refine HI.out.mono ?_; rintro _ w1 ⟨r, rfl, hr, hb1⟩; rcases hr with ⟨rfl, hno⟩ | ⟨k0, rfl, hk0, hyes, hbef⟩)
 ·((try simp only [Exit.inBlock, Exit.then]); refine bodyPost_ret (v := .slice (some ⟨g, 0, none⟩) l.length cap) ?_ rfl ?_; (next => simp [results, Try.results117, go_sem]))
  have e : keptK q l l.length = l := by
   unfold keptK
   rw [List.take_length, List.filter_eq_self]
   intro x hx
   obtain ⟨j, hj, rfl⟩ := mem_lnkJ hx
   rw [hno j hj]; rfl
  rw [e]
  refine ⟨rfl, fun p h1 h2 c h3 => ?_, ⟨hb1.os, hb1.tape, hb1.output, hb1.size, fun b h1 _ => hb1.block b h1⟩⟩
  rw [hb1.cell (p := ⟨g, p * 4 + c, none⟩) HG.out]
  exact HC.out p h1 h2 c h3
 ·have hk1 : (((k0 : Nat) : Int) == -1) = false := by simp
  have HH1 := hid hb1
  have HBF := hid hbef
  have HYE := hid hyes
  have e0 : keptK q l (k0 + 1) = l.take k0 := by
   rw [keptK_succ hk0, hyes, if_pos rfl, List.append_nil]
   unfold keptK
   rw [List.filter_eq_self]
   intro x hx
   obtain ⟨j, hj, e⟩ := mem_lnkJ hx
   have hj' : j < k0 := by rw [List.length_take] at hj; omega
   have e2 : lnkAt (l.take k0) j = lnkAt l j := by simp [lnkAt, List.getD, List.getElem?_take, hj']
   rw [← e, e2, hbef j hj']; rfl
  have E0 := hid e0
  clear hb1 hbef hyes e0
  (try simp only [hk1])
  go_loopw [5, 6] (fun ti tj wr => ∃ j : Nat, k0 < j ∧ j ≤ l.length ∧ ti = .int .i64 (keptK q l j).length ∧ tj = .int .i64 j ∧ (keptK q l j).length < j ∧ Hid (LkIn wr g (keptK q l j) 0 (keptK q l j).length) ∧ Hid (LkIn wr g l j l.length) ∧ Hid (ButB W g wr) ∧ Hid (∀ o, wr.frozen? ⟨g, o, none⟩ = false) ∧ Hid (∀ p, p < l.length → ∀ c, c < 4 → (wr.cell? ⟨g, p * 4 + c, none⟩).isSome = true)) (fun _ j _ => l.length - (intOf j).toNat)
  case atStart =>
   have hl0 : (keptK q l (k0 + 1)).length = k0 := by rw [E0.out, List.length_take]; omega
   refine ⟨k0 + 1, by omega, by omega, by rw [hl0], rfl, by omega, hid fun p h1 h2 c h3 => ?_, hid fun p h1 h2 c h3 => ?_, hid ⟨HH1.out.os, HH1.out.tape, HH1.out.output, HH1.out.size, fun b h1 _ => HH1.out.block b h1⟩, hid fun o => ?_, hid fun p h1 c h3 => ?_⟩
   ·rw [hl0] at h2
    rw [HH1.out.cell (p := ⟨g, p * 4 + c, none⟩) HG.out, E0.out]
    have e2 : lnkAt (l.take k0) p = lnkAt l p := by simp [lnkAt, List.getD, List.getElem?_take, h2]
    rw [e2]
    exact HC.out p (Nat.zero_le _) (by omega) c h3
   ·rw [HH1.out.cell (p := ⟨g, p * 4 + c, none⟩) HG.out]
    exact HC.out p (Nat.zero_le _) h2 c h3
   ·rw [← HF.out o]; exact World.frozen?_of_block (HH1.out.block g HG.out)
   ·rw [HH1.out.cell (p := ⟨g, p * 4 + c, none⟩) HG.out, HC.out p (Nat.zero_le _) h1 c h3]; rfl
  case round =>
   obtain ⟨j, hj1, hj2, rfl, rfl, hm, HL, HR, HBU, HFZ, HS⟩ := hrel
   by_cases hlt : j < l.length
   ·have hgw : g < wr.heap.size := Nat.lt_of_lt_of_le HG.out HBU.out.size
    have hBw : B < wr.heap.size := Nat.lt_of_lt_of_le HB.out HBU.out.size
    have hqw : wr.cell? ⟨B, 0, none⟩ = some (.int .i64 q) := (World.cell?_of_block (w := W) (HBU.out.block B HB.out hne)).trans HQ.out
    have c0 : wr.cell? ⟨g, j * 4, none⟩ = some (.int .i64 (lnkAt l j).frm) := HR.out j (Nat.le_refl _) hlt 0 (by omega)
    have c1 : wr.cell? ⟨g, j * 4 + 1, none⟩ = some (.int .i64 (lnkAt l j).to) := HR.out j (Nat.le_refl _) hlt 1 (by omega)
    have c2 : wr.cell? ⟨g, j * 4 + 2, none⟩ = some (.int .i64 (lnkAt l j).lo) := HR.out j (Nat.le_refl _) hlt 2 (by omega)
    have c3 : wr.cell? ⟨g, j * 4 + 3, none⟩ = some (.int .i64 (lnkAt l j).hi) := HR.out j (Nat.le_refl _) hlt 3 (by omega)
    obtain ⟨x, hx⟩ : ∃ x, x = lnkAt l j := ⟨_, rfl⟩
    obtain ⟨m, hmm⟩ : ∃ m, m = (keptK q l j).length := ⟨_, rfl⟩
    rw [← hx] at c0 c1 c2 c3
    rw [← hmm] at hm ⊢
    have HX := hid hx
    have HM := hid hmm
    have hz : wr.heap.size ≠ g := by omega
    have hz2 : g ≠ wr.heap.size := by omega
    have HW1 : Hid (∀ w2, Below wr.heap.size wr w2 → Calls Try.prog 119 #[.agg #[.int .i64 x.frm, .int .i64 x.to, .int .i64 x.lo, .int .i64 x.hi], .pointer (some ⟨B, 0, none⟩)] w2 fun e W' => e = .returned (.bool (hasK q x)) ∧ Below w2.heap.size w2 W') := hid fun w2 hb => walk_Named1 w2 B q x (Nat.lt_of_lt_of_le hBw hb.size) ((hb.cell (p := ⟨B, 0, none⟩) hBw).trans hqw)
    obtain ⟨bb, hbb⟩ : ∃ bb, bb = hasK q x := ⟨_, rfl⟩
    rw [← hbb] at HW1
    have HBB := hid hbb
    clear hx hmm hbb hBw hqw
    cases bb with
    | true =>
     go_wp2_with (go_at_call 119; refine (HW1.out _ (by exact BelowA)).mono ?_; rintro _ w3 ⟨rfl, hb3⟩)
     have q3 : Below wr.heap.size wr w3 := by exact BelowA
     have eK : keptK q l (j + 1) = keptK q l j := by
      have hy : hasK q (lnkAt l j) = true := by rw [← HX.out]; exact HBB.out.symm
      rw [keptK_succ hlt, hy, if_pos rfl, List.append_nil]
     go_roundw
     case rel =>
      refine ⟨j + 1, by omega, by omega, by rw [eK, ← HM.out], by go_num, by rw [eK, ← HM.out]; omega, hid fun p h1 h2 c h3 => ?_, hid fun p h1 h2 c h3 => ?_, hid (HBU.out.below q3), hid fun o => ?_, hid fun p h1 c h3 => by rw [q3.cell (p := ⟨g, p * 4 + c, none⟩) hgw]; exact HS.out p h1 c h3⟩
      ·rw [eK] at h2 ⊢
       exact (q3.cell (p := ⟨g, p * 4 + c, none⟩) hgw).trans (HL.out p h1 h2 c h3)
      ·exact (q3.cell (p := ⟨g, p * 4 + c, none⟩) hgw).trans (HR.out p (by omega) h2 c h3)
      ·rw [← HFZ.out o]; exact World.frozen?_of_block (q3.block g hgw)
     case measure => simp [intOf]; omega
    | false =>
     have s0 := HS.out m (by omega) 0 (by omega)
     have s1 := HS.out m (by omega) 1 (by omega)
     have s2 := HS.out m (by omega) 2 (by omega)
     have s3 := HS.out m (by omega) 3 (by omega)
     have HS0 := hid s0
     have HS1 := hid s1
     have HS2 := hid s2
     have HS3 := hid s3
     have HGW := hid hgw
     clear s0 s1 s2 s3
     go_wp2_with fail
     refine (HW1.out _ (by exact BelowA)).mono ?_
     rintro _ w3 ⟨rfl, hb3⟩
     have q3 : Below wr.heap.size wr w3 := by exact BelowA
     have hlk : ∀ c, c < 4 → w3.cell? ⟨wr.heap.size, c, none⟩ = (wr.alloc (.cells #[.int .i64 x.frm, .int .i64 x.to, .int .i64 x.lo, .int .i64 x.hi] 125)).cell? ⟨wr.heap.size, c, none⟩ := fun c _ => hb3.cell (p := ⟨wr.heap.size, c, none⟩) (by simp)
     have d0 := hlk 0 (by omega)
     have d1 := hlk 1 (by omega)
     have d2 := hlk 2 (by omega)
     have d3 := hlk 3 (by omega)
     simp at d0 d1 d2 d3
     have ex : ∀ c, c < 4 → ∃ u, w3.cell? ⟨g, m * 4 + c, none⟩ = some u := fun c hc => by
      rw [q3.cell (p := ⟨g, m * 4 + c, none⟩) HGW.out]
      exact Option.isSome_iff_exists.1 (HS.out m (by omega) c hc)
     obtain ⟨u0, t0⟩ := ex 0 (by omega)
     obtain ⟨u1, t1⟩ := ex 1 (by omega)
     obtain ⟨u2, t2⟩ := ex 2 (by omega)
     obtain ⟨u3, t3⟩ := ex 3 (by omega)
     have fz : ∀ o, w3.frozen? ⟨g, o, none⟩ = false := fun o => by rw [← HFZ.out o]; exact World.frozen?_of_block (q3.block g HGW.out)
     have z0 := fz (m * 4)
     have z1 := fz (m * 4 + 1)
     have z2 := fz (m * 4 + 2)
     have z3 := fz (m * 4 + 3)
     have Q3 := hid q3
     have FZ := hid fz
     rw [Nat.add_zero] at t0
     clear hlk ex fz hb3 q3
     have hml : m < l.length := by omega
     have eK : keptK q l (j + 1) = keptK q l j ++ [x] := by
      have hy : hasK q (lnkAt l j) = false := by rw [← HX.out]; exact HBB.out.symm
      rw [keptK_succ hlt, hy, if_neg (by simp), HX.out]
     have EK := hid eK
     have T : Hid (∀ c, c < 4 → (w3.cell? ⟨g, m * 4 + c, none⟩).isSome = true) := hid fun c hc => by
      rcases (by omega : c = 0 ∨ c = 1 ∨ c = 2 ∨ c = 3) with rfl | rfl | rfl | rfl
      ·rw [Nat.add_zero, t0]; rfl
      ·rw [t1]; rfl
      ·rw [t2]; rfl
      ·rw [t3]; rfl
     clear eK
     go_wp2_with fail
     go_roundw
     case rel =>
      have hlen : (keptK q l (j + 1)).length = m + 1 := by rw [EK.out, List.length_append, ← HM.out]; rfl
      have OUT := fun p c (h : p ≠ m) (hc : c < 4) => World.cell?_setCells_out g [Value.int .i64 x.frm, .int .i64 x.to, .int .i64 x.lo, .int .i64 x.hi] (m * 4) w3 ⟨g, p * 4 + c, none⟩ (fun _ _ => by
       show p * 4 + c < m * 4 ∨ m * 4 + 4 ≤ p * 4 + c
       omega)
      have IN := fun c (hc : c < 4) => World.cell?_setCells_in g [Value.int .i64 x.frm, .int .i64 x.to, .int .i64 x.lo, .int .i64 x.hi] (m * 4) w3 (fun j hj => T.out j hj) c hc
      have cellw := fun p c => Q3.out.cell (p := ⟨g, p * 4 + c, none⟩) HGW.out
      refine ⟨j + 1, by omega, by omega, by rw [hlen]; go_num, by go_num, by omega, hid fun p h1 h2 c h3 => ?_, hid fun p h1 h2 c h3 => ?_, hid ⟨?_, ?_, ?_, ?_, fun b h1 h2 => ?_⟩, hid fun o => ?_, hid fun p h1 c h3 => ?_⟩
      ·rw [hlen] at h2
       rw [EK.out]
       by_cases e : p = m
       ·subst e
        have e2 : lnkAt (keptK q l j ++ [x]) p = x := by simp [lnkAt, List.getD, HM.out]
        rw [e2]
        refine (IN c h3).trans ?_
        rcases (by omega : c = 0 ∨ c = 1 ∨ c = 2 ∨ c = 3) with rfl | rfl | rfl | rfl <;> rfl
       ·have hp : p < (keptK q l j).length := by rw [← HM.out]; omega
        have e2 : lnkAt (keptK q l j ++ [x]) p = lnkAt (keptK q l j) p := by simp [lnkAt, List.getD, List.getElem?_append_left hp]
        rw [e2]
        exact (OUT p c e h3).trans ((cellw p c).trans (HL.out p h1 hp c h3))
      ·exact (OUT p c (by omega) h3).trans ((cellw p c).trans (HR.out p (by omega) h2 c h3))
      ·exact (by first | rfl | simp : _ = w3.os).trans ((HBU.out.below Q3.out).os)
      ·exact (by first | rfl | simp : _ = w3.tape).trans ((HBU.out.below Q3.out).tape)
      ·exact (by first | rfl | simp : _ = w3.output).trans ((HBU.out.below Q3.out).output)
      ·have := (HBU.out.below Q3.out).size; simpa using this
      ·rw [heap_setCell_other _ _ _ _ h2, heap_setCell_other _ _ _ _ h2, heap_setCell_other _ _ _ _ h2, heap_setCell_other _ _ _ _ h2]
       exact (HBU.out.below Q3.out).block b h1 h2
      ·exact (World.frozen?_setCells g [Value.int .i64 x.frm, .int .i64 x.to, .int .i64 x.lo, .int .i64 x.hi] (m * 4) w3 _).trans (FZ.out o)
      ·by_cases e : p = m
       ·subst e
        exact (congrArg Option.isSome (IN c h3)).trans rfl
       ·exact (congrArg Option.isSome ((OUT p c e h3).trans (cellw p c))).trans (HS.out p h1 c h3)
     case measure => simp [intOf]; omega
   ·obtain rfl : j = l.length := by omega
    obtain ⟨m, hmm⟩ : ∃ m, m = (keptK q l l.length).length := ⟨_, rfl⟩
    rw [← hmm] at hm ⊢
    have HM := hid hmm
    clear hmm
    have hcl : ∀ ty, (Builtin.clear_ #[53] ty #[.slice (some ⟨g, m * 4, none⟩) (l.length - m) (cap - m)]).run Try.prog wr = .ok (.tuple #[]) (wr.setCells g (m * 4) (Builtin.zeroCells z4 (l.length - m)).toList) := fun ty => run_clear4 wr g (m * 4) (l.length - m) (cap - m) (by omega) (fun i hi => by
     have h4 : (l.length - m) * 4 + m * 4 = l.length * 4 := by rw [← Nat.add_mul]; congr 1; omega
     have := HS.out ((m * 4 + i) / 4) (by omega) ((m * 4 + i) % 4) (by omega)
     rwa [show (m * 4 + i) / 4 * 4 + (m * 4 + i) % 4 = m * 4 + i by omega] at this) HFZ.out ty
    go_wp2_with fail
    ((try simp only [Exit.inBlock, Exit.then]); refine bodyPost_ret (v := .slice (some ⟨g, 0, none⟩) m cap) ?_ rfl ?_; (next => simp [results, Try.results117, go_sem]))
    rw [← HM.out]
    obtain ⟨b1, b2, b3, b4, b5⟩ := setCells_but g (Builtin.zeroCells z4 (l.length - m)).toList (m * 4) wr
    refine ⟨rfl, fun p h1 h2 c h3 => ?_, ⟨b3.trans HBU.out.os, b4.trans HBU.out.tape, b5.trans HBU.out.output, by rw [b2]; exact HBU.out.size, fun b h1 h2 => (b1 b h2).trans (HBU.out.block b h1 h2)⟩⟩
    exact (World.cell?_setCells_out g _ (m * 4) wr ⟨g, p * 4 + c, none⟩ (fun _ _ => Or.inl (show p * 4 + c < m * 4 by omega))).trans (HL.out p h1 (by rw [← HM.out]; exact h2) c h3)
end Go.Proofs.Ytkifmfmenobhnaa
set_option linter.unusedVariables false
set_option linter.unusedSimpArgs false
namespace Go.Proofs.Ytkifmfmenobhnaa
open Go.RowKit Ev
theorem clash_all (cs : List ByteArray) (ls : List Lnk) : ∀ m, GrC cs ls m
 | 0 => clash_zero cs ls
 | m + 1 => clash_succ cs ls m (hid (clash_all cs ls m))
def con_clash : Con := fun args => match args with
 | [.t (.a [.sl 1 n_cs c_cs, .sl 4 n_ls c_ls]), .t (.c (.v (.slice none 0 0))), .t (.c (.v (.int .i64 0))), .t (.c (.v (.int .i64 m0)))] => some (.tu [.c (.sl 1 (grow (listC n_ls mkLnk c_ls) (txOf n_cs c_cs).length m0.toNat [] 0).1.length (intsC (grow (listC n_ls mkLnk c_ls) (txOf n_cs c_cs).length m0.toNat [] 0).1)), .c (.v (.bool (grow (listC n_ls mkLnk c_ls) (txOf n_cs c_cs).length m0.toNat [] 0).2))], some (txP n_cs c_cs ∧ numsP 4 n_ls c_ls ∧ (0 ≤ m0 ∧ m0 ≤ 12) ∧ ntE (txOf n_cs c_cs) (listC n_ls mkLnk c_ls) = 0), Fre.no)
 | _ => none
theorem ok_clash : Ok Try.prog 115 con_clash := by
 intro args r pre fresh h hp
 unfold con_clash at h
 split at h
 ·rename_i n_cs c_cs n_ls c_ls m0
  cases h
  obtain ⟨hp0, hp1, hp2, hp⟩ := hp
  refine ⟨Enters.of (fn := Try.f115) (by kernel_rfl) (by kernel_rfl) (by kernel_rfl), fun W N vs hG hv => ?_⟩
  have hv : All2 (RelD (RelF W N)) [.t (.a [.sl 1 n_cs c_cs, .sl 4 n_ls c_ls]), .t (.c (.v (.slice none 0 0))), .t (.c (.v (.int .i64 0))), .t (.c (.v (.int .i64 m0)))] vs := hv
  obtain ⟨v0, us0, rfl, r0, hv0⟩ := hv.cons_inv
  obtain ⟨v1, us1, rfl, r1, hv1⟩ := hv0.cons_inv
  obtain ⟨v2, us2, rfl, r2, hv2⟩ := hv1.cons_inv
  obtain ⟨v3, us3, rfl, r3, hv3⟩ := hv2.cons_inv
  obtain rfl := hv3.nil_inv
  obtain ⟨rfl, _⟩ : v1 = .slice none 0 0 ∧ _ := r1
  obtain ⟨rfl, _⟩ : v2 = .int .i64 0 ∧ _ := r2
  obtain ⟨rfl, _⟩ : v3 = .int .i64 m0 ∧ _ := r3
  obtain ⟨ws, rfl, r0⟩ := r0
  obtain ⟨x0, ws0, rfl, y0, r0⟩ := r0.cons_inv
  obtain ⟨x1, ws1, rfl, y1, r0⟩ := r0.cons_inv
  obtain rfl := r0.nil_inv
  have h0 : RelF W N (.sl 1 (txOf n_cs c_cs).length (txsC (txOf n_cs c_cs))) x0 := leL_str hp0 W N x0 y0
  have h1 : RelF W N (.sl 4 (listC n_ls mkLnk c_ls).length (lnksC (listC n_ls mkLnk c_ls))) x1 := leL_Lnk hp1 W N x1 y1
  generalize listC n_ls mkLnk c_ls = L at *
  generalize txOf n_cs c_cs = C at *
  obtain ⟨m, rfl⟩ : ∃ m : Nat, m0 = m := ⟨m0.toNat, by omega⟩
  rw [Int.toNat_natCast]
  refine (clash_all C L m W N [] 0 (.slice none 0 0) x0 x1 hG ⟨hp, by simp, fun k hk => absurd hk (by simp)⟩ (by simp; omega) (Nat.zero_le _) h0 h1 ⟨none, 0, rfl, Nat.le_refl _, by unfold maxLen; omega, fun _ => rfl, fun h => absurd h (by simp)⟩).mono ?_
  rintro e w' ⟨u, rfl, hr, hb⟩
  exact ⟨_, rfl, ⟨[u, _], rfl, hr, ⟨rfl, rfl⟩, trivial⟩, hb⟩
 ·cases h
end Go.Proofs.Ytkifmfmenobhnaa
set_option linter.unusedVariables false
set_option linter.unusedSimpArgs false
namespace Go.Proofs.Ytkifmfmenobhnaa
open Go.RowKit Ev
def cnG (ls : List Lnk) (n : Nat) : List Int × Bool := grI (fun k => grow ls n k [] 0) (ls.length + 1) 0
def cnV (cs : List ByteArray) (ls : List Lnk) : List Int := if ntE cs ls ≠ 0 then [] else (cnG ls cs.length).1
def cnE (cs : List ByteArray) (ls : List Lnk) : Int := if ntE cs ls ≠ 0 then ntE cs ls else if (cnG ls cs.length).2 = true then 0 else 12
def Sf4112 : Sum := addS Sf0111 115 con_clash
theorem VSf4112 : Valid Try.prog Sf4112 := Valid.add VSf0111 ok_clash
def mk_clock_ContradictingIn_0 (cs : List ByteArray) (ls : List Lnk) (v0_0 : Int) (v0_1 : Int) : DS := ⟨[none, some (.t (.c (.p 1 0))), none, none, none, none, none, none, none, none, none, none, none, none, none, none, some (.t (.c (.v (.int .i64 v0_0)))), some (.t (.c (.v (.int .i64 v0_1)))), none, none, none, none, none, none, none, none, none, none, none], [none, some (.box 55 [.sl 1 cs.length (txsC cs), .sl 4 ls.length (lnksC ls)]), none, none, none, none, none, none, none, none, none, none, none, none, none, none, none, none, none, none, none, none, none, none, none, none, none, none, none]⟩
def vc_clock_ContradictingIn (J : Inv) (cs : List ByteArray) (ls : List Lnk) (post : DV → Prop) : Prop := (txP cs.length (txsC cs) ∧ numsP 4 ls.length (lnksC ls) ∧ (∀ k, k < ((txOf cs.length (txsC cs))).length → (txAt (txOf cs.length (txsC cs)) k).size ≤ 1000000)) ∧ (cond ((ntE (txOf cs.length (txsC cs)) (listC ls.length mkLnk (lnksC ls))) != (0 : Int)) (post (.tu [.c (.v (.slice none 0 0)), .c (.v (.int .i64 (ntE (txOf cs.length (txsC cs)) (listC ls.length mkLnk (lnksC ls)))))])) (lt (IntKind.i64.wrap (((ls.length : Nat) : Int) + (1 : Int))) fun x1 => ∃ n, J 0 (n :: []) (mk_clock_ContradictingIn_0 cs ls x1 0)))
def ann_clock_ContradictingIn : Ann := ⟨fun _ => none, fun b => lookA b [(0, (none, some ⟨[1, 16, 17], [1], []⟩))], fun _ => [], I1, false, fun _ => none, fun _ => none⟩
theorem ev_clock_ContradictingIn (J : Inv) (cs : List ByteArray) (ls : List Lnk) (post : DV → Prop) : evFn Try.prog tab Sf4112 ann_clock_ContradictingIn J Try.f70 [.t (.a [.sl 1 cs.length (txsC cs), .sl 4 ls.length (lnksC ls)])] post = vc_clock_ContradictingIn J cs ls post := by kernel_rfl
theorem fit_clock_ContradictingIn : okFn ann_clock_ContradictingIn Try.f70 = true := by kernel_rfl
def rd_clock_ContradictingIn_0 (J : Inv) (cs : List ByteArray) (ls : List Lnk) (v0_0 : Int) (v0_1 : Int) (nn0 : Nat) (post : DV → Prop) : Prop := cond (decide (v0_1 < v0_0)) ((txP cs.length (txsC cs) ∧ numsP 4 ls.length (lnksC ls) ∧ (0 ≤ v0_1 ∧ v0_1 ≤ 12) ∧ ntE (txOf cs.length (txsC cs)) (listC ls.length mkLnk (lnksC ls)) = 0) ∧ (cond ((grow (listC ls.length mkLnk (lnksC ls)) (txOf cs.length (txsC cs)).length (v0_1).toNat [] 0).2) (post (.tu [.c (.sl 1 ((grow (listC ls.length mkLnk (lnksC ls)) (txOf cs.length (txsC cs)).length (v0_1).toNat [] 0).1.length) (intsC (grow (listC ls.length mkLnk (lnksC ls)) (txOf cs.length (txsC cs)).length (v0_1).toNat [] 0).1)), .c (.v (.int .i64 0))])) (lt (IntKind.i64.wrap (v0_1 + (1 : Int))) fun x1 => J 0 (nn0 :: []) (mk_clock_ContradictingIn_0 cs ls v0_0 x1)))) (post (.tu [.c (.v (.slice none 0 0)), .c (.v (.int .i64 12))]))
theorem er_clock_ContradictingIn_0 (J : Inv) (cs : List ByteArray) (ls : List Lnk) (v0_0 : Int) (v0_1 : Int) (nn0 : Nat) (post : DV → Prop) : round Try.prog tab Sf4112 ann_clock_ContradictingIn J Try.f70 post 0 (nn0 :: []) (mk_clock_ContradictingIn_0 cs ls v0_0 v0_1) = rd_clock_ContradictingIn_0 J cs ls v0_0 v0_1 nn0 post := by kernel_rfl
theorem lp_clock_ContradictingIn (J : Inv) (post : DV → Prop) : AllG J (loopsFn Try.prog tab Sf4112 ann_clock_ContradictingIn J Try.f70 post) = (((∀ F s, ¬ J 0 (0 :: F) s) ∧ ∀ n F s, J 0 ((n + 1) :: F) s → round Try.prog tab Sf4112 ann_clock_ContradictingIn J Try.f70 post 0 (n :: F) s) ∧ True) := by kernel_rfl
def J_clock_ContradictingIn (cs : List ByteArray) (ls : List Lnk) : Inv := fun b F s => match b, F with
 | 0, [nn0] => ∃ (v0_0 : Int) (v0_1 : Int), s = mk_clock_ContradictingIn_0 cs ls v0_0 v0_1 ∧ (ntE cs ls = 0 ∧ v0_0 = ((ls.length : Nat) : Int) + 1 ∧ 0 ≤ v0_1 ∧ v0_1 ≤ ls.length + 1 ∧ (nn0 : Int) + v0_1 = ls.length + 2 ∧ ∀ j : Nat, (j : Int) < v0_1 → (grow ls cs.length j [] 0).2 = false)
 | _, _ => False
theorem rnd_clock_ContradictingIn_0 (cs : List ByteArray) (ls : List Lnk) (v0_0 : Int) (v0_1 : Int) (nn0 : Nat) (hp : (∀ k, k < (cs).length → (txAt cs k).size ≤ 1000000)) (hi : ntE cs ls = 0 ∧ v0_0 = ((ls.length : Nat) : Int) + 1 ∧ 0 ≤ v0_1 ∧ v0_1 ≤ ls.length + 1 ∧ ((nn0 + 1) : Int) + v0_1 = ls.length + 2 ∧ ∀ j : Nat, (j : Int) < v0_1 → (grow ls cs.length j [] 0).2 = false) : rd_clock_ContradictingIn_0 (J_clock_ContradictingIn cs ls) cs ls v0_0 v0_1 nn0 (fun r => LeD r (.tu [.c (.sl 1 ((cnV cs ls).length) (intsC (cnV cs ls))), .c (.v (.int .i64 (cnE cs ls)))])) := by
 obtain ⟨q, i0, i1, i2, i3, i4⟩ := hi
 obtain ⟨k, rfl⟩ : ∃ k : Nat, v0_1 = k := ⟨v0_1.toNat, by omega⟩
 have hk : (k : Int).toNat = k := rfl
 subst i0
 have z := (ntE_bd q).2.1
 unfold rd_clock_ContradictingIn_0
 simp only [lnks_listC, txs_of]
 rw [hk]
 have ne : ¬ (ntE cs ls ≠ 0) := fun c => c q
 refine cond_i (fun h => ?_) (fun h => ?_)
 ·have hlt : k < ls.length + 1 := by have := of_decide_eq_true h; omega
  refine ⟨⟨txP_txs cs, numsP_lnks ls, ⟨by omega, by omega⟩, q⟩, cond_i (fun g => ?_) (fun g => lt_i fun x hx => ?_)⟩
  ·have e : cnG ls cs.length = ((grow ls cs.length k [] 0).1, true) := by
    unfold cnG
    rw [grI_skip k _ _ (by omega) fun j _ h2 => i4 j (by omega), show ls.length + 1 - k = (ls.length - k) + 1 by omega, Nat.zero_add, grI, if_pos g]
   rw [show cnV cs ls = (cnG ls cs.length).1 from if_neg ne, show cnE cs ls = if (cnG ls cs.length).2 = true then 0 else 12 from if_neg ne, e]
   exact LeD.refl _
  ·rw [wi (by omega)] at hx
   subst hx
   refine ⟨_, _, rfl, q, rfl, by omega, by omega, by omega, fun j hj => ?_⟩
   rcases (by omega : (j : Int) < k ∨ j = k) with c | rfl
   ·exact i4 j c
   ·exact g
 ·have h := of_decide_eq_false h
  have e : cnG ls cs.length = ([], false) := by
   unfold cnG
   rw [grI_skip (ls.length + 1) _ _ (Nat.le_refl _) fun j _ h2 => i4 j (by omega), Nat.sub_self, grI]
  rw [show cnV cs ls = (cnG ls cs.length).1 from if_neg ne, show cnE cs ls = if (cnG ls cs.length).2 = true then 0 else 12 from if_neg ne, e]
  exact le_tu le_nil (LeD.refl _)
theorem zero_clock_ContradictingIn_0 (cs : List ByteArray) (ls : List Lnk) (v0_0 : Int) (v0_1 : Int)  (hi : ntE cs ls = 0 ∧ v0_0 = ((ls.length : Nat) : Int) + 1 ∧ 0 ≤ v0_1 ∧ v0_1 ≤ ls.length + 1 ∧ (0 : Int) + v0_1 = ls.length + 2 ∧ ∀ j : Nat, (j : Int) < v0_1 → (grow ls cs.length j [] 0).2 = false) : False := by
 omega
theorem spec_clock_ContradictingIn (cs : List ByteArray) (ls : List Lnk) (hp : (∀ k, k < (cs).length → (txAt cs k).size ≤ 1000000)) : vc_clock_ContradictingIn (J_clock_ContradictingIn cs ls) cs ls (fun r => LeD r (.tu [.c (.sl 1 ((cnV cs ls).length) (intsC (cnV cs ls))), .c (.v (.int .i64 (cnE cs ls)))])) := by
 unfold vc_clock_ContradictingIn
 simp only [lnks_listC, txs_of]
 refine ⟨⟨txP_txs cs, numsP_lnks ls, hp⟩, cond_i (fun h => ?_) (fun h => ?_)⟩
 ·have h : ntE cs ls ≠ 0 := by simpa using h
  rw [show cnV cs ls = [] from if_pos h, show cnE cs ls = ntE cs ls from if_pos h]
  exact le_tu le_nil (LeD.refl _)
 ·have h : ntE cs ls = 0 := by simpa using h
  have z := (ntE_bd h).2.1
  refine lt_i fun x hx => ?_
  rw [wi (by omega)] at hx
  subst hx
  exact ⟨ls.length + 2, _, _, rfl, h, rfl, by omega, by omega, by omega, fun j hj => by omega⟩
theorem all_clock_ContradictingIn (cs : List ByteArray) (ls : List Lnk) (hp : (∀ k, k < (cs).length → (txAt cs k).size ≤ 1000000)) : AllG (J_clock_ContradictingIn cs ls) (loopsFn Try.prog tab Sf4112 ann_clock_ContradictingIn (J_clock_ContradictingIn cs ls) Try.f70 (fun r => LeD r (.tu [.c (.sl 1 ((cnV cs ls).length) (intsC (cnV cs ls))), .c (.v (.int .i64 (cnE cs ls)))]))) := by
 rw [lp_clock_ContradictingIn]
 refine ⟨⟨?_, ?_⟩, trivial⟩
 ·intro F s h
  obtain _ | ⟨g, F⟩ := F
  case cons => exact h.elim
  obtain ⟨w0, w1, rfl, hi⟩ := h
  exact zero_clock_ContradictingIn_0 cs ls w0 w1 hi
 ·intro n F s h
  obtain _ | ⟨g, F⟩ := F
  case cons => exact h.elim
  obtain ⟨w0, w1, rfl, hi⟩ := h
  rw [er_clock_ContradictingIn_0]
  exact rnd_clock_ContradictingIn_0 cs ls _ _ _ hp hi
def con_clock_ContradictingIn : Con := fun args => match args with
 | [.t (.a [.sl 1 n_cs c_cs, .sl 4 n_ls c_ls])] => some (.tu [.c (.sl 1 ((cnV (txOf n_cs c_cs) (listC n_ls mkLnk c_ls)).length) (intsC (cnV (txOf n_cs c_cs) (listC n_ls mkLnk c_ls)))), .c (.v (.int .i64 (cnE (txOf n_cs c_cs) (listC n_ls mkLnk c_ls))))], some (txP n_cs c_cs ∧ numsP 4 n_ls c_ls ∧ (∀ k, k < ((txOf n_cs c_cs)).length → (txAt (txOf n_cs c_cs) k).size ≤ 1000000)), false)
 | _ => none
theorem ok_clock_ContradictingIn : Ok Try.prog 70 con_clock_ContradictingIn := by
 refine Ok.fn (ann := ann_clock_ContradictingIn) mixed tabOK VSf4112 VI1 (fn := Try.f70) (by kernel_rfl) (by kernel_rfl) fit_clock_ContradictingIn fun args r pre fresh h hp => ?_
 unfold con_clock_ContradictingIn at h
 split at h
 ·rename_i n_cs c_cs n_ls c_ls
  cases h
  obtain ⟨hp0, hp1, hp⟩ := hp
  refine ⟨rfl, J_clock_ContradictingIn (txOf n_cs c_cs) (listC n_ls mkLnk c_ls), [.t (.a [.sl 1 ((txOf n_cs c_cs).length) (txsC (txOf n_cs c_cs)), .sl 4 ((listC n_ls mkLnk c_ls).length) (lnksC (listC n_ls mkLnk c_ls))])], ?_, Nat.le_of_ble_eq_true (by kernel_rfl), ?_, ?_⟩
  ·exact (LeA_cons (leT_a (LeCs.cons ((leL_str hp0)) (LeCs.cons ((leL_Lnk hp1)) LeCs.nil))) LeA_nil)
  ·rw [ev_clock_ContradictingIn]; exact spec_clock_ContradictingIn (txOf n_cs c_cs) (listC n_ls mkLnk c_ls) hp
  ·exact all_clock_ContradictingIn (txOf n_cs c_cs) (listC n_ls mkLnk c_ls) hp
 ·cases h
def Sf4113 : Sum := addS Sf4112 70 con_clock_ContradictingIn
theorem VSf4113 : Valid Try.prog Sf4113 := Valid.add VSf4112 ok_clock_ContradictingIn
end Go.Proofs.Ytkifmfmenobhnaa
set_option linter.unusedVariables false
set_option linter.unusedSimpArgs false
namespace Go.Proofs.Ytkifmfmenobhnaa
open Go.RowKit Ev
def Si0114 : Sum := Sf4113
theorem VSi0114 : Valid Try.prog Si0114 := VSf4113
end Go.Proofs.Ytkifmfmenobhnaa
set_option linter.unusedVariables false
set_option linter.unusedSimpArgs false
namespace Go.Proofs.Ytkifmfmenobhnaa
open Go.RowKit Ev
def Si1115 : Sum := Si0114
theorem VSi1115 : Valid Try.prog Si1115 := VSi0114
end Go.Proofs.Ytkifmfmenobhnaa
set_option linter.unusedVariables false
set_option linter.unusedSimpArgs false
namespace Go.Proofs.Ytkifmfmenobhnaa
open Go.RowKit Ev
end Go.Proofs.Ytkifmfmenobhnaa
set_option linter.unusedVariables false
set_option linter.unusedSimpArgs false
namespace Go.Proofs.Ytkifmfmenobhnaa
open Go.RowKit Ev
end Go.Proofs.Ytkifmfmenobhnaa
set_option linter.unusedVariables false
set_option linter.unusedSimpArgs false
namespace Go.Proofs.Ytkifmfmenobhnaa
abbrev Bd := Option Int
def Bd.add (a b : Bd) : Bd := match a, b with
 | some x, some y => some (x + y)
 | _, _ => none
def Bd.min (a b : Bd) : Bd := match a, b with
 | some x, some y => some (Min.min x y)
 | some x, none => some x
 | none, b => b
def Bd.le (a b : Bd) : Prop := ∀ y, b = some y → ∃ x, a = some x ∧ x ≤ y
theorem Bd.le_refl (a : Bd) : Bd.le a a := fun y h => ⟨y, h, Int.le_refl _⟩
theorem Bd.le_trans {a b c : Bd} (h : Bd.le a b) (g : Bd.le b c) : Bd.le a c := fun z hz => by
 obtain ⟨y, hy, h1⟩ := g z hz
 obtain ⟨x, hx, h2⟩ := h y hy
 exact ⟨x, hx, by omega⟩
theorem Bd.min_left (a b : Bd) : Bd.le (Bd.min a b) a := fun y h => by
 subst h; cases b with
 | none => exact ⟨y, rfl, Int.le_refl _⟩
 | some z => exact ⟨_, rfl, by omega⟩
theorem Bd.min_right (a b : Bd) : Bd.le (Bd.min a b) b := fun y h => by
 subst h; cases a with
 | none => exact ⟨y, rfl, Int.le_refl _⟩
 | some z => exact ⟨_, rfl, by omega⟩
theorem Bd.le_min {a b c : Bd} (h : Bd.le c a) (g : Bd.le c b) : Bd.le c (Bd.min a b) := fun y e => by
 cases a with
 | none => cases b with
  | none => cases e
  | some z => exact g y e
 | some x => cases b with
  | none => exact h y e
  | some z =>
   obtain ⟨u, hu, h1⟩ := h x rfl
   obtain ⟨v, hv, h2⟩ := g z rfl
   rw [hu] at hv; cases hv
   simp only [Bd.min, Option.some.injEq] at e
   exact ⟨u, hu, by omega⟩
theorem Bd.add_le {a b c d : Bd} (h : Bd.le a c) (g : Bd.le b d) : Bd.le (Bd.add a b) (Bd.add c d) := fun y e => by
 cases c with
 | none => cases d <;> cases e
 | some x => cases d with
  | none => cases e
  | some z =>
   obtain ⟨u, hu, h1⟩ := h x rfl
   obtain ⟨v, hv, h2⟩ := g z rfl
   subst hu; subst hv
   simp only [Bd.add, Option.some.injEq] at e
   exact ⟨u + v, rfl, by omega⟩
theorem Bd.add_assoc (a b c : Bd) : Bd.add (Bd.add a b) c = Bd.add a (Bd.add b c) := by
 cases a <;> cases b <;> cases c <;> simp [Bd.add, Int.add_assoc]
def tight (b : Nat → Nat → Bd) (k : Nat) : Nat → Nat → Bd := fun i j => Bd.min (b i j) (Bd.add (b i k) (b k j))
def keeps (b : Nat → Nat → Bd) (o : Nat → Int) : Prop := ∀ i j x, b i j = some x → o j - o i ≤ x
theorem keeps_tight {b : Nat → Nat → Bd} {o : Nat → Int} (h : keeps b o) (k : Nat) : keeps (tight b k) o := by
 intro i j x e
 unfold tight at e
 have h1 := h i j
 have h2 := h i k
 have h3 := h k j
 cases e1 : b i j <;> cases e2 : b i k <;> cases e3 : b k j <;> rw [e1, e2, e3] at e <;> simp [Bd.add, Bd.min] at e
 ·have a := h2 _ e2; have c := h3 _ e3; omega
 ·have a := h1 _ e1; omega
 ·have a := h1 _ e1; omega
 ·have a := h1 _ e1; omega
 ·have a := h1 _ e1; have c := h2 _ e2; have d := h3 _ e3; omega
def updB (b : Nat → Nat → Bd) (i j : Nat) (v : Bd) : Nat → Nat → Bd := fun x y => if x = i ∧ y = j then v else b x y
def seqStep (k : Nat) (b : Nat → Nat → Bd) (p : Nat × Nat) : Nat → Nat → Bd := updB b p.1 p.2 (Bd.min (b p.1 p.2) (Bd.add (b p.1 k) (b k p.2)))
def pairsN (n : Nat) : List (Nat × Nat) := (List.range n).flatMap fun i => (List.range n).map fun j => (i, j)
def seqK (n : Nat) (b : Nat → Nat → Bd) (k : Nat) : Nat → Nat → Bd := (pairsN n).foldl (seqStep k) b
def seqN (n : Nat) (b : Nat → Nat → Bd) : Nat → Nat → Nat → Bd
 | 0 => b
 | m + 1 => seqK n (seqN n b m) m
theorem keeps_step {b : Nat → Nat → Bd} {o : Nat → Int} (h : keeps b o) (k : Nat) (p : Nat × Nat) : keeps (seqStep k b p) o := by
 intro i j x e
 unfold seqStep updB at e
 split at e
 ·next hh => rw [hh.1, hh.2]; exact keeps_tight h k p.1 p.2 x e
 ·exact h i j x e
theorem keeps_seq {n : Nat} {b : Nat → Nat → Bd} {o : Nat → Int} (h : keeps b o) : ∀ m, keeps (seqN n b m) o := by
 intro m
 induction m with
 | zero => exact h
 | succ m ih =>
  unfold seqN seqK
  have : ∀ (l : List (Nat × Nat)) (c : Nat → Nat → Bd), keeps c o → keeps (l.foldl (seqStep m) c) o := by
   intro l
   induction l with
   | nil => intro c hc; exact hc
   | cons p l ih2 => intro c hc; exact ih2 _ (keeps_step hc m p)
  exact this _ _ ih
end Go.Proofs.Ytkifmfmenobhnaa
set_option linter.unusedVariables false
set_option linter.unusedSimpArgs false
namespace Go.Proofs.Ytkifmfmenobhnaa
open Go.RowKit Ev
def toB (n : Nat) (f : Nat → Nat → Int) : Nat → Nat → Bd := fun x y => if x < n ∧ y < n ∧ f x y < far then some (f x y) else none
theorem toB_some {n : Nat} {f : Nat → Nat → Int} {x y : Nat} (hx : x < n) (hy : y < n) (h : f x y < far) : toB n f x y = some (f x y) := if_pos ⟨hx, hy, h⟩
theorem toB_none {n : Nat} {f : Nat → Nat → Int} {x y : Nat} (h : ¬ f x y < far) : toB n f x y = none := if_neg fun c => h c.2.2
theorem toB_out {n : Nat} {f : Nat → Nat → Int} {x y : Nat} {v : Int} (h : toB n f x y = some v) : x < n ∧ y < n ∧ f x y < far ∧ f x y = v := by
 unfold toB at h
 split at h
 ·rename_i c; cases h; exact ⟨c.1, c.2.1, c.2.2, rfl⟩
 ·cases h
theorem toB_step {n : Nat} {U : Int} (hU : 0 ≤ U ∧ 2 * U < 1125899906842624) {k : Nat} {f g : Nat → Nat → Int} (h : relK n U k f g) {i j : Nat} (hk : k < n) (hi : i < n) (hj : j < n) : toB n (stepK f k i j) = seqStep k (toB n f) (i, j) := by
 have ef : far = 1152921504606846976 := rfl
 have h1 := h i k hi hk
 have h2 := h k j hk hj
 funext x y
 unfold stepK seqStep updB
 simp only
 by_cases c : f i k < far ∧ f k j < far
 ·rw [if_pos c, toB_some hi hk c.1, toB_some hk hj c.2]
  have a1 : f i k ≤ U := by
   rcases h1 with h1 | ⟨h1, h4, h5⟩
   ·omega
   ·exact h5 (Or.inr rfl)
  have a2 : f k j ≤ U := by
   rcases h2 with h2 | ⟨h2, h4, h5⟩
   ·omega
   ·exact h5 (Or.inl rfl)
  by_cases e : x = i ∧ y = j
  ·obtain ⟨rfl, rfl⟩ := e
   rw [if_pos ⟨rfl, rfl⟩]
   rw [show toB n (updI f x y (min (f x y) (f x k + f k y))) x y = some (min (f x y) (f x k + f k y)) from by
    unfold toB updI
    rw [if_pos (⟨rfl, rfl⟩ : x = x ∧ y = y)]
    exact if_pos ⟨hi, hj, by omega⟩]
   by_cases d : f x y < far
   ·rw [toB_some hi hj d]; rfl
   ·rw [toB_none d]
    show some _ = some _
    rw [show min (f x y) (f x k + f k y) = f x k + f k y by omega]
  ·rw [if_neg e]
   unfold toB updI
   rw [if_neg e]
 ·rw [if_neg c]
  have e2 : Bd.add (toB n f i k) (toB n f k j) = none := by
   by_cases d : f i k < far
   ·rw [toB_none (x := k) (fun q => c ⟨d, q⟩)]; cases toB n f i k <;> rfl
   ·rw [toB_none d]; rfl
  rw [e2]
  by_cases e : x = i ∧ y = j
  ·rw [if_pos e, e.1, e.2]; cases toB n f i j <;> rfl
  ·rw [if_neg e]
theorem toB_j {n : Nat} {U : Int} (hU : 0 ≤ U ∧ 2 * U < 1125899906842624) {k : Nat} {f g : Nat → Nat → Int} (h : relK n U k f g) {i : Nat} (hk : k < n) (hi : i < n) : ∀ j, j ≤ n → toB n (jK f k i j) = ((List.range j).map fun j => (i, j)).foldl (seqStep k) (toB n f)
 | 0, _ => rfl
 | j + 1, hj => by
  rw [List.range_succ, List.map_append, List.foldl_append, ← toB_j hU h hk hi j (by omega)]
  exact toB_step hU (h.j hU hk hi j (by omega)) hk hi (by omega)
theorem toB_i {n : Nat} {U : Int} (hU : 0 ≤ U ∧ 2 * U < 1125899906842624) {k : Nat} {f g : Nat → Nat → Int} (h : relK n U k f g) (hk : k < n) : ∀ i, i ≤ n → toB n (iK f n k i) = ((List.range i).flatMap fun i => (List.range n).map fun j => (i, j)).foldl (seqStep k) (toB n f)
 | 0, _ => rfl
 | i + 1, hi => by
  rw [List.range_succ, List.flatMap_append, List.foldl_append, ← toB_i hU h hk i (by omega), List.flatMap_singleton]
  exact toB_j hU (h.i hU hk i (by omega)) hk (by omega) n (Nat.le_refl _)
theorem toB_k {n : Nat} {f g : Nat → Nat → Int} (hn : n ≤ 6) (h : rel2 n 1000000000 f g) : ∀ k, k ≤ n → toB n (kK f n k) = seqN n (toB n f) k
 | 0, _ => rfl
 | k + 1, hk => by
  have ih := h.k hn k (by omega)
  have hp : (0 : Int) ≤ 2 ^ k * 1000000000 ∧ 2 * (2 ^ k * 1000000000) < (1125899906842624 : Int) := by
   rcases (by omega : k = 0 ∨ k = 1 ∨ k = 2 ∨ k = 3 ∨ k = 4 ∨ k = 5) with rfl | rfl | rfl | rfl | rfl | rfl <;> decide
  rw [seqN, ← toB_k hn h k (by omega)]
  exact toB_i hp (ih.start hp.1 k) (by omega) n (Nat.le_refl _)
theorem bd_seq {n : Nat} (hn : n ≤ 6) {l : List Lnk} (hok : ∀ k, k < l.length → (lnkAt l k).ok n) : toB n (bdF l n) = seqN n (toB n (lnkM l l.length)) n := by
 have h := rel2.links hok (al_ok l) (alI l).length (Nat.le_refl _)
 rw [sel_all, al_len] at h
 exact toB_k hn h n (Nat.le_refl _)
theorem seqN_mono {b b' : Nat → Nat → Bd} (h : ∀ x y, Bd.le (b x y) (b' x y)) (n : Nat) : ∀ m x y, Bd.le (seqN n b m x y) (seqN n b' m x y)
 | 0, x, y => h x y
 | m + 1, x, y => by
  have key : ∀ (l : List (Nat × Nat)) (c c' : Nat → Nat → Bd), (∀ x y, Bd.le (c x y) (c' x y)) → ∀ x y, Bd.le (l.foldl (seqStep m) c x y) (l.foldl (seqStep m) c' x y) := by
   intro l
   induction l with
   | nil => intro c c' hc; exact hc
   | cons p l ih =>
    intro c c' hc
    refine ih _ _ fun x y => ?_
    unfold seqStep updB
    split
    ·exact Bd.le_min (Bd.le_trans (Bd.min_left _ _) (hc _ _)) (Bd.le_trans (Bd.min_right _ _) (Bd.add_le (hc _ _) (hc _ _)))
    ·exact hc x y
  exact key _ _ _ (seqN_mono h n m) x y
theorem lnk_le : ∀ (l : List Lnk) (f : Nat → Nat → Int), (∀ x y, l.foldl lnkG f x y ≤ f x y) ∧ ∀ z ∈ l, l.foldl lnkG f z.frm.toNat z.to.toNat ≤ z.hi ∧ l.foldl lnkG f z.to.toNat z.frm.toNat ≤ -z.lo
 | [], f => ⟨fun x y => Int.le_refl _, fun z hz => by cases hz⟩
 | a :: l, f => by
  obtain ⟨h1, h2⟩ := lnk_le l (lnkG f a)
  have g1 : ∀ x y, lnkF f a x y ≤ f x y := fun x y => by
   unfold lnkF updI
   split
   ·rename_i e; rw [e.1, e.2]; omega
   ·exact Int.le_refl _
  have g2 : ∀ x y, lnkG f a x y ≤ lnkF f a x y := fun x y => by
   unfold lnkG updI
   split
   ·rename_i e; rw [e.1, e.2]; omega
   ·exact Int.le_refl _
  refine ⟨fun x y => Int.le_trans (h1 x y) (Int.le_trans (g2 x y) (g1 x y)), fun z hz => ?_⟩
  rcases List.mem_cons.1 hz with rfl | hz
  ·have a1 := h1 z.frm.toNat z.to.toNat
   have a2 := g2 z.frm.toNat z.to.toNat
   have a3 := h1 z.to.toNat z.frm.toNat
   have a4 : lnkF f z z.frm.toNat z.to.toNat ≤ z.hi := by unfold lnkF updI; rw [if_pos ⟨rfl, rfl⟩]; omega
   have a5 : lnkG f z z.to.toNat z.frm.toNat ≤ -z.lo := by unfold lnkG; unfold updI; rw [if_pos ⟨rfl, rfl⟩]; omega
   exact ⟨by show (l.foldl lnkG (lnkG f z)) _ _ ≤ _; omega, by show (l.foldl lnkG (lnkG f z)) _ _ ≤ _; omega⟩
  ·exact h2 z hz
theorem lnk_from : ∀ (l : List Lnk) (f : Nat → Nat → Int) (x y : Nat), l.foldl lnkG f x y = f x y ∨ ∃ z ∈ l, (x = z.frm.toNat ∧ y = z.to.toNat ∧ l.foldl lnkG f x y = z.hi) ∨ (x = z.to.toNat ∧ y = z.frm.toNat ∧ l.foldl lnkG f x y = -z.lo)
 | [], f, x, y => Or.inl rfl
 | a :: l, f, x, y => by
  rcases lnk_from l (lnkG f a) x y with h | ⟨z, hz, h⟩
  ·have e : lnkG f a x y = f x y ∨ (x = a.frm.toNat ∧ y = a.to.toNat ∧ lnkG f a x y = a.hi) ∨ (x = a.to.toNat ∧ y = a.frm.toNat ∧ lnkG f a x y = -a.lo) := by
    unfold lnkG
    unfold updI
    by_cases e : x = a.to.toNat ∧ y = a.frm.toNat
    ·rw [if_pos e]
     by_cases c : lnkF f a a.to.toNat a.frm.toNat ≤ -a.lo
     ·rw [show min (lnkF f a a.to.toNat a.frm.toNat) (-a.lo) = lnkF f a a.to.toNat a.frm.toNat by omega, ← e.1, ← e.2]
      unfold lnkF updI
      by_cases e2 : x = a.frm.toNat ∧ y = a.to.toNat
      ·rw [if_pos e2, ← e2.1, ← e2.2]
       rcases (by omega : min (f x y) a.hi = f x y ∨ min (f x y) a.hi = a.hi) with q | q
       ·exact Or.inl q
       ·exact Or.inr (Or.inl ⟨by omega, by omega, q⟩)
      ·rw [if_neg e2]; exact Or.inl rfl
     ·exact Or.inr (Or.inr ⟨e.1, e.2, by omega⟩)
    ·rw [if_neg e]
     unfold lnkF updI
     by_cases e2 : x = a.frm.toNat ∧ y = a.to.toNat
     ·rw [if_pos e2, ← e2.1, ← e2.2]
      rcases (by omega : min (f x y) a.hi = f x y ∨ min (f x y) a.hi = a.hi) with q | q
      ·exact Or.inl q
      ·exact Or.inr (Or.inl ⟨rfl, rfl, q⟩)
     ·rw [if_neg e2]; exact Or.inl rfl
   show (l.foldl lnkG (lnkG f a)) x y = _ ∨ _
   rcases e with e | e
   ·exact Or.inl (h.trans e)
   ·refine Or.inr ⟨a, by simp, ?_⟩
    rw [← h] at e
    exact e
  ·exact Or.inr ⟨z, by simp [hz], h⟩
theorem lnkM_all (l : List Lnk) : lnkM l l.length = l.foldl lnkG initM := by unfold lnkM; rw [List.take_length]
theorem mem_lnk {l : List Lnk} {z : Lnk} (h : z ∈ l) : ∃ k, k < l.length ∧ lnkAt l k = z := by
 obtain ⟨i, hi, e⟩ := List.getElem_of_mem h
 exact ⟨i, hi, by simp [lnkAt, List.getD, hi, e]⟩
theorem lnk_mem {l : List Lnk} {k : Nat} (h : k < l.length) : lnkAt l k ∈ l := by
 have : lnkAt l k = l[k] := by simp [lnkAt, List.getD, h]
 rw [this]; exact List.getElem_mem h
theorem init_mono {n : Nat} {l s : List Lnk} (hs : ∀ z ∈ s, z ∈ l) (x y : Nat) : Bd.le (toB n (lnkM l l.length) x y) (toB n (lnkM s s.length) x y) := by
 intro v hv
 obtain ⟨hx, hy, hf, e⟩ := toB_out hv
 have h : lnkM l l.length x y ≤ v := by
  rw [lnkM_all] at *
  obtain ⟨g1, g2⟩ := lnk_le l initM
  rcases lnk_from s initM x y with h | ⟨z, hz, ⟨rfl, rfl, h⟩ | ⟨rfl, rfl, h⟩⟩
  ·have := g1 x y; omega
  ·have := (g2 z (hs z hz)).1; omega
  ·have := (g2 z (hs z hz)).2; omega
 exact ⟨_, toB_some hx hy (by omega), h⟩
theorem bdB_sub {n : Nat} (hn : n ≤ 6) {l s : List Lnk} (hok : ∀ k, k < l.length → (lnkAt l k).ok n) (hs : ∀ z ∈ s, z ∈ l) (h : bdB l n = true) : bdB s n = true := by
 have hok2 : ∀ k, k < s.length → (lnkAt s k).ok n := fun k hk => by
  obtain ⟨q, hq, e⟩ := mem_lnk (hs _ (lnk_mem hk))
  rw [← e]; exact hok q hq
 have ef : far = 1152921504606846976 := rfl
 refine bdB_true.2 fun i hi => ?_
 by_cases c : bdF s n i i < far
 ·have m := seqN_mono (init_mono (n := n) hs) n n i i
  rw [← bd_seq hn hok, ← bd_seq hn hok2] at m
  obtain ⟨x, hx, hle⟩ := m _ (toB_some hi hi c)
  obtain ⟨_, _, _, e⟩ := toB_out hx
  have := bdB_true.1 h i hi
  omega
 ·omega
end Go.Proofs.Ytkifmfmenobhnaa
set_option linter.unusedVariables false
set_option linter.unusedSimpArgs false
namespace Go.Proofs.Ytkifmfmenobhnaa
open Go.RowKit Ev
theorem grI_true {f : Nat → List Int × Bool} : ∀ n i j, i ≤ j → j < i + n → (f j).2 = true → (grI f n i).2 = true
 | 0, i, j, h1, h2, _ => by omega
 | n + 1, i, j, h1, h2, h => by
  rw [grI]
  by_cases c : (f i).2 = true
  ·rw [if_pos c]
  ·rw [if_neg c]
   exact grI_true n (i + 1) j (by have : i ≠ j := fun e => c (by rw [e]; exact h); omega) (by omega) h
theorem grow_full {ls : List Lnk} {n : Nat} (h : bdB ls n = false) : ∀ m i0, i0 + m = ls.length → (grow ls n m ((List.range i0).map fun i : Nat => (i : Int)) i0).2 = true
 | 0, i0, e => by
  rw [grow]
  show (!bdB (selL ls _) n) = true
  rw [show i0 = ls.length by omega]
  have q := sel_all ls
  unfold alI at q
  rw [q, h]; rfl
 | m + 1, i0, e => by
  have ih := grow_full h m (i0 + 1) (by omega)
  rw [List.range_succ, List.map_append, List.map_singleton] at ih
  rw [grow, show ls.length - i0 = (ls.length - i0 - 1) + 1 by omega, grI, if_pos ih]
theorem grow_no {ls : List Lnk} {n : Nat} (hn : n ≤ 6) (hok : ∀ k, k < ls.length → (lnkAt ls k).ok n) (h : bdB ls n = true) : ∀ m (s : List Int) i0, (∀ q ∈ s, 0 ≤ q ∧ q < ls.length) → (grow ls n m s i0).2 = false
 | 0, s, i0, hs => by
  rw [grow]
  show (!bdB (selL ls s) n) = false
  rw [bdB_sub hn hok (fun z hz => ?_) h]; rfl
  unfold selL at hz
  obtain ⟨q, hq, rfl⟩ := List.mem_map.1 hz
  have := hs q hq
  exact lnk_mem (by omega)
 | m + 1, s, i0, hs => by
  rw [grow, grI_skip (ls.length - i0) _ _ (Nat.le_refl _) fun j h1 h2 => grow_no hn hok h m _ _ fun q hq => ?_, Nat.sub_self, grI]
  rcases List.mem_append.1 hq with hq | hq
  ·exact hs q hq
  ·rw [List.mem_singleton.1 hq]; omega
theorem cnG_eq {ls : List Lnk} {n : Nat} (hn : n ≤ 6) (hok : ∀ k, k < ls.length → (lnkAt ls k).ok n) : (cnG ls n).2 = !bdB ls n := by
 unfold cnG
 cases h : bdB ls n with
 | false => exact grI_true _ _ ls.length (Nat.zero_le _) (by omega) (grow_full h ls.length 0 (by omega))
 | true =>
  rw [grI_skip (ls.length + 1) _ _ (Nat.le_refl _) fun j h1 h2 => grow_no hn hok h j [] 0 (fun q hq => absurd hq (by simp)), Nat.sub_self, grI]; rfl
theorem co_in {ls : List Lnk} {o : List Int} {k : Nat} (h : coF ls o k = 0) : (lnkAt ls k).lo ≤ o.getD (lnkAt ls k).to.toNat 0 - o.getD (lnkAt ls k).frm.toNat 0 ∧ o.getD (lnkAt ls k).to.toNat 0 - o.getD (lnkAt ls k).frm.toNat 0 ≤ (lnkAt ls k).hi := by
 unfold coF at h
 rw [unl_0 (by decide)] at h
 exact inB_true.1 h
theorem in_co {ls : List Lnk} {o : List Int} {k : Nat} (h : (lnkAt ls k).lo ≤ o.getD (lnkAt ls k).to.toNat 0 - o.getD (lnkAt ls k).frm.toNat 0 ∧ o.getD (lnkAt ls k).to.toNat 0 - o.getD (lnkAt ls k).frm.toNat 0 ≤ (lnkAt ls k).hi) : coF ls o k = 0 := by
 unfold coF
 rw [unl_0 (by decide)]
 exact inB_true.2 h
theorem keeps_bd {n : Nat} (hn : n ≤ 6) {ls : List Lnk} (hok : ∀ k, k < ls.length → (lnkAt ls k).ok n) {o : List Int} (h : ∀ k, k < ls.length → coF ls o k = 0) {i j : Nat} (hi : i < n) (hj : j < n) (hf : bdF ls n i j < far) : o.getD j 0 - o.getD i 0 ≤ bdF ls n i j := by
 have k0 : keeps (toB n (lnkM ls ls.length)) fun i => o.getD i 0 := by
  intro i j x hx
  obtain ⟨_, _, hf, e⟩ := toB_out hx
  rw [lnkM_all] at *
  rcases lnk_from ls initM i j with g | ⟨z, hz, ⟨rfl, rfl, g⟩ | ⟨rfl, rfl, g⟩⟩
  ·rw [g] at hf e
   unfold initM at hf e
   split at e
   ·rename_i c; subst c; omega
   ·rename_i c; rw [if_neg c] at hf; omega
  ·obtain ⟨k, hk, rfl⟩ := mem_lnk hz
   have := co_in (h k hk)
   simp only
   omega
  ·obtain ⟨k, hk, rfl⟩ := mem_lnk hz
   have := co_in (h k hk)
   simp only
   omega
 have k1 := keeps_seq (n := n) k0 n
 rw [← bd_seq hn hok] at k1
 exact k1 i j _ (toB_some hi hj hf)
end Go.Proofs.Ytkifmfmenobhnaa
set_option linter.unusedVariables false
set_option linter.unusedSimpArgs false
namespace Go.Proofs.Ytkifmfmenobhnaa
open Go.RowKit Ev
theorem cnG_none {n : Nat} (hn : n ≤ 6) {ls : List Lnk} (hok : ∀ k, k < ls.length → (lnkAt ls k).ok n) (h : bdB ls n = true) : cnG ls n = ([], false) := by
 unfold cnG
 rw [grI_skip (ls.length + 1) _ _ (Nat.le_refl _) fun j h1 h2 => grow_no hn hok h j [] 0 (fun q hq => absurd hq (by simp)), Nat.sub_self, grI]
theorem grow_0 {n : Nat} (hn : n ≤ 6) (ls : List Lnk) : (grow ls n 0 [] 0).2 = false := by
 show (!bdB (selL ls []) n) = false
 have : bdB (selL ls []) n = true := bdB_true.2 fun i hi => by
  have ef : far = 1152921504606846976 := rfl
  by_cases c : bdF (selL ls []) n i i < far
  ·have := keeps_bd (ls := selL ls []) (o := []) hn (fun k hk => absurd hk (by simp [selL])) (fun k hk => absurd hk (by simp [selL])) hi hi c
   omega
  ·omega
 rw [this]; rfl
def nmF (ls : List Lnk) (n k : Nat) : Bool := bdB (selL ls (woI ls k)) n
def nmR (f : Nat → Bool) : Nat → Nat → Option Nat
 | 0, _ => none
 | k + 1, i => if f i = true then some i else nmR f k (i + 1)
theorem nmR_skip {f : Nat → Bool} : ∀ (k n i : Nat), k ≤ n → (∀ j, i ≤ j → j < i + k → f j = false) → nmR f n i = nmR f (n - k) (i + k)
 | 0, n, i, _, _ => rfl
 | k + 1, n + 1, i, hk, h => by
  rw [nmR, if_neg (by rw [h i (by omega) (by omega)]; simp), nmR_skip k n (i + 1) (by omega) fun j h1 h2 => h j (by omega) (by omega)]
  rw [show n + 1 - (k + 1) = n - k by omega, show i + 1 + k = i + (k + 1) by omega]
 | k + 1, 0, i, hk, _ => by omega
def nmI (cs : List ByteArray) (ls : List Lnk) : Option Nat := if bdB ls cs.length = true then none else nmR (nmF ls cs.length) (cs.length - 1) 1
theorem nmR_hit {f : Nat → Bool} {n k : Nat} (h1 : 1 ≤ k) (h2 : k < n) (h : ∀ j, 1 ≤ j → j < k → f j = false) (hk : f k = true) : nmR f (n - 1) 1 = some k := by
 rw [nmR_skip (k - 1) _ _ (by omega) fun j a b => h j a (by omega), show n - 1 - (k - 1) = (n - k - 1) + 1 by omega, show 1 + (k - 1) = k by omega, nmR, if_pos hk]
theorem nmR_none {f : Nat → Bool} {n : Nat} (h : ∀ j, 1 ≤ j → j < n → f j = false) : nmR f (n - 1) 1 = none := by
 rw [nmR_skip (n - 1) _ _ (Nat.le_refl _) fun j a b => h j a (by omega), Nat.sub_self, nmR]
def nmS (cs : List ByteArray) (ls : List Lnk) : ByteArray := match nmI cs ls with
 | some k => txAt cs k
 | none => ⟨#[]⟩
def nmB (cs : List ByteArray) (ls : List Lnk) : Bool := (nmI cs ls).isSome
theorem wo_ok (ls : List Lnk) (q : Int) : ∀ k, k < (woI ls q).length → 0 ≤ (woI ls q).getD k 0 ∧ (woI ls q).getD k 0 < ls.length := fun k hk => by
 have : (woI ls q).getD k 0 ∈ woI ls q := by
  rw [List.getD_eq_getElem?_getD, List.getElem?_eq_getElem hk]; exact List.getElem_mem hk
 generalize (woI ls q).getD k 0 = y at this
 unfold woI woK at this
 obtain ⟨i, hi, e⟩ := List.mem_map.1 this
 have := List.mem_range.1 (List.mem_filter.1 hi).1
 omega
def Si4116 : Sum := Si1115
theorem VSi4116 : Valid Try.prog Si4116 := VSi1115
def Si4117 : Sum := Si4116
theorem VSi4117 : Valid Try.prog Si4117 := VSi4116
def Si4118 : Sum := Si4117
theorem VSi4118 : Valid Try.prog Si4118 := VSi4117
end Go.Proofs.Ytkifmfmenobhnaa
set_option linter.unusedVariables false
set_option linter.unusedSimpArgs false
namespace Go.Proofs.Ytkifmfmenobhnaa
open Go.RowKit Ev
theorem netErr_calls {cs : List ByteArray} {ls : List Lnk} (hs : ∀ k, k < cs.length → (txAt cs k).size ≤ 1000000) {W : World} {N : Nat → Prop} (hG : Gd W) {x0 x1 : Value} (h0 : RelF W N (.sl 1 cs.length (txsC cs)) x0) (h1 : RelF W N (.sl 4 ls.length (lnksC ls)) x1) :
  Calls Try.prog 92 #[.agg #[x0, x1]] W fun e w' => e = .returned (.int .i64 (ntE cs ls)) ∧ Below W.heap.size W w' := by
 have h := (ok_clock_netErr [.t (.a [.sl 1 cs.length (txsC cs), .sl 4 ls.length (lnksC ls)])] _ _ _ rfl (by simp only [txs_of]; exact ⟨txP_txs cs, numsP_lnks ls, hs⟩)).2 W N [.agg #[x0, x1]] hG (show All2 (RelD (RelF W N)) _ _ from ⟨⟨[x0, x1], rfl, h0, h1, trivial⟩, trivial⟩)
 refine h.mono ?_
 rintro e w' ⟨u, rfl, hr, hb⟩
 simp only [lnks_listC, txs_of] at hr
 obtain ⟨rfl, _⟩ := hr
 exact ⟨rfl, hb⟩
theorem agree_calls {L : List Lnk} {n : Nat} (hok : bdOk n L) {W : World} {N : Nat → Prop} (hG : Gd W) {x : Value} (h1 : RelF W N (.sl 4 L.length (lnksC L)) x) :
  Calls Try.prog 116 #[.int .i64 n, x] W fun e w' => e = .returned (.bool (bdB L n)) ∧ Below W.heap.size W w' := by
 have h := (ok_clock_agree [.t (.c (.v (.int .i64 n))), .t (.c (.sl 4 L.length (lnksC L)))] _ _ _ rfl (by rw [lnks_listC]; exact ⟨numsP_lnks L, hok⟩)).2 W N [.int .i64 n, x] hG (show All2 (RelD (RelF W N)) _ _ from ⟨⟨rfl, rfl⟩, h1, trivial⟩)
 refine h.mono ?_
 rintro e w' ⟨u, rfl, hr, hb⟩
 simp only [lnks_listC, Int.toNat_natCast] at hr
 obtain ⟨rfl, _⟩ := hr
 exact ⟨rfl, hb⟩
theorem first_calls {z : Int} {W : World} (hG : Gd W) {b : Nat} (hb : b < W.heap.size) (hc : W.cell? ⟨b, 0, none⟩ = some (.int .i64 z)) :
  Calls Try.prog 82 #[.slice (some ⟨b, 0, none⟩) 1 1] W fun e w' => e = .returned (.int .i64 z) ∧ Below W.heap.size W w' := by
 have h := (ok_clock_first [.t (.c (.sl 1 [z].length (intsC [z])))] _ _ _ rfl (by rw [ints_listC]; exact ⟨numsP_ints [z], by simp⟩)).2 W (fun _ => True) [.slice (some ⟨b, 0, none⟩) 1 1] hG (show All2 (RelD (RelF W fun _ => True)) _ _ from ⟨⟨_, _, rfl, Nat.le_refl _, by unfold maxLen; decide, (fun h => by cases h), fun _ => ⟨b, 0, rfl, hb, trivial, fun i j hi hj => by
  obtain rfl : i = 0 := by simp at hi; omega
  obtain rfl : j = 0 := by omega
  exact ⟨.int .i64 z, hc, rfl, rfl⟩⟩⟩, trivial⟩)
 refine h.mono ?_
 rintro e w' ⟨u, rfl, hr, hb⟩
 simp only [ints_listC] at hr
 obtain ⟨rfl, _⟩ := hr
 refine ⟨?_, hb⟩
 have : firstNZ [z] = z := by unfold firstNZ; by_cases c : z = 0 <;> simp [c, firstNZ]
 rw [this]
theorem slAt_lnk {w : World} {N : Nat → Prop} {ls : List Lnk} {v : Value} (h : RelF w N (.sl 4 ls.length (lnksC ls)) v) : SlAt w v ls.length 4 fun i j => lkC (lnkAt ls i) j := by
 obtain ⟨ao, cap, rfl, h1, h2, h3, h4⟩ := h
 refine ⟨ao, cap, rfl, h1, h2, fun h0 => ?_, h3⟩
 obtain ⟨b, off, e1, e2, _, e4⟩ := h4 h0
 refine ⟨b, off, e1, e2, fun i j hi hj => ?_⟩
 obtain ⟨x, y1, y2⟩ := e4 i j hi hj
 rw [y1]
 rcases (by omega : j = 0 ∨ j = 1 ∨ j = 2 ∨ j = 3) with rfl | rfl | rfl | rfl
 ·obtain ⟨rfl, _⟩ := y2; rfl
 ·obtain ⟨rfl, _⟩ := y2; rfl
 ·obtain ⟨rfl, _⟩ := y2; rfl
 ·obtain ⟨rfl, _⟩ := y2; rfl
theorem relF_lk {w : World} {g cap : Nat} {K : List Lnk} (hg : g < w.heap.size) (hc : K.length ≤ cap) (hm : cap ≤ maxLen) (h : LkIn w g K 0 K.length) : RelF w (fun _ => True) (.sl 4 K.length (lnksC K)) (.slice (some ⟨g, 0, none⟩) K.length cap) := by
 refine ⟨_, cap, rfl, hc, hm, (fun h => by cases h), fun _ => ⟨g, 0, rfl, hg, trivial, fun i j hi hj => ⟨_, by rw [Nat.zero_add]; exact h i (Nat.zero_le _) hi j hj, ?_⟩⟩⟩
 rcases (by omega : j = 0 ∨ j = 1 ∨ j = 2 ∨ j = 3) with rfl | rfl | rfl | rfl <;> exact ⟨rfl, rfl⟩
theorem own_lk {w : World} {base : Nat} {u : Value} {ls : List Lnk} (h : w.ownsRow base 125 4 u ls.length (lkFl ls)) (hne : ls ≠ []) : ∃ g cap, u = .slice (some ⟨g, 0, none⟩) ls.length cap ∧ base ≤ g ∧ g < w.heap.size ∧ ls.length ≤ cap ∧ cap ≤ maxLen ∧ LkIn w g ls 0 ls.length ∧ ∀ o, w.frozen? ⟨g, o, none⟩ = false := by
 rcases h.2 with ⟨rfl, h0⟩ | ⟨g, oc, cur, rfl, hbg, hgc, hmc, hcm, hcs, htk⟩
 ·exact absurd (List.eq_nil_of_length_eq_zero h0) hne
 ·refine ⟨g, oc, rfl, hbg, (Array.getElem?_eq_some_iff.1 hgc).1, hmc, hcm, fun p _ hp c hc => ?_, fun o => ?_⟩
  ·rw [cell_of_row w g _ cur _ (0, 0) hgc]
   have e : (lkFl ls)[p * 4 + c]? = some (lkC (lnkAt ls p) c) := by
    unfold lkFl
    rw [flat_get (by omega), show (p * 4 + c) / 4 = p by omega, show (p * 4 + c) % 4 = c by omega]
   rw [← htk, List.getElem?_take] at e
   split at e
   ·simpa using e
   ·cases e
  ·simp [World.frozen?, hgc]
theorem lnk_memJ {l : List Lnk} {k : Nat} (h : k < l.length) : lnkAt l k ∈ l := by
 have : lnkAt l k = l[k] := by simp [lnkAt, List.getD, h]
 rw [this]; exact List.getElem_mem h
def ptrInt (t : Value) (w : World) : Nat := match t with
 | .pointer (some a) => match w.cell? a with
  | some v => (intOf v).toNat
  | none => 0
 | _ => 0
theorem keptK_all (q : Int) (l : List Lnk) : keptK q l l.length = selL l (woI l q) := by
 unfold keptK selL woI woK
 rw [List.take_length, List.map_map]
 have e : l = (List.range l.length).map fun i => lnkAt l i := by
  apply List.ext_getElem (by simp)
  intro i h1 h2
  simp [lnkAt, List.getD, h1]
 conv => lhs; rw [e]
 rw [List.filter_map]
 congr 1
 apply List.filter_congr
 intro i _
 simp only [Function.comp, hasK]
 unfold bne
 cases ((lnkAt l i).frm == q) <;> cases ((lnkAt l i).to == q) <;> rfl
theorem bdB_nil {n : Nat} (hn : n ≤ 6) : bdB [] n = true := by
 have := grow_0 hn []
 have h : (!bdB (selL [] []) n) = false := this
 simpa [selL] using h
def nmdE (cs : List ByteArray) (ls : List Lnk) : Int := if ntE cs ls ≠ 0 then ntE cs ls else if nmB cs ls = true then 0 else 12
def nmdT (cs : List ByteArray) (ls : List Lnk) : ByteArray := if ntE cs ls ≠ 0 then ⟨#[]⟩ else nmS cs ls
set_option maxRecDepth 100000 in
set_option maxHeartbeats 2000000 in
theorem walk_NamedIn (cs : List ByteArray) (ls : List Lnk) (hs : ∀ k, k < cs.length → (txAt cs k).size ≤ 1000000) (W : World) (N : Nat → Prop) (hG : Gd W) (x0 x1 : Value) (h0 : RelF W N (.sl 1 cs.length (txsC cs)) x0) (h1 : RelF W N (.sl 4 ls.length (lnksC ls)) x1) :
  Calls Try.prog 73 #[.agg #[x0, x1]] W fun e w' => e = .returned (.tuple #[.string (nmdT cs ls), .int .i64 (nmdE cs ls)]) ∧ Below W.heap.size W w' := by
 have HG := hid hG
 have HS := hid hs
 have H0 := hid h0
 have H1 := hid h1
 obtain ⟨aoC, capC, hx0, hc1, hc2, _⟩ := h0
 subst hx0
 obtain ⟨aoL, capL, hx1, hl1, hl2, _⟩ := h1
 subst hx1
 have HN : Hid (∀ w, Below W.heap.size W w → Calls Try.prog 92 #[.agg #[.slice aoC cs.length capC, .slice aoL ls.length capL]] w fun e w' => e = .returned (.int .i64 (ntE cs ls)) ∧ Below w.heap.size w w') := hid fun w hb => netErr_calls HS.out (HG.out.below hb) (relF_below H0.out hb) (relF_below H1.out hb)
 have HA : Hid (ntE cs ls = 0 → ∀ w, Below W.heap.size W w → Calls Try.prog 116 #[.int .i64 (cs.length : Nat), .slice aoL ls.length capL] w fun e w' => e = .returned (.bool (bdB ls cs.length)) ∧ Below w.heap.size w w') := hid fun hz w hb => agree_calls (ntE_bd hz) (HG.out.below hb) (relF_below H1.out hb)
 have HF : Hid (∀ z w b, Below W.heap.size W w → b < w.heap.size → w.cell? ⟨b, 0, none⟩ = some (.int .i64 z) → Calls Try.prog 82 #[.slice (some ⟨b, 0, none⟩) 1 1] w fun e w' => e = .returned (.int .i64 z) ∧ Below w.heap.size w w') := hid fun z w b hb hlt hc => first_calls (HG.out.below hb) hlt hc
 clear hs hG
 obtain ⟨z, hz⟩ : ∃ z, z = ntE cs ls := ⟨_, rfl⟩
 rw [← hz] at HN HA
 have HZ := hid hz
 clear hz
 go_enter Try.func73, Try.ntmps73
 go_wp2_with fail
 obtain ⟨W0, hW0⟩ : ∃ W0, W0 = W.alloc (.cells #[.slice aoC cs.length capC, .slice aoL ls.length capL] 55) := ⟨_, rfl⟩
 have r0 : W0.cell? ⟨W.heap.size, 0, none⟩ = some (.slice aoC cs.length capC) := by rw [hW0]; simp
 have r1 : W0.cell? ⟨W.heap.size, 1, none⟩ = some (.slice aoL ls.length capL) := by rw [hW0]; simp
 have hk0 : W.heap.size < W0.heap.size := by rw [hW0]; simp
 have hBW : Below W.heap.size W W0 := by rw [hW0]; exact BelowA
 rw [← hW0]
 clear hW0
 have HK0 := hid hk0
 have HBW := hid hBW
 have HR0 := hid r0
 have HR1 := hid r1
 clear r0 r1
 refine (HN.out _ hBW).mono ?_
 rintro _ w1 ⟨rfl, hb1⟩
 have HB1 := hid hb1
 clear hBW hb1
 go_wp2_with fail
 refine (HF.out z _ w1.heap.size (HBW.out.trans (Below.mono (show Below W0.heap.size W0 _ from HB1.out.trans (by have := HB1.out.size; exact BelowA)) HBW.out.size)) (by simp) (by simp)).mono ?_
 rintro _ w2 ⟨rfl, hb2⟩
 have HB2 : Hid (Below W0.heap.size W0 w2) := hid (HB1.out.trans (Below.mono (show Below w1.heap.size w1 w2 by exact BelowA) HB1.out.size))
 clear hb2
 by_cases hz0 : z = 0
 case neg =>
  go_wp2_with fail
  ((try simp only [Exit.inBlock, Exit.then]); refine bodyPost_ret (v := .tuple #[.string ⟨#[]⟩, .int .i64 z]) ?_ rfl ?_; (next => simp [results, Try.results73, go_sem]))
  have hz : ntE cs ls ≠ 0 := by rw [← HZ.out]; exact hz0
  exact ⟨by rw [show nmdT cs ls = ⟨#[]⟩ from if_pos hz, show nmdE cs ls = ntE cs ls from if_pos hz, ← HZ.out], HBW.out.trans (HB2.out.mono HBW.out.size)⟩
 subst hz0
 have hz : ntE cs ls = 0 := HZ.out.symm
 have HZ0 := hid hz
 clear hz
 have c0 := (HB2.out.cell (p := ⟨W.heap.size, 0, none⟩) HK0.out).trans HR0.out
 have c1 := (HB2.out.cell (p := ⟨W.heap.size, 1, none⟩) HK0.out).trans HR1.out
 go_wp2_with fail
 refine (HA.out (by first | trivial | rfl) _ (HBW.out.trans (HB2.out.mono HBW.out.size))).mono ?_
 rintro _ w3 ⟨rfl, hb3⟩
 have HB3 : Hid (Below W0.heap.size W0 w3) := hid (HB2.out.trans (hb3.mono HB2.out.size))
 clear hb3 c0 c1
 obtain ⟨ag, hag⟩ : ∃ ag, ag = bdB ls cs.length := ⟨_, rfl⟩
 rw [← hag]
 have HAG := hid hag
 clear hag
 cases ag with
 | true =>
  go_wp2_with fail
  ((try simp only [Exit.inBlock, Exit.then]); refine bodyPost_ret (v := .tuple #[.string ⟨#[]⟩, .int .i64 12]) ?_ rfl ?_; (next => simp [results, Try.results73, go_sem]))
  have e : nmI cs ls = none := if_pos HAG.out.symm
  have e1 : nmdT cs ls = ⟨#[]⟩ := by unfold nmdT nmS; rw [if_neg (by rw [HZ0.out]; simp), e]
  have e2 : nmdE cs ls = 12 := by unfold nmdE nmB; rw [if_neg (by rw [HZ0.out]; simp), e]; rfl
  exact ⟨by rw [e1, e2], HBW.out.trans (HB3.out.mono HBW.out.size)⟩
 | false =>
  go_wp2_with fail
  have hne : ls ≠ [] := fun e => by have := HAG.out; rw [e, bdB_nil (by have := (ntE_bd HZ0.out).1; omega)] at this; cases this
  have HNE := hid hne
  clear hne
  go_loopw [5] (fun t wr => ∃ k b : Nat, 1 ≤ k ∧ k ≤ cs.length ∧ t = .pointer (some ⟨b, 0, none⟩) ∧ W0.heap.size ≤ b ∧ b < wr.heap.size ∧ wr.cell? ⟨b, 0, none⟩ = some (.int .i64 k) ∧ Hid (wr.frozen? ⟨b, 0, none⟩ = false) ∧ Below W0.heap.size W0 wr ∧ Hid (∀ j, 1 ≤ j → j < k → nmF ls cs.length j = false)) (fun t w => cs.length - ptrInt t w)
  case atStart => 
   refine ⟨1, w3.heap.size, Nat.le_refl _, by have := (ntE_bd HZ0.out).1; omega, rfl, HB3.out.size, by simp, by simp, hid (by simp), by have := HB3.out; have := HB3.out.size; exact BelowA, hid fun j h1 h2 => by omega⟩
  case round =>
   obtain ⟨k, b, hk1, hk2, rfl, hb0, hb1, hkc, HFZ, hB, HF⟩ := hrel
   have HB := hid hB
   clear hB
   have c0 := (HB.out.cell (p := ⟨W.heap.size, 0, none⟩) HK0.out).trans HR0.out
   have c1 := (HB.out.cell (p := ⟨W.heap.size, 1, none⟩) HK0.out).trans HR1.out
   by_cases hlt : k < cs.length
   ·have HW64 : Hid (wrap64 ((k : Int) + 1) = k + 1) := hid (IntWalk.wrap64_in _ (by have := (ntE_bd HZ0.out).1; clear c0 c1; omega))
    have hWr : Below W.heap.size W wr := HBW.out.trans (HB.out.mono HBW.out.size)
    have HWR := hid hWr
    have HCL := hid (walk_CloneL wr ls (.slice aoL ls.length capL) (slAt_lnk (relF_below H1.out hWr)) (by have := (ntE_bd HZ0.out).2.1; omega))
    have HKC := hid hkc
    have HB1' := hid hb1
    have HB0' := hid hb0
    clear hWr
    go_wp2_with fail
    refine HCL.out.mono ?_
    rintro _ w4 ⟨u, rfl, hown, hb4⟩
    obtain ⟨g, cap, rfl, hg0, hg1, hgc, hgm, hlk, hfz⟩ := own_lk hown HNE.out
    have HD := hid (walk_DeleteL w4 b k (Nat.lt_of_lt_of_le HB1'.out hb4.size) ((hb4.cell (p := ⟨b, 0, none⟩) HB1'.out).trans HKC.out) ls g cap hg1 (by have := HB1'.out; omega) (by have := (ntE_bd HZ0.out).2.1; omega) hlk hfz hgc)
    have HB4 := hid hb4
    have HG0 := hid hg0
    have HG1 := hid hg1
    clear hown hlk hfz hb4
    go_wp2_with fail
    refine HD.out.mono ?_
    rintro _ w5 ⟨rfl, hL5, hU5⟩
    have HU5 := hid hU5
    have HB5 : Hid (Below W0.heap.size W0 w5) := hid (by
     have q := HB.out.trans (HB4.out.mono HB.out.size)
     have zz := HB.out.size
     exact ⟨HU5.out.os.trans q.os, HU5.out.tape.trans q.tape, HU5.out.output.trans q.output, Nat.le_trans q.size HU5.out.size, fun j hj => (HU5.out.block j (by have := q.size; omega) (by have := HG0.out; omega)).trans (q.block j hj)⟩)
    have hkl := keptK_len k ls ls.length
    have hR5 : RelF w5 (fun _ => True) (.sl 4 (keptK k ls ls.length).length (lnksC (keptK k ls ls.length))) (.slice (some ⟨g, 0, none⟩) (keptK k ls ls.length).length cap) := relF_lk (Nat.lt_of_lt_of_le HG1.out HU5.out.size) (by omega) hgm hL5
    have hkc5 : w5.cell? ⟨b, 0, none⟩ = some (.int .i64 k) := (World.cell?_of_block (w := w4) (HU5.out.block b (Nat.lt_of_lt_of_le HB1'.out HB4.out.size) (by have := HB1'.out; have := HG0.out; omega))).trans ((HB4.out.cell (p := ⟨b, 0, none⟩) HB1'.out).trans HKC.out)
    have hb5 : b < w5.heap.size := Nat.lt_of_lt_of_le HB1'.out (Nat.le_trans HB4.out.size HU5.out.size)
    have hok : bdOk cs.length (keptK k ls ls.length) := by
     obtain ⟨z1, z2, z3⟩ := ntE_bd HZ0.out
     refine ⟨z1, by omega, fun i hi => ?_⟩
     have hm := lnk_memJ hi
     unfold keptK at hm
     obtain ⟨i2, hi2, e⟩ := mem_lnkJ (List.mem_of_mem_take (List.mem_filter.1 hm).1)
     unfold keptK
     rw [← e]
     exact z3 i2 hi2
    have HAG5 := hid (agree_calls hok (HG.out.below (HBW.out.trans (HB5.out.mono HBW.out.size))) hR5)
    have c05 := (HB5.out.cell (p := ⟨W.heap.size, 0, none⟩) HK0.out).trans HR0.out
    have c15 := (HB5.out.cell (p := ⟨W.heap.size, 1, none⟩) HK0.out).trans HR1.out
    obtain ⟨fl, hfl⟩ : ∃ fl, fl = bdB (keptK k ls ls.length) cs.length := ⟨_, rfl⟩
    rw [← hfl] at HAG5
    have HFL : Hid (nmF ls cs.length k = fl) := hid (by rw [hfl, keptK_all]; rfl)
    obtain ⟨m, hm⟩ : ∃ m, m = (keptK k ls ls.length).length := ⟨_, rfl⟩
    rw [← hm] at HAG5 ⊢
    have HKC5 := hid hkc5
    have HB5' := hid hb5
    clear hL5 hU5 hR5 hok hfl hm hkl
    cases fl with
    | true =>
     go_wp2_with fail
     refine HAG5.out.mono ?_
     rintro _ w6 ⟨rfl, hb6⟩
     have q6 : Below W0.heap.size W0 w6 := HB5.out.trans (hb6.mono HB5.out.size)
     have c06 := (q6.cell (p := ⟨W.heap.size, 0, none⟩) HK0.out).trans HR0.out
     have hkc6 := (hb6.cell (p := ⟨b, 0, none⟩) HB5'.out).trans HKC5.out
     have q7 : Below W.heap.size W w6 := HBW.out.trans (q6.mono HBW.out.size)
     have Q7 := hid q7
     obtain ⟨ao', cap', e1, _, _, _, e5⟩ := H0.out
     cases e1
     obtain ⟨bC, oC, rfl, e2, _, e4⟩ := e5 (by omega)
     obtain ⟨y, y1, y2⟩ := e4 k 0 hlt (by omega)
     obtain ⟨rfl, _⟩ := y2
     have hs6 : w6.cell? ⟨bC, oC + k, none⟩ = some (.string (txAt cs k)) := by
      rw [q7.cell (p := ⟨bC, oC + k, none⟩) e2, ← y1, show oC + k * 1 + 0 = oC + k by omega]
     clear e4 e5 y1 q6 hb6 q7
     go_wp2_with fail
     ((try simp only [Exit.inBlock, Exit.then]); refine bodyPost_ret (v := .tuple #[.string (txAt cs k), .int .i64 0]) ?_ rfl ?_; (next => simp [results, Try.results73, go_sem]))
     have e : nmI cs ls = some k := (if_neg (by rw [← HAG.out]; simp)).trans (nmR_hit hk1 hlt HF.out HFL.out)
     have e1 : nmdT cs ls = txAt cs k := by unfold nmdT nmS; rw [if_neg (by rw [HZ0.out]; simp), e]
     have e2 : nmdE cs ls = 0 := by unfold nmdE nmB; rw [if_neg (by rw [HZ0.out]; simp), e]; rfl
     exact ⟨by rw [e1, e2], Q7.out⟩
    | false =>
     go_wp2_with fail
     refine HAG5.out.mono ?_
     rintro _ w6 ⟨rfl, hb6⟩
     have q6 : Below W0.heap.size W0 w6 := HB5.out.trans (hb6.mono HB5.out.size)
     have hkc6 := (hb6.cell (p := ⟨b, 0, none⟩) HB5'.out).trans HKC5.out
     have Q6 := hid q6
     clear q6 hb6
     go_wp2_with fail
     go_roundw
     case rel =>
      have hz6 := Q6.out.size
      have q6 := Q6.out
      refine ⟨k + 1, w6.heap.size, by omega, by omega, rfl, hz6, by simp, by rw [HW64.out]; simp, hid (by simp), by exact BelowA, hid fun j h1 h2 => ?_⟩
      rcases (by omega : j < k ∨ j = k) with c | rfl
      ·exact HF.out j h1 c
      ·exact HFL.out
     case measure =>
      have p1 : ptrInt (.pointer (some ⟨b, 0, none⟩)) wr = k := by unfold ptrInt; simp only [HKC.out]; exact Int.toNat_natCast k
      have hc : (w6.alloc (.cells #[.int .i64 (wrap64 (k + 1))] 3)).cell? ⟨w6.heap.size, 0, none⟩ = some (.int .i64 (k + 1)) := by rw [HW64.out]; simp
      have p2 : ptrInt (.pointer (some ⟨w6.heap.size, 0, none⟩)) (w6.alloc (.cells #[.int .i64 (wrap64 (k + 1))] 3)) = k + 1 := by unfold ptrInt; simp only [hc]; exact Int.toNat_natCast (k + 1)
      rw [p1, p2]
      exact Nat.sub_lt_sub_left hlt (Nat.lt_succ_self k)
   ·obtain rfl : k = cs.length := by omega
    go_wp2_with fail
    ((try simp only [Exit.inBlock, Exit.then]); refine bodyPost_ret (v := .tuple #[.string ⟨#[]⟩, .int .i64 12]) ?_ rfl ?_; (next => simp [results, Try.results73, go_sem]))
    have e : nmI cs ls = none := (if_neg (by rw [← HAG.out]; simp)).trans (nmR_none HF.out)
    have e1 : nmdT cs ls = ⟨#[]⟩ := by unfold nmdT nmS; rw [if_neg (by rw [HZ0.out]; simp), e]
    have e2 : nmdE cs ls = 12 := by unfold nmdE nmB; rw [if_neg (by rw [HZ0.out]; simp), e]; rfl
    exact ⟨by rw [e1, e2], HBW.out.trans (HB.out.mono HBW.out.size)⟩
end Go.Proofs.Ytkifmfmenobhnaa
set_option linter.unusedVariables false
set_option linter.unusedSimpArgs false
namespace Go.Proofs.Ytkifmfmenobhnaa
open Go.RowKit Ev
def con_NamedIn : Con := fun args => match args with
 | [.t (.a [.sl 1 n_cs c_cs, .sl 4 n_ls c_ls])] => some (.tu [.c (.v (.string (nmdT (txOf n_cs c_cs) (listC n_ls mkLnk c_ls)))), .c (.v (.int .i64 (nmdE (txOf n_cs c_cs) (listC n_ls mkLnk c_ls))))], some (txP n_cs c_cs ∧ numsP 4 n_ls c_ls ∧ ∀ k, k < (txOf n_cs c_cs).length → (txAt (txOf n_cs c_cs) k).size ≤ 1000000), Fre.no)
 | _ => none
theorem ok_NamedIn : Ok Try.prog 73 con_NamedIn := by
 intro args r pre fresh h hp
 unfold con_NamedIn at h
 split at h
 ·rename_i n_cs c_cs n_ls c_ls
  cases h
  obtain ⟨hp0, hp1, hp⟩ := hp
  refine ⟨Enters.of (fn := Try.f73) (by kernel_rfl) (by kernel_rfl) (by kernel_rfl), fun W N vs hG hv => ?_⟩
  have hv : All2 (RelD (RelF W N)) [.t (.a [.sl 1 n_cs c_cs, .sl 4 n_ls c_ls])] vs := hv
  obtain ⟨v0, us0, rfl, r0, hv0⟩ := hv.cons_inv
  obtain rfl := hv0.nil_inv
  obtain ⟨ws, rfl, r0⟩ := r0
  obtain ⟨x0, ws0, rfl, y0, r0⟩ := r0.cons_inv
  obtain ⟨x1, ws1, rfl, y1, r0⟩ := r0.cons_inv
  obtain rfl := r0.nil_inv
  have h0 : RelF W N (.sl 1 (txOf n_cs c_cs).length (txsC (txOf n_cs c_cs))) x0 := leL_str hp0 W N x0 y0
  have h1 : RelF W N (.sl 4 (listC n_ls mkLnk c_ls).length (lnksC (listC n_ls mkLnk c_ls))) x1 := leL_Lnk hp1 W N x1 y1
  refine (walk_NamedIn _ _ hp W N hG x0 x1 h0 h1).mono ?_
  rintro e w' ⟨rfl, hb⟩
  exact ⟨_, rfl, ⟨[_, _], rfl, ⟨rfl, rfl⟩, ⟨rfl, rfl⟩, trivial⟩, hb⟩
 ·cases h
end Go.Proofs.Ytkifmfmenobhnaa
set_option linter.unusedVariables false
set_option linter.unusedSimpArgs false
namespace Go.Proofs.Ytkifmfmenobhnaa
open Go.RowKit Ev
def Inc : Nat → Nat → List Int → Prop
 | lo, hi, [] => True
 | lo, hi, a :: l => (lo : Int) ≤ a ∧ a < hi ∧ Inc (a.toNat + 1) hi l
theorem Inc.weak {hi : Nat} : ∀ {l : List Int} {a b : Nat}, b ≤ a → Inc a hi l → Inc b hi l
 | [], _, _, _, _ => trivial
 | x :: l, a, b, h, g => ⟨by have := g.1; omega, g.2.1, g.2.2⟩
end Go.Proofs.Ytkifmfmenobhnaa
set_option linter.unusedVariables false
set_option linter.unusedSimpArgs false
namespace Go.Proofs.Ytkifmfmenobhnaa
open Go.RowKit Ev
theorem n00 : (((0 : Nat) : Int)) = 0 := rfl
theorem lt_v {α : Type} (v : α) (k : α → Prop) : lt v k = k v := by unfold lt; rfl
end Go.Proofs.Ytkifmfmenobhnaa
set_option linter.unusedVariables false
set_option linter.unusedSimpArgs false
namespace Go.Proofs.Ytkifmfmenobhnaa
open Go.RowKit Ev
theorem q2a : ((2 : Int) == 0) = false := rfl
theorem q2b : ((2 : Int) != 0) = true := rfl
theorem q12a : ((12 : Int) == 0) = false := rfl
theorem q12b : ((12 : Int) != 0) = true := rfl
theorem q13a : ((13 : Int) == 0) = false := rfl
theorem q13b : ((13 : Int) != 0) = true := rfl
end Go.Proofs.Ytkifmfmenobhnaa
set_option linter.unusedVariables false
set_option linter.unusedSimpArgs false
namespace Go.Proofs.Ytkifmfmenobhnaa
open Go.RowKit Ev
theorem wr00 : IntKind.i64.wrap (0 + 0) = 0 := rfl
end Go.Proofs.Ytkifmfmenobhnaa
set_option linter.unusedVariables false
set_option linter.unusedSimpArgs false
namespace Go.Proofs.Ytkifmfmenobhnaa
open Go.RowKit Ev
end Go.Proofs.Ytkifmfmenobhnaa
set_option linter.unusedVariables false
set_option linter.unusedSimpArgs false
namespace Go.Proofs.Ytkifmfmenobhnaa
open Go.RowKit Ev
theorem nums_ints (l : List Int) : numsC .i64 l = intsC l := rfl
end Go.Proofs.Ytkifmfmenobhnaa
set_option linter.unusedVariables false
set_option linter.unusedSimpArgs false
namespace Go.Proofs.Ytkifmfmenobhnaa
open Go.RowKit Ev
end Go.Proofs.Ytkifmfmenobhnaa
set_option linter.unusedVariables false
set_option linter.unusedSimpArgs false
namespace Go.Proofs.Ytkifmfmenobhnaa
open Go.RowKit Ev
def free (c : Cab) (l : List Png) : Prop := trOk c l ∧ (∀ i, i < l.length → canB c (pngAt l i) = true) ∧ ∀ i k, i < k → k < l.length → apB c (pngAt l i) (pngAt l k) = false
end Go.Proofs.Ytkifmfmenobhnaa
set_option linter.unusedVariables false
set_option linter.unusedSimpArgs false
namespace Go.Proofs.Ytkifmfmenobhnaa
open Go.RowKit Ev
end Go.Proofs.Ytkifmfmenobhnaa
set_option linter.unusedVariables false
set_option linter.unusedSimpArgs false
namespace Go.Proofs.Ytkifmfmenobhnaa
open Go.RowKit Ev
theorem fwL_ok {cs : List ByteArray} {ls : List Lnk} (h : fwL cs ls = true) : cs.length ≤ 8 ∧ ls.length ≤ 14 ∧ ∀ k, k < cs.length → (txAt cs k).size ≤ 20 := by
 unfold fwL at h
 rw [Bool.and_eq_true, Bool.and_eq_true] at h
 have h1 := of_decide_eq_true h.1
 have h2 := of_decide_eq_true h.2.1
 exact ⟨by omega, by omega, fun k hk => of_decide_eq_true (List.all_eq_true.1 h.2.2 _ (txAt_in hk))⟩
end Go.Proofs.Ytkifmfmenobhnaa
set_option linter.unusedVariables false
set_option linter.unusedSimpArgs false
namespace Go.Proofs.Ytkifmfmenobhnaa
open Go.RowKit Ev
theorem cn_cases {cs : List ByteArray} {ls : List Lnk} (hz : ntE cs ls = 0) : ((cnG ls cs.length).2 = true ∧ cnE cs ls = 0 ∧ cnV cs ls = (cnG ls cs.length).1) ∨ ((cnG ls cs.length).2 = false ∧ cnE cs ls = 12 ∧ cnV cs ls = [] ∧ (cnG ls cs.length).1 = []) := by
 have z := ntE_bd hz
 obtain ⟨⟨z1, z2⟩, z3, z4⟩ := z
 rw [Int.toNat_natCast] at z4
 have hn : cs.length ≤ 6 := by omega
 have e1 : cnE cs ls = if (cnG ls cs.length).2 = true then 0 else 12 := if_neg (by rw [hz]; simp)
 have e2 : cnV cs ls = (cnG ls cs.length).1 := if_neg (by rw [hz]; simp)
 cases h : (cnG ls cs.length).2 with
 | true => exact Or.inl ⟨rfl, by rw [e1, h]; rfl, e2⟩
 | false =>
  have hb : bdB ls cs.length = true := by have := cnG_eq hn z4; rw [h] at this; simpa using this.symm
  have e3 : (cnG ls cs.length).1 = [] := by rw [cnG_none hn z4 hb]
  exact Or.inr ⟨rfl, by rw [e1, h]; rfl, by rw [e2, e3], e3⟩
theorem nmd_cases {cs : List ByteArray} {ls : List Lnk} (hz : ntE cs ls = 0) : (nmB cs ls = true ∧ nmdE cs ls = 0 ∧ nmdT cs ls = nmS cs ls) ∨ (nmB cs ls = false ∧ nmdE cs ls = 12 ∧ nmdT cs ls = ⟨#[]⟩) := by
 have e1 : nmdE cs ls = if nmB cs ls = true then 0 else 12 := if_neg (by rw [hz]; simp)
 have e2 : nmdT cs ls = nmS cs ls := if_neg (by rw [hz]; simp)
 cases h : nmB cs ls with
 | true => exact Or.inl ⟨rfl, by rw [e1, h]; rfl, e2⟩
 | false =>
  refine Or.inr ⟨rfl, by rw [e1, h]; rfl, ?_⟩
  rw [e2]
  unfold nmB at h
  unfold nmS
  cases hc : nmI cs ls with
  | none => rfl
  | some k => rw [hc] at h; cases h
theorem t12_0 : ((12 : Int) != 0) = true := rfl
theorem t0_0 : ((0 : Int) != 0) = false := rfl
theorem k0_12 : ((0 : Int) == 12) = false := rfl
theorem k12_12 : ((12 : Int) != 12) = false := rfl
theorem k12_0 : ((12 : Int) == 0) = false := rfl
def Sck119 : Sum := addS Si4118 73 con_NamedIn
theorem VSck119 : Valid Try.prog Sck119 := Valid.add VSi4118 ok_NamedIn
end Go.Proofs.Ytkifmfmenobhnaa
set_option linter.unusedVariables false
set_option linter.unusedSimpArgs false
namespace Go.Proofs.Ytkifmfmenobhnaa
open Go.RowKit Ev
theorem txg_cell (l : List ByteArray) {i j : Nat} (hi : i < (l.map txCv).length) (hj : j < 1) : genC (l.map txCv) i j = .v (.string (txAt l i)) := by
 obtain rfl : j = 0 := by omega
 rw [List.length_map] at hi
 simp [genC, txCv, txAt, List.getD, hi]
theorem txg_plain (l : List ByteArray) : plnC (.sl 1 (l.map txCv).length (genC (l.map txCv))) := fun i j hi hj => ⟨_, txg_cell l hi hj⟩
theorem txP_txg (l : List ByteArray) : txP (l.map txCv).length (genC (l.map txCv)) := fun i hi => by rw [txg_cell l hi (by omega)]; rfl
theorem txg_of (l : List ByteArray) : txOf (l.map txCv).length (genC (l.map txCv)) = l := by
 apply List.ext_getElem?
 intro i
 by_cases hi : i < l.length
 ·simp [txOf, genC, txCv, List.getD, hi, cvStr]
 ·rw [List.getElem?_eq_none (by simp [txOf]; omega), List.getElem?_eq_none (by omega)]
def lieD (ls : List Lnk) (o off : List Int) (w : Int) (k : Nat) : Int := o.getD (lnkAt ls k).to.toNat 0 - o.getD (lnkAt ls k).frm.toNat 0 + if ((lnkAt ls k).frm == w || (lnkAt ls k).to == w) = true then off.getD (k % off.length) 0 % 100 else 0
def lieL (ls : List Lnk) (o off : List Int) (w : Int) (k : Nat) : Lnk := ⟨(lnkAt ls k).frm, (lnkAt ls k).to, lieD ls o off w k - 1, lieD ls o off w k + 1⟩
def lieK (ls : List Lnk) (o off : List Int) (w : Int) (k : Nat) : List Lnk := (List.range k).map (lieL ls o off w) ++ ls.drop k
def lieLs (ls : List Lnk) (o off : List Int) (w : Int) : List Lnk := (List.range ls.length).map (lieL ls o off w)
theorem lieK_all (ls : List Lnk) (o off : List Int) (w : Int) : lieK ls o off w ls.length = lieLs ls o off w := by simp [lieK, lieLs]
theorem lie_len (ls : List Lnk) (o off : List Int) (w : Int) : (lieLs ls o off w).length = ls.length := by simp [lieLs]
theorem lieK_len {ls : List Lnk} {o off : List Int} {w : Int} {k : Nat} (h : k ≤ ls.length) : (lieK ls o off w k).length = ls.length := by simp [lieK]; omega
theorem lie_at {ls : List Lnk} {o off : List Int} {w : Int} {k : Nat} (h : k < ls.length) : lnkAt (lieLs ls o off w) k = lieL ls o off w k := by simp [lnkAt, lieLs, List.getD, h]
theorem lieK_set {ls : List Lnk} {o off : List Int} {w : Int} {k : Nat} (h : k < ls.length) {a b : Int} (ha : a = lieD ls o off w k - 1) (hb : b = lieD ls o off w k + 1) : ((lieK ls o off w k).map lnkCv).set k (put (((lieK ls o off w k).map lnkCv).getD k []) 2 [.v (.int .i64 a), .v (.int .i64 b)]) = (lieK ls o off w (k + 1)).map lnkCv := by
 subst ha hb
 have e0 : ls.drop k = lnkAt ls k :: ls.drop (k + 1) := by rw [List.drop_eq_getElem_cons h]; simp [lnkAt, List.getD, h]
 have e1 : ((lieK ls o off w k).map lnkCv).getD k [] = lnkCv (lnkAt ls k) := by
  unfold lieK
  rw [e0]
  simp [List.getD]
 rw [e1]
 have e2 : put (lnkCv (lnkAt ls k)) 2 [.v (.int .i64 (lieD ls o off w k - 1)), .v (.int .i64 (lieD ls o off w k + 1))] = lnkCv (lieL ls o off w k) := rfl
 rw [e2]
 unfold lieK
 rw [e0, List.range_succ, List.map_append, List.map_append, List.map_append, List.map_append]
 rw [List.set_append_right _ _ (by simp)]
 simp
def oB (ls : List Lnk) (o : List Int) (j : Nat) : Prop := (-1000000 ≤ o.getD (lnkAt ls j).frm.toNat 0 ∧ o.getD (lnkAt ls j).frm.toNat 0 ≤ 1000000) ∧ (-1000000 ≤ o.getD (lnkAt ls j).to.toNat 0 ∧ o.getD (lnkAt ls j).to.toNat 0 ≤ 1000000)
theorem lieD_rg {ls : List Lnk} {o off : List Int} {w : Int} {k : Nat} (h : oB ls o k) : -2000000 ≤ lieD ls o off w k ∧ lieD ls o off w k ≤ 2000100 := by
 obtain ⟨h1, h2⟩ := h
 unfold lieD
 split <;> omega
theorem lie_ok {n : Nat} {ls : List Lnk} {o off : List Int} {w : Int} (hok : ∀ k, k < ls.length → (lnkAt ls k).ok n) (hb : ∀ j, j < ls.length → oB ls o j) : ∀ k, k < (lieLs ls o off w).length → (lnkAt (lieLs ls o off w) k).ok n := fun k hk => by
 rw [lie_len] at hk
 rw [lie_at hk]
 obtain ⟨h1, h2, h3, _⟩ := hok k hk
 have := lieD_rg (off := off) (w := w) (hb k hk)
 exact ⟨h1, h2, h3, by show -1000000000 ≤ lieD ls o off w k - 1; omega, by show lieD ls o off w k - 1 ≤ lieD ls o off w k + 1; omega, by show lieD ls o off w k + 1 ≤ 1000000000; omega⟩
theorem ntE_of {cs : List ByteArray} {ls L : List Lnk} (h : ntE cs ls = 0) (hl : L.length ≤ 12) (hok : ∀ k, k < L.length → (lnkAt L k).ok cs.length) : ntE cs L = 0 := by
 obtain ⟨h1, h2, _⟩ := ntE_ok h
 have q := ntH_ok h1
 have h3 : ntH cs L = 0 := by
  unfold ntH
  rw [decide_eq_true (show (cs.length : Int) > 0 by omega), decide_eq_true (show (cs.length : Int) ≤ 6 by omega), decide_eq_true (show (L.length : Int) ≤ 12 by omega)]
  rfl
 have h2' : scan (nmE cs) cs.length = 0 := scan_end h2
 unfold ntE
 rw [if_neg (by rw [h3]; simp), if_neg (by rw [h2']; simp)]
 refine scan_end fun k hk => ?_
 obtain ⟨⟨a1, a2⟩, ⟨a3, a4⟩, a5, a6, a7, a8⟩ := hok k hk
 unfold lkE inB
 rw [decide_eq_true (show (0 : Int) ≤ (lnkAt L k).frm by omega), decide_eq_true (show (lnkAt L k).frm ≤ (cs.length : Int) - 1 by omega), decide_eq_true (show (0 : Int) ≤ (lnkAt L k).to by omega), decide_eq_true (show (lnkAt L k).to ≤ (cs.length : Int) - 1 by omega), decide_eq_true (show (-1000000000 : Int) ≤ (lnkAt L k).lo by omega), decide_eq_true (show (lnkAt L k).lo ≤ 1000000000 by omega), decide_eq_true (show (-1000000000 : Int) ≤ (lnkAt L k).hi by omega), decide_eq_true (show (lnkAt L k).hi ≤ 1000000000 by omega), decide_eq_true a7, show ((lnkAt L k).frm != (lnkAt L k).to) = true from by simpa using a5]
 rfl
theorem lie_free {n : Nat} (hn : n ≤ 6) {ls : List Lnk} {o off : List Int} {w : Int} (hok : ∀ k, k < ls.length → (lnkAt ls k).ok n) (hb : ∀ j, j < ls.length → oB ls o j) : bdB (selL (lieLs ls o off w) (woI (lieLs ls o off w) w)) n = true := by
 have ok1 := lie_ok (off := off) (w := w) hok hb
 have ok2 := sel_ok ok1 (wo_ok (lieLs ls o off w) w)
 have hco : ∀ k, k < (selL (lieLs ls o off w) (woI (lieLs ls o off w) w)).length → coF (selL (lieLs ls o off w) (woI (lieLs ls o off w) w)) o k = 0 := fun k hk => by
  rw [sel_len] at hk
  refine in_co ?_
  rw [sel_at hk]
  have hm : (woI (lieLs ls o off w) w).getD k 0 ∈ woI (lieLs ls o off w) w := by
   rw [List.getD_eq_getElem?_getD, List.getElem?_eq_getElem hk]; exact List.getElem_mem hk
  generalize (woI (lieLs ls o off w) w).getD k 0 = y at hm
  unfold woI woK at hm
  obtain ⟨i, hi, rfl⟩ := List.mem_map.1 hm
  obtain ⟨h1, h2⟩ := List.mem_filter.1 hi
  have h1 := List.mem_range.1 h1
  rw [lie_len] at h1
  rw [Int.toNat_natCast]
  rw [lie_at h1] at h2 ⊢
  rw [Bool.and_eq_true] at h2
  have a1 : ((lnkAt ls i).frm == w) = false := by simpa [lieL] using h2.1
  have a2 : ((lnkAt ls i).to == w) = false := by simpa [lieL] using h2.2
  have e : lieD ls o off w i = o.getD (lnkAt ls i).to.toNat 0 - o.getD (lnkAt ls i).frm.toNat 0 := by
   unfold lieD; rw [a1, a2]; simp
  show lieD ls o off w i - 1 ≤ o.getD (lnkAt ls i).to.toNat 0 - o.getD (lnkAt ls i).frm.toNat 0 ∧ o.getD (lnkAt ls i).to.toNat 0 - o.getD (lnkAt ls i).frm.toNat 0 ≤ lieD ls o off w i + 1
  omega
 refine bdB_true.2 fun i hi => ?_
 have ef : far = 1152921504606846976 := rfl
 by_cases c : bdF (selL (lieLs ls o off w) (woI (lieLs ls o off w) w)) n i i < far
 ·have := keeps_bd hn ok2 hco hi hi c
  omega
 ·omega
theorem nmR_some {f : Nat → Bool} : ∀ {n i k : Nat}, i ≤ k → k < i + n → f k = true → ∃ j, nmR f n i = some j ∧ i ≤ j ∧ j ≤ k ∧ f j = true
 | 0, i, k, h1, h2, _ => by omega
 | n + 1, i, k, h1, h2, h3 => by
  rw [nmR]
  by_cases c : f i = true
  ·rw [if_pos c]; exact ⟨i, rfl, Nat.le_refl _, h1, c⟩
  ·rw [if_neg c]
   have : i ≠ k := fun e => c (by rw [e]; exact h3)
   obtain ⟨j, e, h4, h5, h6⟩ := nmR_some (n := n) (i := i + 1) (k := k) (by omega) (by omega) h3
   exact ⟨j, e, by omega, h5, h6⟩
theorem lie_named {cs : List ByteArray} {L : List Lnk} (hz : ntE cs L = 0) {w : Nat} (h1 : 1 ≤ w) (h2 : w < cs.length) (hb : bdB (selL L (woI L w)) cs.length = true) : (cnE cs L = 12 ∧ nmdE cs L = 12) ∨ (cnE cs L = 0 ∧ nmdE cs L = 0 ∧ ∃ k, 1 ≤ k ∧ k ≤ w ∧ nmdT cs L = txAt cs k ∧ bdB (selL L (woI L k)) cs.length = true) := by
 have z := ntE_bd hz
 obtain ⟨⟨z1, z2⟩, z3, z4⟩ := z
 rw [Int.toNat_natCast] at z4
 have hn : cs.length ≤ 6 := by omega
 have hg := cnG_eq hn z4
 rcases cn_cases hz with ⟨b1, b2, b3⟩ | ⟨b1, b2, b3, b4⟩
 ·right
  rw [b1] at hg
  have hB : bdB L cs.length = false := by simpa using hg.symm
  obtain ⟨k, e, k1, k2, k3⟩ := nmR_some (f := nmF L cs.length) (n := cs.length - 1) (i := 1) (k := w) h1 (by omega) hb
  have e1 : nmI cs L = some k := (if_neg (by rw [hB]; simp)).trans e
  have e2 : nmB cs L = true := by unfold nmB; rw [e1]; rfl
  rcases nmd_cases hz with ⟨c1, c2, c3⟩ | ⟨c1, _, _⟩
  ·refine ⟨b2, c2, k, k1, k2, ?_, k3⟩
   rw [c3]; unfold nmS; rw [e1]
  ·rw [e2] at c1; cases c1
 ·left
  rw [b1] at hg
  have hB : bdB L cs.length = true := by simpa using hg.symm
  have e1 : nmI cs L = none := if_pos hB
  have e2 : nmB cs L = false := by unfold nmB; rw [e1]; rfl
  rcases nmd_cases hz with ⟨c1, _, _⟩ | ⟨c1, c2, c3⟩
  ·rw [e2] at c1; cases c1
  ·exact ⟨b2, c2⟩
theorem cn_free {cs : List ByteArray} {L : List Lnk} (hz : ntE cs L = 0) (hb : bdB L cs.length = true) : cnE cs L = 12 := by
 have z := ntE_bd hz
 obtain ⟨⟨z1, z2⟩, z3, z4⟩ := z
 rw [Int.toNat_natCast] at z4
 have hg := cnG_eq (by omega) z4
 rw [hb] at hg
 rcases cn_cases hz with ⟨b1, _, _⟩ | ⟨_, b2, _⟩
 ·rw [b1] at hg; cases hg
 ·exact b2
theorem names_apart {cs : List ByteArray} {ls : List Lnk} (hz : ntE cs ls = 0) {i j : Nat} (hi : i < cs.length) (hj : j < cs.length) (h : txAt cs i = txAt cs j) : i = j := by
 obtain ⟨_, h2, _⟩ := ntE_ok hz
 have key : ∀ {a b : Nat}, b < cs.length → a < b → txAt cs a ≠ txAt cs b := by
  intro a b hb hab e
  have q := (fn2 (show firstNZ [_, _] = 0 from h2 b hb)).2
  rw [unl_0 (by decide), has_true (Nat.le_of_lt hb) hab e] at q
  cases q
 rcases Nat.lt_trichotomy i j with c | c | c
 ·exact absurd h (key hj c)
 ·exact c
 ·exact absurd h.symm (key hi c)
theorem tmodN (k n : Nat) : Int.tmod (k : Int) (n : Int) = ((k % n : Nat) : Int) := by
 rw [Int.tmod_eq_emod_of_nonneg (by omega)]; rfl
end Go.Proofs.Ytkifmfmenobhnaa
set_option linter.unusedVariables false
set_option linter.unusedSimpArgs false
namespace Go.Proofs.Ytkifmfmenobhnaa
open Go.RowKit Ev
def vc_ref01_CopyNet_b (cs : List ByteArray) (ls : List Lnk) (post : DV → Row → Prop) : Prop := (roomP 16 (([] : List (List CV)).length + ((List.range cs.length).map fun i => fwd ((txsC cs) i) 0 1).length)) ∧ ((roomP 32 (([] : List (List CV)).length + ((List.range ls.length).map fun i => fwd ((lnksC ls) i) 0 4).length)) ∧ (post (.t (.a [.sl 1 ((([] : List (List CV)) ++ ((List.range cs.length).map fun i => fwd ((txsC cs) i) 0 1)).length) (genC (([] : List (List CV)) ++ ((List.range cs.length).map fun i => fwd ((txsC cs) i) 0 1))), .os 0])) (.gen 125 4 (([] : List (List CV)) ++ ((List.range ls.length).map fun i => fwd ((lnksC ls) i) 0 4)))))
def ann_ref01_CopyNet_b : Ann := ⟨fun r => lookA r [(1, ([[], [], [1], [0, 1, 2], [], [], [5], [0, 1, 2, 3, 4, 5, 6], [0, 1, 2, 3, 4, 5, 6, 7], [0, 1, 2, 3, 4, 5, 6, 7, 8]], [[7], [3, 7], [3, 7], [9999, 3, 6], [3, 6], [3, 7], [3, 6, 7], [], [], []]))], fun _ => none, fun _ => [], I1, false, fun _ => none, fun _ => none⟩
theorem ev_ref01_CopyNet_b (J : Inv) (cs : List ByteArray) (ls : List Lnk) (post : DV → Row → Prop) : evFnO2 Try.prog tab Sck119 ann_ref01_CopyNet_b J Try.f38 [.t (.a [.sl 1 cs.length (txsC cs), .sl 4 ls.length (lnksC ls)])] post = vc_ref01_CopyNet_b cs ls post := by kernel_rfl
theorem fit_ref01_CopyNet_b : okFn ann_ref01_CopyNet_b Try.f38 = true := by kernel_rfl
theorem lp_ref01_CopyNet_b (J : Inv) (post : DV → Row → Prop) : AllG J (loopsFnO2 Try.prog tab Sck119 ann_ref01_CopyNet_b J Try.f38 post) = (True) := by kernel_rfl
theorem spec_ref01_CopyNet_b (cs : List ByteArray) (ls : List Lnk) (hp : (cs).length ≤ 1000 ∧ (ls).length ≤ 1000) : vc_ref01_CopyNet_b cs ls (fun r' R' => r' = (.t (.a [.sl 1 (cs.map txCv).length (genC (cs.map txCv)), .os 0])) ∧ R' = .gen 125 4 (ls.map lnkCv)) := by
 unfold vc_ref01_CopyNet_b
 rw [txs_fwd, lnks_fwd, List.nil_append, List.nil_append]
 refine ⟨?_, ?_, rfl, rfl⟩
 all_goals
  unfold roomP maxLen
  simp
  omega
def con_ref01_CopyNet_b : Con := fun args => match args with
 | [.t (.a [.sl 1 n_cs c_cs, .sl 4 n_ls c_ls])] => some (.t (.a [.sl 1 ((txOf n_cs c_cs).map txCv).length (genC ((txOf n_cs c_cs).map txCv)), .os 0]), some (txP n_cs c_cs ∧ numsP 4 n_ls c_ls ∧ ((txOf n_cs c_cs)).length ≤ 1000 ∧ ((listC n_ls mkLnk c_ls)).length ≤ 1000), .own (.gen 125 4 ((listC n_ls mkLnk c_ls).map lnkCv)))
 | _ => none
theorem ok_ref01_CopyNet_b : Ok Try.prog 38 con_ref01_CopyNet_b := by
 refine Ok.fnO2 (ann := ann_ref01_CopyNet_b) mixed tabOK VSck119 VI1 (fn := Try.f38) (by kernel_rfl) (by kernel_rfl) fit_ref01_CopyNet_b fun args r pre fresh h hp => ?_
 unfold con_ref01_CopyNet_b at h
 split at h
 ·rename_i n_cs c_cs n_ls c_ls
  cases h
  obtain ⟨hp0, hp1, hp⟩ := hp
  refine ⟨_, rfl, ⟨plainR_lnks _ _, fun x hx => ?_⟩, fun _ _ _ => False, [.t (.a [.sl 1 ((txOf n_cs c_cs).length) (txsC (txOf n_cs c_cs)), .sl 4 ((listC n_ls mkLnk c_ls).length) (lnksC (listC n_ls mkLnk c_ls))])], ?_, Nat.le_of_ble_eq_true (by kernel_rfl), ?_, ?_⟩
  ·simp only [List.mem_cons, List.not_mem_nil, or_false] at hx
   rcases hx with rfl | rfl
   ·exact txg_plain _
   ·trivial
  ·exact (LeA_cons (leT_a (LeCs.cons ((leL_str hp0)) (LeCs.cons ((leL_Lnk hp1)) LeCs.nil))) LeA_nil)
  ·rw [ev_ref01_CopyNet_b]; exact spec_ref01_CopyNet_b (txOf n_cs c_cs) (listC n_ls mkLnk c_ls) hp
  ·rw [lp_ref01_CopyNet_b]; trivial
 ·cases h
def Sl0120 : Sum := addF Sck119 38 con_ref01_CopyNet_b
theorem VSl0120 : Valid Try.prog Sl0120 := Valid.addF VSck119 ok_ref01_CopyNet_b
def con_clock_ContradictingIn_f : Con := fun args => match args with
 | [.t (.a [.sl 1 n_cs c_cs, .sl 4 n_ls c_ls])] => some (.tu [.c .any, .c (.v (.int .i64 (cnE (txOf n_cs c_cs) (listC n_ls mkLnk c_ls))))], some (txP n_cs c_cs ∧ numsP 4 n_ls c_ls ∧ (∀ k, k < ((txOf n_cs c_cs)).length → (txAt (txOf n_cs c_cs) k).size ≤ 1000000)), false)
 | _ => none
theorem ok_clock_ContradictingIn_f : Ok Try.prog 70 con_clock_ContradictingIn_f := by
 intro args r pre fresh h hp
 unfold con_clock_ContradictingIn_f at h
 split at h
 ·rename_i n_cs c_cs n_ls c_ls
  cases h
  have q := ok_clock_ContradictingIn [.t (.a [.sl 1 n_cs c_cs, .sl 4 n_ls c_ls])] _ _ _ rfl hp
  refine ⟨q.1, fun W N vs hG hv => (q.2 W N vs hG hv).mono ?_⟩
  rintro e w' ⟨v, rfl, hr, hb⟩
  obtain ⟨vs, rfl, g⟩ := hr
  obtain ⟨u0, us, rfl, g0, g⟩ := g.cons_inv
  exact ⟨_, rfl, ⟨_, rfl, RelF.one g0, g⟩, hb⟩
 ·cases h
def Sl0121 : Sum := addF Sl0120 70 con_clock_ContradictingIn_f
theorem VSl0121 : Valid Try.prog Sl0121 := Valid.addF VSl0120 ok_clock_ContradictingIn_f
end Go.Proofs.Ytkifmfmenobhnaa