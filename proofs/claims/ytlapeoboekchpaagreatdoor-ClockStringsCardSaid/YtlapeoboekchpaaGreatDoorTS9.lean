/- Texts of this claim, together. -/
import Derived.Test.YtlapeoboekchpaaGreatDoorTS8
import Derived.Test.YtlapeoboekchpaaGreatDoorTS6
import Derived.Laws.IdiomStrings
import Derived.Laws.StructEq
import Derived.Test.YtlapeoboekchpaaGreatDoorTS5

set_option linter.unusedVariables false
set_option linter.unusedSimpArgs false
namespace Go.Proofs.YtlapeoboekchpaaGreatDoor
open Go.RowKit Ev
theorem in_within (W : World) (hG : Gd W) (a b c : Int) : Calls Tryz.prog 67 #[.int .i64 a, .int .i64 b, .int .i64 c] W fun e w' => e = .returned (.bool (inB a b c)) ∧ Below W.heap.size W w' := by
 refine ((ok_clock_within [.t (.c (.v (.int .i64 a))), .t (.c (.v (.int .i64 b))), .t (.c (.v (.int .i64 c)))] _ _ _ rfl trivial).2 W (fun _ => True) _ hG (show All2 (RelD (RelF W (fun _ => True))) _ [.int .i64 a, .int .i64 b, .int .i64 c] from ⟨⟨rfl, rfl⟩, ⟨rfl, rfl⟩, ⟨rfl, rfl⟩, trivial⟩)).mono ?_
 rintro e w' ⟨x, rfl, hr, hbl⟩
 obtain ⟨rfl, _⟩ := hr
 exact ⟨rfl, hbl⟩
def lowB8 (c : Int) : Int := wrap64 (bits BinOp.or IntKind.u8 c 32)
def chB (i : Nat) (c : Int) : Bool := inB (lowB8 c) 97 122 || (decide (i ≠ 0) && (decide (c = 45) || inB (wrap64 c) 48 57))
def byI (s : ByteArray) (j : Nat) : Int := if h : j < s.data.size then (s.data[j].toNat : Int) else 0
def nameB (s : ByteArray) : Bool := (List.range s.size).all (fun j => chB j (byI s j)) && inB s.size 1 12
theorem name_false {s : ByteArray} {k : Nat} (hk : k < s.size) (h : chB k (byI s k) = false) : nameB s = false := by
 unfold nameB
 have : (List.range s.size).all (fun j => chB j (byI s j)) = false := by
  rw [Bool.eq_false_iff]
  intro q
  have := List.all_eq_true.1 q k (List.mem_range.2 hk)
  rw [h] at this
  cases this
 rw [this]; rfl
theorem ch_next {s : ByteArray} {k : Nat} (h : ∀ j, j < k → chB j (byI s j) = true) (g : chB k (byI s k) = true) : ∀ j, j < k + 1 → chB j (byI s j) = true := fun j hj => by
 by_cases e : j = k
 ·rw [e]; exact g
 ·exact h j (by omega)
set_option maxRecDepth 100000 in
set_option maxHeartbeats 2000000 in
theorem walk_isName (w : World) (hG : Gd w) (s : ByteArray) (hs : s.size ≤ 1000000) :
  Calls Tryz.prog 124 #[.string s] w fun e w' => e = .returned (.bool (nameB s)) ∧ Below w.heap.size w w' := by
 have hcv := run_bytes_of_string (P := Tryz.prog) w 9 155 5 s Tryz.underlying9 Tryz.underlying155 Tryz.underlying5
 obtain ⟨W0, hW0⟩ : ∃ W0, W0 = w.drew.alloc (.cells (bytesRow s (grownCap w s.size 0 5)) 5 ((bytesRow s (grownCap w s.size 0 5)).size, (bytesRow s (grownCap w s.size 0 5)).size + 1)) := ⟨_, rfl⟩
 have HB0 : Hid (Below w.heap.size w W0) := hid (by rw [hW0]; exact (Below.refl _ _).drew.alloc (Nat.le_refl _) _)
 have HC : Hid (∀ j, j < s.size → W0.cell? ⟨w.heap.size, j, none⟩ = some (.int .u8 (byI s j))) := hid fun j hj => by
  have hj' : j < s.data.size := hj
  have hh : W0.heap[w.heap.size]? = some (.cells (bytesRow s (grownCap w s.size 0 5)) 5 ((bytesRow s (grownCap w s.size 0 5)).size, (bytesRow s (grownCap w s.size 0 5)).size + 1)) := by
   rw [hW0]; exact World.alloc_heap_new w.drew _
  rw [cell_of_row W0 w.heap.size j _ _ _ hh]
  have := bytesRow_at s (grownCap w s.size 0 5) j hj'
  rw [this]
  unfold byI
  rw [dif_pos hj']
 have HZ : Hid (w.heap.size < W0.heap.size) := hid (by
  have hh : W0.heap[w.heap.size]? = some (.cells (bytesRow s (grownCap w s.size 0 5)) 5 ((bytesRow s (grownCap w s.size 0 5)).size, (bytesRow s (grownCap w s.size 0 5)).size + 1)) := by
   rw [hW0]; exact World.alloc_heap_new w.drew _
  exact (Array.getElem?_eq_some_iff.1 hh).1)
 obtain ⟨cp, hcp⟩ : ∃ cp, cp = grownCap w s.size 0 5 := ⟨_, rfl⟩
 rw [← hW0, ← hcp] at hcv
 clear hW0 hcp
 have HWi : Hid (∀ (W : World) (a b c : Int), Below W0.heap.size W0 W → Calls Tryz.prog 67 #[.int .i64 a, .int .i64 b, .int .i64 c] W fun e w' => e = .returned (.bool (inB a b c)) ∧ Hid (Below W0.heap.size W0 w')) := hid fun W a b c hb => (in_within W ((hG.below HB0.out).below hb) a b c).mono fun e w' h => ⟨h.1, hid (hb.trans (h.2.mono hb.size))⟩
 clear hG
 go_enter Tryz.func124, Tryz.ntmps124
 go_wp2_with fail
 clear hcv
 go_loopw [9] (fun i wr => ∃ k : Nat, k ≤ s.size ∧ i = .int .i64 k ∧ Below W0.heap.size W0 wr ∧ Hid (∀ j, j < k → chB j (byI s j) = true)) (fun i _ => s.size - (intOf i).toNat)
 case atStart => exact ⟨0, Nat.zero_le _, rfl, Below.refl _ _, hid fun j hj => absurd hj (Nat.not_lt_zero _)⟩
 case round =>
  obtain ⟨k, hk, rfl, hB, HQ⟩ := hrel
  have HB := hid hB
  by_cases hlt : k < s.size
  ·have c0 : wr.cell? ⟨w.heap.size, k, none⟩ = some (.int .u8 (byI s k)) := by
    obtain ⟨hcb, _⟩ := bcell hB
    rw [hcb _ _ HZ.out]; exact HC.out k hlt
   obtain ⟨c, hc⟩ : ∃ c, c = byI s k := ⟨_, rfl⟩
   have HCc := hid hc
   rw [← hc] at c0
   clear hc hB
   go_wp2_with fail
   have HCH : Hid (chB k c = (inB (lowB8 c) 97 122 || (decide (k ≠ 0) && (decide (c = 45) || inB (wrap64 c) 48 57)))) := hid rfl
   obtain ⟨bb, hbb⟩ : ∃ bb, bb = bits BinOp.or IntKind.u8 c 32 := ⟨_, rfl⟩
   rw [← hbb]
   obtain ⟨v, hv⟩ : ∃ v, v = wrap64 bb := ⟨_, rfl⟩
   have HV : Hid (v = lowB8 c) := hid (by rw [hv, hbb]; rfl)
   rw [← hv]
   clear hv hbb
   refine (HWi.out _ _ _ _ HB.out).mono ?_
   rintro _ w3 ⟨rfl, H3⟩
   obtain ⟨b1, hb1⟩ : ∃ b1, b1 = inB v 97 122 := ⟨_, rfl⟩
   have HB1 := hid hb1
   rw [← hb1]
   clear hb1
   have EQ : Hid (∀ b, chB k c = b → chB k (byI s k) = b) := hid fun b h => by rw [← HCc.out]; exact h
   cases b1 with
   | true =>
    go_wp2_with fail
    go_roundw
    case rel => exact ⟨k + 1, by omega, by go_num, H3.out, hid (ch_next HQ.out (EQ.out _ (by rw [HCH.out, ← HV.out, ← HB1.out]; rfl)))⟩
    case measure => simp [intOf]; omega
   | false =>
    by_cases hk0 : k = 0
    ·have HK0 := hid hk0
     subst hk0
     go_wp2_with fail
     ((try simp only [Exit.inBlock, Exit.then]); refine bodyPost_ret (v := .bool false) ?_ rfl ?_; (next => simp [results, Tryz.results124, go_sem]))
     exact ⟨by rw [name_false hlt (EQ.out _ (by rw [HCH.out, ← HV.out, ← HB1.out]; rfl))], HB0.out.trans (H3.out.mono (Nat.le_of_lt HZ.out))⟩
    ·by_cases h45 : c = 45
     ·go_wp2_with fail
      go_roundw
      case rel => exact ⟨k + 1, by omega, by go_num, H3.out, hid (ch_next HQ.out (EQ.out _ (by rw [HCH.out, decide_eq_true hk0, decide_eq_true h45, Bool.true_or, Bool.and_true, Bool.or_true])))⟩
      case measure => simp [intOf]; omega
     ·have hk1 : ((k : Int) == 0) = false := by simp; omega
      have hc1 : (c != 45) = true := by simp [h45]
      go_wp2_with fail
      obtain ⟨u, hu⟩ : ∃ u, u = wrap64 c := ⟨_, rfl⟩
      have HU := hid hu
      rw [← hu]
      clear hu
      refine (HWi.out _ _ _ _ H3.out).mono ?_
      rintro _ w4 ⟨rfl, H4⟩
      obtain ⟨b2, hb2⟩ : ∃ b2, b2 = inB u 48 57 := ⟨_, rfl⟩
      have HB2 := hid hb2
      rw [← hb2]
      clear hb2
      cases b2 with
      | true =>
       go_wp2_with fail
       go_roundw
       case rel => exact ⟨k + 1, by omega, by go_num, H4.out, hid (ch_next HQ.out (EQ.out _ (by rw [HCH.out, ← HU.out, ← HB2.out, decide_eq_true hk0, Bool.or_true, Bool.and_true, Bool.or_true])))⟩
       case measure => simp [intOf]; omega
      | false =>
       go_wp2_with fail
       ((try simp only [Exit.inBlock, Exit.then]); refine bodyPost_ret (v := .bool false) ?_ rfl ?_; (next => simp [results, Tryz.results124, go_sem]))
       exact ⟨by rw [name_false hlt (EQ.out _ (by rw [HCH.out, ← HV.out, ← HB1.out, ← HU.out, ← HB2.out, decide_eq_false h45, Bool.or_false, Bool.and_false]; rfl))], HB0.out.trans (H4.out.mono (Nat.le_of_lt HZ.out))⟩
  ·have e : k = s.size := by omega
   subst e
   have hc1 : (List.range s.size).all (fun j => chB j (byI s j)) = true := List.all_eq_true.2 fun j hj => HQ.out j (List.mem_range.1 hj)
   have HN : Hid (nameB s = inB s.size 1 12) := hid (by unfold nameB; rw [hc1]; rfl)
   clear hc1 hB hlt
   go_wp2_with (go_at_call 67; refine (HWi.out _ _ _ _ HB.out).mono ?_; rintro _ w3 ⟨rfl, H3⟩)
   ((try simp only [Exit.inBlock, Exit.then]); refine bodyPost_ret (v := .bool (inB s.size 1 12)) ?_ rfl ?_; (next => simp [results, Tryz.results124, go_sem]))
   exact ⟨by rw [HN.out], HB0.out.trans (H3.out.mono (Nat.le_of_lt HZ.out))⟩
end Go.Proofs.YtlapeoboekchpaaGreatDoor
set_option linter.unusedVariables false
set_option linter.unusedSimpArgs false
namespace Go.Proofs.YtlapeoboekchpaaGreatDoor
open Go.RowKit Ev
theorem low_all : ((List.range 256).all fun n : Nat => inB (lowB8 (n : Int)) 97 122 == (inB (n : Int) 97 122 || inB (n : Int) 65 90)) = true := by kernel_rfl
theorem low_byte {c : Int} (h : 0 ≤ c ∧ c < 256) : inB (lowB8 c) 97 122 = (inB c 97 122 || inB c 65 90) := by
 obtain ⟨n, rfl⟩ : ∃ n : Nat, c = n := ⟨c.toNat, by omega⟩
 have := List.all_eq_true.1 low_all n (List.mem_range.2 (by omega))
 simpa using this
theorem byI_rg (s : ByteArray) (j : Nat) : 0 ≤ byI s j ∧ byI s j < 256 := by
 unfold byI
 split
 ·rename_i h
  have := UInt8.toNat_lt s.data[j]
  omega
 ·omega
def chR (i : Nat) (c : Int) : Bool := (inB c 97 122 || inB c 65 90) || (decide (i ≠ 0) && (decide (c = 45) || inB c 48 57))
theorem chB_R {i : Nat} {c : Int} (h : 0 ≤ c ∧ c < 256) : chB i c = chR i c := by
 unfold chB chR
 rw [low_byte h, show wrap64 c = c from IntWalk.wrap64_in _ (by omega)]
end Go.Proofs.YtlapeoboekchpaaGreatDoor
set_option linter.unusedVariables false
set_option linter.unusedSimpArgs false
namespace Go.Proofs.YtlapeoboekchpaaGreatDoor
open Go.RowKit Ev
def chP (i : Nat) (c : Int) : Prop := (97 ≤ c ∧ c ≤ 122) ∨ (65 ≤ c ∧ c ≤ 90) ∨ (i ≠ 0 ∧ (c = 45 ∨ (48 ≤ c ∧ c ≤ 57)))
theorem chB_P {s : ByteArray} {j : Nat} : chB j (byI s j) = true ↔ chP j (byI s j) := by
 rw [chB_R (byI_rg s j)]
 unfold chR chP inB
 simp [or_assoc]
theorem chB_F {s : ByteArray} {j : Nat} (h : ¬ chP j (byI s j)) : chB j (byI s j) = false := Bool.eq_false_iff.2 fun q => h (chB_P.1 q)
theorem byI_at {s : ByteArray} {j : Nat} (h : j < s.size) : byI s j = ((s[j]'h).toNat : Int) := by
 have h' : j < s.data.size := h
 unfold byI
 rw [dif_pos h']; rfl
set_option maxRecDepth 100000 in
set_option maxHeartbeats 2000000 in
theorem walk_IsName (w : World) (s : ByteArray) (hs : s.size ≤ 1000000) :
  Calls Tryz.prog 98 #[.string s] w fun e w' => e = .returned (.bool (nameB s)) ∧ Below w.heap.size w w' := by
 by_cases hl : 1 ≤ s.size ∧ s.size ≤ 12
 ·have h1 : ¬ (s.size : Int) < 1 := by omega
  have h2 : ¬ (s.size : Int) > 12 := by omega
  have HN : Hid (nameB s = (List.range s.size).all (fun j => chB j (byI s j))) := hid (by
   unfold nameB
   rw [show inB (s.size : Int) 1 12 = true from inB_true.2 (by omega), Bool.and_true])
  go_enter Tryz.func98, Tryz.ntmps98
  go_wp2_with fail
  go_loopw [3] (fun i wr => ∃ k : Nat, k ≤ s.size ∧ i = .int .i64 k ∧ wr = w ∧ Hid (∀ j, j < k → chB j (byI s j) = true)) (fun i _ => s.size - (intOf i).toNat)
  case atStart => exact ⟨0, Nat.zero_le _, rfl, rfl, hid fun j hj => absurd hj (Nat.not_lt_zero _)⟩
  case round =>
   obtain ⟨k, hk, rfl, rfl, HQ⟩ := hrel
   by_cases hlt : k < s.size
   ·have HL := hid hlt
    have HBy := hid (byI_at hlt)
    have HQ2 := HQ
    go_wp2_with fail
    all_goals first
     | (((try simp only [Exit.inBlock, Exit.then]); refine bodyPost_ret (v := .bool false) ?_ rfl ?_; (next => simp [results, Tryz.results98, go_sem])); exact ⟨by rw [name_false HL.out (chB_F (by rw [HBy.out]; unfold chP; intro q; omega))], Below.refl _ _⟩)
     | (go_roundw; (case rel => exact ⟨k + 1, by omega, by go_num, by trivial, hid (ch_next HQ2.out (chB_P.2 (by rw [HBy.out]; unfold chP; omega)))⟩); (case measure => simp [intOf]; omega))
     | (simp only [beq_eq_false_iff_ne, bne_eq_false_iff_eq, beq_iff_eq, bne_iff_ne, ne_eq] at *; (((try simp only [Exit.inBlock, Exit.then]); refine bodyPost_ret (v := .bool false) ?_ rfl ?_; (next => simp [results, Tryz.results98, go_sem])); exact ⟨by rw [name_false HL.out (chB_F (by rw [HBy.out]; unfold chP; intro q; omega))], Below.refl _ _⟩))
     | (simp only [beq_eq_false_iff_ne, bne_eq_false_iff_eq, beq_iff_eq, bne_iff_ne, ne_eq] at *; (go_roundw; (case rel => exact ⟨k + 1, by omega, by go_num, by trivial, hid (ch_next HQ2.out (chB_P.2 (by rw [HBy.out]; unfold chP; omega)))⟩); (case measure => simp [intOf]; omega)))
     | (exfalso; simp_all; done)
     | (exfalso; simp_all; omega)
     | skip
   ·have e : k = s.size := by omega
    subst e
    have hc1 : (List.range s.size).all (fun j => chB j (byI s j)) = true := List.all_eq_true.2 fun j hj => HQ.out j (List.mem_range.1 hj)
    have HN2 : Hid (nameB s = true) := hid (by rw [HN.out, hc1])
    clear hc1
    go_wp2_with fail
    go_ret
    exact ⟨by rw [HN2.out]; rfl, Below.refl _ _⟩
 ·have HN : Hid (nameB s = false) := hid (by
   unfold nameB
   rw [show inB (s.size : Int) 1 12 = false from Bool.eq_false_iff.2 fun q => hl (by have := inB_true.1 q; omega), Bool.and_false])
  rcases (by omega : s.size < 1 ∨ (1 ≤ s.size ∧ 12 < s.size)) with h1 | ⟨h1, h2⟩
  ·have h1 : (s.size : Int) < 1 := by omega
   go_enter Tryz.func98, Tryz.ntmps98
   go_wp2_with fail
   go_ret
   exact ⟨by rw [HN.out]; rfl, Below.refl _ _⟩
  ·have h1 : ¬ (s.size : Int) < 1 := by omega
   have h2 : (s.size : Int) > 12 := by omega
   go_enter Tryz.func98, Tryz.ntmps98
   go_wp2_with fail
   go_ret
   exact ⟨by rw [HN.out]; rfl, Below.refl _ _⟩
end Go.Proofs.YtlapeoboekchpaaGreatDoor
set_option linter.unusedVariables false
set_option linter.unusedSimpArgs false
namespace Go.Proofs.YtlapeoboekchpaaGreatDoor
open Go.RowKit Ev
def txAt (l : List ByteArray) (i : Nat) : ByteArray := l.getD i ByteArray.empty
instance lawfulBytes : LawfulBEq ByteArray where
 eq_of_beq {a b} h := by
  rw [beq_toListBytes, ByteArray.toList_eq, ByteArray.toList_eq] at h
  exact ByteArray.ext (Array.toList_inj.1 (eq_of_beq h))
 rfl {a} := by rw [beq_toListBytes]; simp
def cvStr : CV → ByteArray
 | .v (.string s) => s
 | _ => ByteArray.empty
def txsC (l : List ByteArray) : Nat → Nat → CV := fun i _ => .v (.string (txAt l i))
def txOf (n : Nat) (c : Nat → Nat → CV) : List ByteArray := (List.range n).map fun i => cvStr (c i 0)
def txP (n : Nat) (c : Nat → Nat → CV) : Prop := ∀ i, i < n → c i 0 = .v (.string (cvStr (c i 0)))
theorem txOf_len {n : Nat} {c : Nat → Nat → CV} : (txOf n c).length = n := by simp [txOf]
theorem txOf_at {n : Nat} {c : Nat → Nat → CV} {i : Nat} (hi : i < n) : txAt (txOf n c) i = cvStr (c i 0) := by simp [txAt, txOf, List.getD, hi]
theorem leSlT {sz n : Nat} {c c' : Nat → Nat → CV} (h : ∀ i j, i < n → j < sz → LeC1 (c i j) (c' i j)) : LeC1 (.sl sz n c) (.sl sz n c') := by
 rintro w N v ⟨ao, cap, h1, h2, h3, h4, h5⟩
 refine ⟨ao, cap, h1, h2, h3, h4, fun h0 => ?_⟩
 obtain ⟨b, off, g1, g2, g3, g4⟩ := h5 h0
 refine ⟨b, off, g1, g2, g3, fun i j hi hj => ?_⟩
 obtain ⟨x, e1, e2⟩ := g4 i j hi hj
 exact ⟨x, e1, h i j hi hj _ _ _ e2⟩
theorem leL_str {n : Nat} {c : Nat → Nat → CV} (hp : txP n c) : LeD (.t (.c (.sl 1 n c))) (.t (.c (.sl 1 (txOf n c).length (txsC (txOf n c))))) := by
 rw [txOf_len]
 refine leT_c (leSlT fun i j hi hj => ?_)
 obtain rfl : j = 0 := by omega
 unfold txsC
 rw [txOf_at hi, ← hp i hi]
 exact LeC1.refl _
theorem plain_str (l : List ByteArray) (i j : Nat) : ∃ y, txsC l i j = .v y := ⟨_, rfl⟩
theorem txP_txs (l : List ByteArray) : txP l.length (txsC l) := fun i hi => rfl
theorem txs_of (l : List ByteArray) : txOf l.length (txsC l) = l := by
 apply List.ext_getElem?
 intro i
 by_cases hi : i < l.length
 ·simp [txOf, txsC, cvStr, txAt, List.getD, hi]
 ·simp [txOf, hi]
theorem txP_part (l : List ByteArray) (lo n : Nat) : txP n (fun i j => txsC l (lo + i) j) := fun i hi => rfl
theorem txs_part (l : List ByteArray) {lo n : Nat} (h : lo + n ≤ l.length) : txOf n (fun i j => txsC l (lo + i) j) = (l.drop lo).take n := by
 apply List.ext_getElem?
 intro i
 by_cases hi : i < n
 ·simp [txOf, txsC, cvStr, txAt, List.getD, hi, List.getElem?_take, show lo + i < l.length by omega]
 ·simp [txOf, hi, List.getElem?_take]
def TxtsAt (w : World) (v : Value) (l : List ByteArray) : Prop := ∃ ao cap, v = .slice ao l.length cap ∧ ∀ k, k < l.length → ∃ b off, ao = some ⟨b, off, none⟩ ∧ b < w.heap.size ∧ w.cell? ⟨b, off + k, none⟩ = some (.string (txAt l k))
theorem at_str {w : World} {N : Nat → Prop} {n : Nat} {c : Nat → Nat → CV} {v : Value} (hp : txP n c) (h : RelF w N (.sl 1 n c) v) : TxtsAt w v (txOf n c) := by
 obtain ⟨ao, cap, rfl, hcap, hmx, hnil, hcells⟩ := h
 refine ⟨ao, cap, by rw [txOf_len], fun k hk => ?_⟩
 rw [txOf_len] at hk
 obtain ⟨b, off, e1, e2, e3, e4⟩ := hcells (by omega)
 obtain ⟨y, y1, y2⟩ := e4 k 0 hk (by omega)
 refine ⟨b, off, e1, e2, ?_⟩
 rw [show off + k = off + k * 1 + 0 by omega, y1, txOf_at hk]
 rw [hp k hk] at y2
 rw [y2.1]
end Go.Proofs.YtlapeoboekchpaaGreatDoor
set_option linter.unusedVariables false
set_option linter.unusedSimpArgs false
namespace Go.Proofs.YtlapeoboekchpaaGreatDoor
open Go.RowKit Ev
theorem has_true {l : List ByteArray} {t : ByteArray} {n k : Nat} (hn : n ≤ l.length) (hk : k < n) (h : txAt l k = t) : (l.take n).contains t = true := by
 rw [List.contains_iff_mem, ← h, List.mem_take_iff_getElem]
 exact ⟨k, by omega, by simp [txAt, List.getD, show k < l.length by omega]⟩
theorem has_false {l : List ByteArray} {t : ByteArray} {n : Nat} (hn : n ≤ l.length) (h : ∀ j, j < n → txAt l j ≠ t) : (l.take n).contains t = false := by
 rw [Bool.eq_false_iff]
 intro q
 rw [List.contains_iff_mem, List.mem_take_iff_getElem] at q
 obtain ⟨k, hk, e⟩ := q
 exact h k (by omega) (by rw [← e]; simp [txAt, List.getD, show k < l.length by omega])
set_option maxRecDepth 100000 in
set_option maxHeartbeats 2000000 in
theorem walk_HasText (w : World) (l : List ByteArray) (t : ByteArray) (ao : Option Addr) (cap n : Nat) (hn : n ≤ l.length) (hl : l.length ≤ 1000000)
  (hc : ∀ k, k < n → ∃ b off, ao = some ⟨b, off, none⟩ ∧ b < w.heap.size ∧ w.cell? ⟨b, off + k, none⟩ = some (.string (txAt l k))) :
  Calls Tryz.prog 25 #[.slice ao n cap, .string t] w fun e w' => e = .returned (.bool ((l.take n).contains t)) ∧ Below w.heap.size w w' := by
 have H3 := hid hc
 clear hc
 go_enter Tryz.func25, Tryz.ntmps25
 go_wp2_with fail
 go_loopw [5] (fun i wr => ∃ k : Nat, k ≤ n ∧ i = .int .i64 k ∧ wr = w ∧ Hid (∀ j, j < k → txAt l j ≠ t)) (fun i _ => n - (intOf i).toNat)
 case atStart => exact ⟨0, Nat.zero_le _, rfl, rfl, hid fun j hj => absurd hj (Nat.not_lt_zero _)⟩
 case round =>
  obtain ⟨k, hk, rfl, rfl, HQ⟩ := hrel
  by_cases hlt : k < n
  ·obtain ⟨b, off, rfl, hb0, c0⟩ := H3.out k hlt
   obtain ⟨x, hx⟩ : ∃ x, x = txAt l k := ⟨_, rfl⟩
   rw [← hx] at c0
   have HX := hid hx
   clear hx
   have HL := hid hlt
   by_cases he : x = t
   ·have HE := hid he
    go_wp2_with fail
    ((try simp only [Exit.inBlock, Exit.then]); refine bodyPost_ret (v := .bool true) ?_ rfl ?_; (next => simp [results, Tryz.results25, go_sem]))
    exact ⟨by rw [has_true hn HL.out (HX.out.symm.trans HE.out)], Below.refl _ _⟩
   ·have hbq : (x.toList == t.toList) = false := by rw [← beq_toListBytes]; exact beq_eq_false_iff_ne.2 he
    have HE := hid he
    go_wp2_with fail
    go_roundw
    case rel => exact ⟨k + 1, by omega, by go_num, by trivial, hid fun j hj => by
     by_cases e : j = k
     ·rw [e, ← HX.out]; exact HE.out
     ·exact HQ.out j (by omega)⟩
    case measure => simp [intOf]; omega
  ·have e : k = n := by omega
   subst e
   go_wp2_with fail
   ((try simp only [Exit.inBlock, Exit.then]); refine bodyPost_ret (v := .bool false) ?_ rfl ?_; (next => simp [results, Tryz.results25, go_sem]))
   exact ⟨by rw [has_false hn HQ.out], Below.refl _ _⟩
end Go.Proofs.YtlapeoboekchpaaGreatDoor
set_option linter.unusedVariables false
set_option linter.unusedSimpArgs false
namespace Go.Proofs.YtlapeoboekchpaaGreatDoor
open Go.RowKit Ev
set_option maxRecDepth 100000 in
set_option maxHeartbeats 2000000 in
theorem walk_IndexT (w : World) (l : List ByteArray) (t : ByteArray) (ao : Option Addr) (cap n : Nat) (hn : n ≤ l.length) (hl : l.length ≤ 1000000)
  (hc : ∀ k, k < n → ∃ b off, ao = some ⟨b, off, none⟩ ∧ b < w.heap.size ∧ w.cell? ⟨b, off + k, none⟩ = some (.string (txAt l k))) :
  Calls Tryz.prog 160 #[.slice ao n cap, .string t] w fun e w' => (∃ i : Int, e = .returned (.int .i64 i) ∧ ((0 ≤ i) ↔ (l.take n).contains t = true)) ∧ Below w.heap.size w w' := by
 have H3 := hid hc
 clear hc
 go_enter Tryz.func160, Tryz.ntmps160
 go_wp2_with fail
 go_loopw [8] (fun i wr => ∃ k : Nat, k ≤ n ∧ i = .int .i64 k ∧ wr = w ∧ Hid (∀ j, j < k → txAt l j ≠ t)) (fun i _ => n - (intOf i).toNat)
 case atStart => exact ⟨0, Nat.zero_le _, rfl, rfl, hid fun j hj => absurd hj (Nat.not_lt_zero _)⟩
 case round =>
  obtain ⟨k, hk, rfl, rfl, HQ⟩ := hrel
  by_cases hlt : k < n
  ·obtain ⟨b, off, rfl, hb0, c0⟩ := H3.out k hlt
   obtain ⟨x, hx⟩ : ∃ x, x = txAt l k := ⟨_, rfl⟩
   rw [← hx] at c0
   have HX := hid hx
   clear hx
   have HL := hid hlt
   by_cases he : x = t
   ·have HE := hid he
    go_wp2_with fail
    ((try simp only [Exit.inBlock, Exit.then]); refine bodyPost_ret (v := .int .i64 k) ?_ rfl ?_; (next => simp [results, Tryz.results160, go_sem]))
    exact ⟨⟨k, rfl, by rw [has_true hn HL.out (HX.out.symm.trans HE.out)]; simp⟩, Below.refl _ _⟩
   ·have hbq : (t.toList == x.toList) = false := by rw [← beq_toListBytes]; exact beq_eq_false_iff_ne.2 (fun q => he q.symm)
    have HE := hid he
    go_wp2_with fail
    go_roundw
    case rel => exact ⟨k + 1, by omega, by go_num, by trivial, hid fun j hj => by
     by_cases e : j = k
     ·rw [e, ← HX.out]; exact HE.out
     ·exact HQ.out j (by omega)⟩
    case measure => simp [intOf]; omega
  ·have e : k = n := by omega
   subst e
   go_wp2_with fail
   ((try simp only [Exit.inBlock, Exit.then]); refine bodyPost_ret (v := .int .i64 (-1)) ?_ rfl ?_; (next => simp [results, Tryz.results160, go_sem]))
   exact ⟨⟨-1, rfl, by rw [has_false hn HQ.out]; simp⟩, Below.refl _ _⟩
set_option maxRecDepth 100000 in
theorem walk_ContainsT (w : World) (l : List ByteArray) (t : ByteArray) (ao : Option Addr) (cap n : Nat) (hn : n ≤ l.length) (hl : l.length ≤ 1000000)
  (hc : ∀ k, k < n → ∃ b off, ao = some ⟨b, off, none⟩ ∧ b < w.heap.size ∧ w.cell? ⟨b, off + k, none⟩ = some (.string (txAt l k))) :
  Calls Tryz.prog 125 #[.slice ao n cap, .string t] w fun e w' => e = .returned (.bool ((l.take n).contains t)) ∧ Below w.heap.size w w' := by
 have HI := hid (walk_IndexT w l t ao cap n hn hl hc)
 clear hc
 go_enter Tryz.func125, Tryz.ntmps125
 go_wp2_with (go_at_call 160; refine HI.out.mono ?_; rintro _ w3 ⟨⟨i, rfl, hi⟩, hb3⟩; have HB3 := hid hb3; have HII := hid hi; clear hb3 hi)
 ((try simp only [Exit.inBlock, Exit.then]); refine bodyPost_ret (v := .bool (decide (0 ≤ i))) ?_ rfl ?_; (next => simp [results, Tryz.results125, go_sem]))
 exact ⟨by rw [show decide (0 ≤ i) = (l.take n).contains t by rw [Bool.eq_iff_iff, decide_eq_true_eq]; exact HII.out], HB3.out⟩
end Go.Proofs.YtlapeoboekchpaaGreatDoor
set_option linter.unusedVariables false
set_option linter.unusedSimpArgs false
namespace Go.Proofs.YtlapeoboekchpaaGreatDoor
open Go.RowKit Ev
end Go.Proofs.YtlapeoboekchpaaGreatDoor
set_option linter.unusedVariables false
set_option linter.unusedSimpArgs false
namespace Go.Proofs.YtlapeoboekchpaaGreatDoor
open Go.RowKit Ev
theorem infoSl : (Tryz.prog.info? 46).map (fun i => (i.zero, i.size, i.bytes)) = some (some (.slice none 0 0), 1, 24) := by kernel_rfl
def topM (N n c : Nat) : Nat → Value := fun j => if j < c then .slice (some ⟨N + 2 + 2 * j, 0, none⟩) n n else .slice none 0 0
structure Mat (N : Nat) (w : World) (n c : Nat) (f : Nat → Nat → Int) : Prop where
 top : w.rowIs N 46 n (topM N n c)
 row : ∀ i, i < c → w.rowIs (N + 2 + 2 * i) 3 n (fun j => .int .i64 (f i j))
theorem Mat.cell_top {N : Nat} {w : World} {n c : Nat} {f : Nat → Nat → Int} (h : Mat N w n c f) {i : Nat} (hi : i < c) (hn : i < n) : w.cell? ⟨N, i, none⟩ = some (.slice (some ⟨N + 2 + 2 * i, 0, none⟩) n n) := by
 rw [h.top.cell hn]; simp [topM, hi]
theorem Mat.cell_row {N : Nat} {w : World} {n c : Nat} {f : Nat → Nat → Int} (h : Mat N w n c f) {i j : Nat} (hi : i < c) (hj : j < n) : w.cell? ⟨N + 2 + 2 * i, j, none⟩ = some (.int .i64 (f i j)) := (h.row i hi).cell hj
def updI (f : Nat → Nat → Int) (i j : Nat) (v : Int) : Nat → Nat → Int := fun x y => if x = i ∧ y = j then v else f x y
theorem Mat.set {N : Nat} {w : World} {n c : Nat} {f : Nat → Nat → Int} (h : Mat N w n c f) (i j : Nat) (v : Int) : Mat N (w.setCell ⟨N + 2 + 2 * i, j, none⟩ (.int .i64 v)) n c (updI f i j v) := by
 refine ⟨h.top.setOther (by show N ≠ N + 2 + 2 * i; omega) _, fun k hk => ?_⟩
 by_cases e : k = i
 ·subst e
  refine ((h.row k hk).set j _).congr fun q hq => ?_
  unfold updI
  by_cases e2 : q = j
  ·rw [if_pos e2, if_pos ⟨rfl, e2⟩]
  ·rw [if_neg e2, if_neg (fun g => e2 g.2)]
 ·refine ((h.row k hk).setOther (by show N + 2 + 2 * k ≠ N + 2 + 2 * i; omega) _).congr fun q hq => ?_
  unfold updI
  rw [if_neg (fun g => e g.1)]
theorem Mat.below {N B : Nat} {w w' : World} {n c : Nat} {f : Nat → Nat → Int} (h : Mat N w n c f) (hb : Below B w w') (hN : N < B) (hB : ∀ i, i < c → N + 2 + 2 * i < B) : Mat N w' n c f :=
 ⟨h.top.of_block (hb.block N hN), fun i hi => (h.row i hi).of_block (hb.block _ (hB i hi))⟩
theorem Mat.lt {N : Nat} {w : World} {n c : Nat} {f : Nat → Nat → Int} (h : Mat N w n c f) : N < w.heap.size ∧ ∀ i, i < c → N + 2 + 2 * i < w.heap.size := ⟨h.top.lt, fun i hi => (h.row i hi).lt⟩
theorem Mat.keep {N : Nat} {w w' : World} {n c : Nat} {f : Nat → Nat → Int} (h : Mat N w n c f) (hb : Below w.heap.size w w') : Mat N w' n c f := h.below hb h.lt.1 h.lt.2
theorem Mat.more {N : Nat} {w : World} {n c : Nat} {f : Nat → Nat → Int} (h : Mat N w n c f) {x : Int} (hr : w.rowIs (N + 2 + 2 * c) 3 n (fun _ => .int .i64 x)) :
  Mat N (w.setCell ⟨N, c, none⟩ (.slice (some ⟨N + 2 + 2 * c, 0, none⟩) n n)) n (c + 1) (fun i j => if i = c then x else f i j) := by
 refine ⟨(h.top.set c _).congr fun j hj => ?_, fun k hk => ?_⟩
 ·unfold topM
  by_cases e : j = c
  ·rw [if_pos e, if_pos (by omega), e]
  ·rw [if_neg e]
   by_cases g : j < c
   ·rw [if_pos g, if_pos (by omega)]
   ·rw [if_neg g, if_neg (by omega)]
 ·by_cases e : k = c
  ·subst e
   exact (hr.setOther (by show N + 2 + 2 * k ≠ N; omega) _).congr fun q hq => by rw [if_pos rfl]
  ·exact ((h.row k (by omega)).setOther (by show N + 2 + 2 * k ≠ N; omega) _).congr fun q hq => by rw [if_neg e]
theorem RepAt.row {w w' : World} {x : Int} {n : Nat} (h : RepAt w w' (.int .i64 x) (.int .i64 0) n n) : w'.rowIs w.heap.size 3 n (fun _ => .int .i64 x) := by
 have h1 := h.1
 rw [Nat.sub_self, List.replicate_zero, List.append_nil] at h1
 refine ⟨_, h1, by simp, fun i hi => by simp [hi]⟩
theorem Mat.congr {N : Nat} {w : World} {n c : Nat} {f g : Nat → Nat → Int} (h : Mat N w n c f) (e : ∀ i j, i < c → j < n → f i j = g i j) : Mat N w n c g :=
 ⟨h.top, fun i hi => (h.row i hi).congr fun j hj => by rw [e i j hi hj]⟩
theorem Mat.drew {N : Nat} {w : World} {n c : Nat} {f : Nat → Nat → Int} (h : Mat N w n c f) : Mat N w.drew n c f := ⟨h.top.drew, fun i hi => (h.row i hi).drew⟩
def far : Int := 1152921504606846976
def initM (i j : Nat) : Int := if i = j then 0 else far
theorem Mat.lay {N : Nat} {w w2 : World} {n c : Nat} (h : Mat N w n c initM) (hs : w.heap.size = N + 1 + 2 * c) (hc : c < n) {e : TypeId} (hr : RepAt (w.alloc (.cells #[.int .i64 far] e)) w2 (.int .i64 far) (.int .i64 0) n n) :
  Mat N ((w2.setCell ⟨N, c, none⟩ (.slice (some ⟨N + 2 + 2 * c, 0, none⟩) n n)).setCell ⟨N + 2 + 2 * c, c, none⟩ (.int .i64 0)) n (c + 1) initM ∧ w2.heap.size = N + 1 + 2 * (c + 1) ∧ Below N w w2 := by
 have hz : (w.alloc (.cells #[.int .i64 far] e)).heap.size = N + 2 + 2 * c := by simp [hs]; omega
 have hR := hr.row
 have h2 := hr.2.1
 have hb := hr.2.2
 rw [hz] at hR h2 hb
 have hb1 : Below (N + 1 + 2 * c) w (w.alloc (.cells #[.int .i64 far] e)) := Below.alloc (Below.refl _ _) (by omega) _
 have hb2 : Below (N + 1 + 2 * c) w w2 := hb1.trans (hb.mono (by omega))
 have hm := h.below hb2 (by omega) (fun i hi => by omega)
 refine ⟨((hm.more hR).set c c 0).congr fun i j hi hj => ?_, by omega, hb2.mono (by omega)⟩
 unfold updI initM
 by_cases e : i = c
 ·subst e
  by_cases e2 : j = i
  ·rw [if_pos ⟨rfl, e2⟩, if_pos e2.symm]
  ·rw [if_neg (fun g => e2 g.2)]
   show (if i = i then far else _) = _
   rw [if_pos rfl, if_neg (fun g => e2 g.symm)]
 ·rw [if_neg (fun g => e g.1)]
  show (if i = c then far else _) = _
  rw [if_neg e]
structure Lnk where
 (frm «to» lo hi : Int)
def lnkAt (l : List Lnk) (i : Nat) : Lnk := l.getD i ⟨0, 0, 0, 0⟩
def Lnk.ok (n : Nat) (x : Lnk) : Prop := (0 ≤ x.frm ∧ x.frm < n) ∧ (0 ≤ x.to ∧ x.to < n) ∧ x.frm ≠ x.to ∧ -1000000000 ≤ x.lo ∧ x.lo ≤ x.hi ∧ x.hi ≤ 1000000000
def lnkF (f : Nat → Nat → Int) (x : Lnk) : Nat → Nat → Int := updI f x.frm.toNat x.to.toNat (min (f x.frm.toNat x.to.toNat) x.hi)
def lnkG (f : Nat → Nat → Int) (x : Lnk) : Nat → Nat → Int := updI (lnkF f x) x.to.toNat x.frm.toNat (min (lnkF f x x.to.toNat x.frm.toNat) (-x.lo))
def lnkM (l : List Lnk) (k : Nat) : Nat → Nat → Int := (l.take k).foldl lnkG initM
theorem lnkM_succ {l : List Lnk} {k : Nat} (hk : k < l.length) : lnkM l (k + 1) = lnkG (lnkM l k) (lnkAt l k) := by
 unfold lnkM
 rw [List.take_succ_eq_append_getElem hk, List.foldl_append]
 simp [lnkAt, List.getD, hk]
def stepK (f : Nat → Nat → Int) (k i j : Nat) : Nat → Nat → Int := if f i k < far ∧ f k j < far then updI f i j (min (f i j) (f i k + f k j)) else f
def jK (f : Nat → Nat → Int) (k i : Nat) : Nat → Nat → Nat → Int
 | 0 => f
 | j + 1 => stepK (jK f k i j) k i j
def iK (f : Nat → Nat → Int) (n k : Nat) : Nat → Nat → Nat → Int
 | 0 => f
 | i + 1 => jK (iK f n k i) k i n
def kK (f : Nat → Nat → Int) (n : Nat) : Nat → Nat → Nat → Int
 | 0 => f
 | k + 1 => iK (kK f n k) n k n
def lowK (f : Nat → Nat → Int) (n : Nat) : Prop := ∀ k i j x y, k < n → i < n → j ≤ n → x < n → y < n → -1000000000000000000 ≤ jK (iK (kK f n k) n k i) k i j x y
theorem mat_S {N : Nat} {w : World} {n k i j : Nat} {f : Nat → Nat → Int} {v : Int} (h : Mat N w n n f) (h1 : f i k < far) (h2 : f k j < far) (e : v = min (f i j) (f i k + f k j)) : Mat N ((w.setCell ⟨N + 2 + 2 * i, j, none⟩ (.int .i64 v)).drew) n n (stepK f k i j) := by
 have := (h.set i j v).drew
 unfold stepK
 rw [if_pos ⟨h1, h2⟩]
 rw [e] at this ⊢
 exact this
theorem cell_ot {w : World} {B o b i : Nat} {v : Value} (h : b ≠ B) : ((w.setCell ⟨B, o, none⟩ v).drew).cell? ⟨b, i, none⟩ = w.cell? ⟨b, i, none⟩ := by
 show (w.setCell ⟨B, o, none⟩ v).cell? _ = _
 exact World.cell?_setCell_other w _ _ _ (fun e => h (by cases e; rfl))
theorem mat_F {N : Nat} {w : World} {n c a d : Nat} {f : Nat → Nat → Int} {xl xh v : Int} (h : Mat N w n c f) (e : v = min (f a d) xh) : Mat N ((w.setCell ⟨N + 2 + 2 * a, d, none⟩ (.int .i64 v)).drew) n c (lnkF f ⟨a, d, xl, xh⟩) := by
 have := (h.set a d v).drew
 rw [e] at this ⊢
 exact this
theorem mat_G {N : Nat} {w : World} {n c a d : Nat} {f : Nat → Nat → Int} {xl xh v : Int} (h : Mat N w n c (lnkF f ⟨a, d, xl, xh⟩)) (e : v = min (lnkF f ⟨a, d, xl, xh⟩ d a) (-xl)) : Mat N ((w.setCell ⟨N + 2 + 2 * d, a, none⟩ (.int .i64 v)).drew) n c (lnkG f ⟨a, d, xl, xh⟩) := by
 have := (h.set d a v).drew
 rw [e] at this ⊢
 exact this
set_option maxRecDepth 100000 in
set_option maxHeartbeats 2000000 in
theorem walk_bounds (w : World) (n : Nat) (hn : 1 ≤ n ∧ n ≤ 6) (l : List Lnk) (ao : Option Addr) (cap : Nat) (hl : l.length ≤ 12) (hlow : lowK (lnkM l l.length) n) (hok : ∀ k, k < l.length → (lnkAt l k).ok n)
  (hc : ∀ k, k < l.length → ∃ b off, ao = some ⟨b, off, none⟩ ∧ b < w.heap.size ∧ w.cell? ⟨b, off + k * 4, none⟩ = some (.int .i64 (lnkAt l k).frm) ∧ w.cell? ⟨b, off + k * 4 + 1, none⟩ = some (.int .i64 (lnkAt l k).«to») ∧ w.cell? ⟨b, off + k * 4 + 2, none⟩ = some (.int .i64 (lnkAt l k).lo) ∧ w.cell? ⟨b, off + k * 4 + 3, none⟩ = some (.int .i64 (lnkAt l k).hi)) :
  Calls Tryz.prog 69 #[.int .i64 n, .slice ao l.length cap] w fun e w' => Below w.heap.size w w' ∧ (((∃ i, i < n ∧ kK (lnkM l l.length) n n i i < 0) ∧ e = .returned (.tuple #[.slice none 0 0, .bool false])) ∨ ((∀ i, i < n → 0 ≤ kK (lnkM l l.length) n n i i) ∧ e = .returned (.tuple #[.slice (some ⟨w.heap.size, 0, none⟩) n n, .bool true]) ∧ Mat w.heap.size w' n n (kK (lnkM l l.length) n n))) := by
 have H3 := hid hc
 have HK := hid hok
 have HLW := hid hlow
 clear hc hok hlow
 have hmk := run_make_row' (P := Tryz.prog) 131 46 (.slice none 0 0) 24 Tryz.underlying131 infoSl rfl .i64 .i64 n (by omega) (by omega)
 have HRp : Hid (∀ (W : World) (g : Nat), W.cell? ⟨g, 0, none⟩ = some (.int .i64 far) → Calls Tryz.prog 103 #[.slice (some ⟨g, 0, none⟩) 1 1, .int .i64 n] W fun e w' => e = .returned (.slice (some ⟨W.heap.size, 0, none⟩) n n) ∧ RepAt W w' (.int .i64 far) (.int .i64 0) n n) := hid fun W g hg => walk_Repeat far n hn W g hg
 have HM0 : Hid (Mat w.heap.size (w.alloc (.cells (madeCells #[.slice none 0 0] n) 46)) n 0 initM) := hid ⟨(World.rowIs_made w _ n _).congr fun j _ => by simp [topM], fun i hi => absurd hi (Nat.not_lt_zero _)⟩
 have HB0 : Hid (Below w.heap.size w (w.alloc (.cells (madeCells #[.slice none 0 0] n) 46))) := hid (by exact BelowA)
 have HS0 : Hid ((w.alloc (.cells (madeCells #[.slice none 0 0] n) 46)).heap.size = w.heap.size + 1 + 2 * 0) := hid (by simp)
 go_enter Tryz.func69, Tryz.ntmps69
 go_wp2_with fail
 clear hmk
 go_loopw [20] (fun i wr => ∃ c : Nat, c ≤ n ∧ i = .int .i64 c ∧ Mat w.heap.size wr n c initM ∧ wr.heap.size = w.heap.size + 1 + 2 * c ∧ Below w.heap.size w wr) (fun i _ => n - (intOf i).toNat)
 case atStart => exact ⟨0, Nat.zero_le _, rfl, HM0.out, HS0.out, HB0.out⟩
 case round =>
  clear HM0 HB0 HS0
  obtain ⟨c, hc, rfl, hM, hS, hB⟩ := hrel
  by_cases hlt : c < n
  ·have hz : ∀ v, (wr.alloc (.cells #[v] 3)).heap.size = w.heap.size + 2 + 2 * c := fun v => by simp [hS]; omega
   have HL : Hid (∀ w3, RepAt (wr.alloc (.cells #[.int .i64 far] 3)) w3 (.int .i64 far) (.int .i64 0) n n → Mat w.heap.size w3 n c initM ∧ w3.rowIs (w.heap.size + 2 + 2 * c) 3 n (fun _ => .int .i64 far)) := hid fun w3 hr => by
    have hR := hr.row
    have hb := hr.2.2
    rw [hz] at hR hb
    exact ⟨hM.below ((Below.alloc (Below.refl _ _) (by omega) _).trans (hb.mono (by omega))) (show w.heap.size < w.heap.size + 1 + 2 * c by omega) (fun i hi => by omega), hR⟩
   have HF : Hid (∀ w3, RepAt (wr.alloc (.cells #[.int .i64 far] 3)) w3 (.int .i64 far) (.int .i64 0) n n → Mat w.heap.size ((w3.setCell ⟨w.heap.size, c, none⟩ (.slice (some ⟨w.heap.size + 2 + 2 * c, 0, none⟩) n n)).setCell ⟨w.heap.size + 2 + 2 * c, c, none⟩ (.int .i64 0)) n (c + 1) initM ∧ w3.heap.size = w.heap.size + 1 + 2 * (c + 1) ∧ Below w.heap.size wr w3) := hid fun w3 hr => hM.lay hS hlt hr
   have HBW := hid hB
   have HCf : Hid (∀ v, (wr.alloc (.cells #[v] 3)).cell? ⟨w.heap.size + 1 + 2 * c, 0, none⟩ = some v) := hid fun v => by rw [← hS]; simp
   clear hM hB
   go_wp2_with (go_at_call 103; refine (HRp.out _ _ (HCf.out _)).mono ?_; rintro _ w3 ⟨he, hR⟩; rw [hz] at he; subst he; obtain ⟨hM3, hR3⟩ := HL.out w3 hR; obtain ⟨hM4, hS4, hB4⟩ := HF.out w3 hR; have hM4 := hid hM4; have hB4 := hid hB4; have hS4 := hid hS4; have k1 := hM3.top.cell hlt; have k2 := hM3.top.frozen c; have k3 := hR3.cell hlt; have k4 := hR3.frozen c; have k5 : ∀ v, (w3.setCell ⟨w.heap.size, c, none⟩ v).cell? ⟨w.heap.size + 2 + 2 * c, c, none⟩ = some (.int .i64 far) := fun v => (hR3.setOther (by show w.heap.size + 2 + 2 * c ≠ w.heap.size; omega) v).cell hlt; have k6 : ∀ v, (w3.setCell ⟨w.heap.size, c, none⟩ v).frozen? ⟨w.heap.size + 2 + 2 * c, c, none⟩ = false := fun v => (hR3.setOther (by show w.heap.size + 2 + 2 * c ≠ w.heap.size; omega) v).frozen c; clear hM3 hR3 hR)
   go_roundw
   case rel => exact ⟨c + 1, by omega, by go_num, hM4.out, by simp; exact hS4.out, HBW.out.trans ((hB4.out.setCell (Nat.le_refl _) _).setCell (by show w.heap.size ≤ w.heap.size + 2 + 2 * c; omega) _)⟩
   case measure => simp [intOf]; omega
  ·have e : c = n := by omega
   subst e
   have HM := hid hM
   have HBW := hid hB
   clear hM hB hS hlt
   go_wp2_with fail
   go_loopw [38] (fun i wi => ∃ k : Nat, k ≤ l.length ∧ i = .int .i64 k ∧ Mat w.heap.size wi c c (lnkM l k) ∧ Below w.heap.size w wi) (fun i _ => l.length - (intOf i).toNat)
   case atStart => exact ⟨0, Nat.zero_le _, rfl, HM.out, HBW.out⟩
   case round =>
    clear HM HBW
    obtain ⟨k, hk, rfl, hM, hB⟩ := hrel
    by_cases hlt : k < l.length
    ·obtain ⟨b, off, rfl, hb0, c0, c1, c2, c3⟩ := H3.out k hlt
     obtain ⟨hcb, hfb⟩ := bcell hB
     rw [← hcb b _ hb0] at c0 c1 c2 c3
     have hbw : b < wr.heap.size := Nat.lt_of_lt_of_le hb0 hB.size
     have ES := hid (lnkM_succ hlt)
     obtain ⟨⟨o1, o2⟩, ⟨o3, o4⟩, o5, o6, o7, o8⟩ := HK.out k hlt
     obtain ⟨x, hx⟩ : ∃ x, x = lnkAt l k := ⟨_, rfl⟩
     rw [← hx] at c0 c1 c2 c3 o1 o2 o3 o4 o5 o6 o7 o8 ES
     clear hx hcb hfb
     obtain ⟨xa, xb, xl, xh⟩ := x
     simp only at c0 c1 c2 c3 o1 o2 o3 o4 o5 o6 o7 o8
     obtain ⟨a, rfl⟩ : ∃ a : Nat, xa = a := ⟨xa.toNat, by omega⟩
     obtain ⟨d, rfl⟩ : ∃ d : Nat, xb = d := ⟨xb.toNat, by omega⟩
     obtain ⟨f, hf⟩ : ∃ f, f = lnkM l k := ⟨_, rfl⟩
     rw [← hf] at hM ES
     clear hf
     have HM := hid hM
     have HB := hid hB
     clear hM hB
     have hbs : w.heap.size ≤ wr.heap.size := HB.out.size
     have HM1 : Hid (Mat w.heap.size (wr.alloc (.cells #[.int .i64 a, .int .i64 d, .int .i64 xl, .int .i64 xh] 53)) c c f) := hid (HM.out.keep (by exact BelowA))
     have HZ : Hid (∀ i, i < c → w.heap.size + 2 + 2 * i < wr.heap.size) := hid HM.out.lt.2
     have hac : a < c := by omega
     have hdc : d < c := by omega
     go_wp2_with fail
     obtain ⟨W1, hW1⟩ : ∃ W1, W1 = wr.alloc (.cells #[.int .i64 a, .int .i64 d, .int .i64 xl, .int .i64 xh] 53) := ⟨_, rfl⟩
     have r0 : W1.cell? ⟨wr.heap.size, 0, none⟩ = some (.int .i64 a) := by rw [hW1]; simp
     have r1 : W1.cell? ⟨wr.heap.size, 1, none⟩ = some (.int .i64 d) := by rw [hW1]; simp
     have r2 : W1.cell? ⟨wr.heap.size, 2, none⟩ = some (.int .i64 xl) := by rw [hW1]; simp
     have r3 : W1.cell? ⟨wr.heap.size, 3, none⟩ = some (.int .i64 xh) := by rw [hW1]; simp
     have hsz : wr.heap.size < W1.heap.size := by rw [hW1]; simp
     have HBW1 : Hid (Below w.heap.size w W1) := hid (by rw [hW1]; exact HB.out.alloc (by omega) _)
     rw [← hW1] at HM1
     rw [← hW1]
     clear hW1 HB HM c0 c1 c2 c3
     have m1 := HM1.out.cell_top hac hac
     have m2 := HM1.out.cell_row hac hdc
     have q1 := (HM1.out.row a hac).frozen d
     have z1 : w.heap.size < W1.heap.size := HM1.out.lt.1
     have zN : w.heap.size + 2 + 2 * a < wr.heap.size := HZ.out a hac
     have z2 : w.heap.size + 2 + 2 * a < W1.heap.size := HM1.out.lt.2 a hac
     have hw : IntKind.i64.wrap (-xl) = -xl := wi (by omega)
     by_cases hmn : f a d ≤ xh
     ·have tok := trivial
      refine wp_mixC (fun wc => Below (W1.heap.size) W1 wc) 20 [.q [0, 1, 2, 3, 4, 5, 6, 7, 8, 9, 10, 11, 12, 13, 14, 15, 16, 17, 18], .f [19]] [.q [20], .f [21]] (by kernel_rfl) (by kernel_rfl) ((Below.refl _ _).drew) ?_
      intro Q' hQ'
      (rw [wpMixC]; simp only [pick, List.drop_succ_cons, List.drop_zero, List.head?_cons, Option.toList_some, List.cons_append, List.nil_append])
      (repeat (first | go_big_quiet_skip | (go_big_quiet_want; refine quiet_simple rfl ?_; go_big_quiet_op; go_big_quiet_on) | (go_big_quiet_want; refine quiet_cellB (ty := 3) rfl rfl (by kernel_rfl) (by assumption) (by first | omega | (simp; omega)) ?_; simp only [Act.put, List.setIfInBounds_toArray, List.set_cons_succ, List.set_cons_zero]; go_big_quiet_on) | (go_big_quiet_want; refine quiet_cellB (ty := 46) rfl rfl (by kernel_rfl) (by assumption) (by first | omega | (simp; omega)) ?_; simp only [Act.put, List.setIfInBounds_toArray, List.set_cons_succ, List.set_cons_zero]; go_big_quiet_on) | (go_big_quiet_want; refine quiet_min rfl rfl rfl (by first | assumption | rfl | omega) ?_; simp only [Act.put, List.setIfInBounds_toArray, List.set_cons_succ, List.set_cons_zero]; go_big_quiet_on)))
      (try refine wpQuiet_nil ?_)
      (rw [wpMixC]; simp only [pick, List.drop_succ_cons, List.drop_zero, List.head?_cons, Option.toList_some, List.cons_append, List.nil_append])
      (rw [wpSteps]; go_wp2_with (fail); rw [contF]; refine ⟨?_, ?_⟩; (next => exact BelowA))
      (rw [wpSteps])
      (rw [wpMixC])
      (rw [wpMix]; simp only [pick, List.drop_succ_cons, List.drop_zero, List.head?_cons, Option.toList_some, List.cons_append, List.nil_append])
      (repeat (first | (go_big_quiet_step (fail)) | (quiet_step (fail))))
      (try refine wpQuiet_nil ?_)
      (rw [wpMix]; simp only [pick, List.drop_succ_cons, List.drop_zero, List.head?_cons, Option.toList_some, List.cons_append, List.nil_append])
      (go_wp2_with (fail); rw [contF])
      (rw [wpMix])
      (refine hQ' _ _ ?_)
      obtain ⟨W2, hW2⟩ : ∃ W2, W2 = (W1.setCell ⟨w.heap.size + 2 + 2 * a, d, none⟩ (.int .i64 (f a d))).drew := ⟨_, rfl⟩
      go_wp2_with fail
      rw [← hW2]
      have HM2 : Hid (Mat w.heap.size W2 c c (lnkF f ⟨a, d, xl, xh⟩)) := hid (by rw [hW2]; exact mat_F HM1.out (by omega))
      have HBW2 : Hid (Below w.heap.size w W2) := hid (by rw [hW2]; exact (HBW1.out.setCell (by show w.heap.size ≤ w.heap.size + 2 + 2 * a; omega) _).drew)
      have s0 : W2.cell? ⟨wr.heap.size, 0, none⟩ = some (.int .i64 a) := by rw [hW2]; exact (cell_ot (by omega)).trans r0
      have s1 : W2.cell? ⟨wr.heap.size, 1, none⟩ = some (.int .i64 d) := by rw [hW2]; exact (cell_ot (by omega)).trans r1
      have s2 : W2.cell? ⟨wr.heap.size, 2, none⟩ = some (.int .i64 xl) := by rw [hW2]; exact (cell_ot (by omega)).trans r2
      have hsz2 : wr.heap.size < W2.heap.size := by rw [hW2]; simpa using hsz
      clear hW2 r0 r1 r2 r3 hsz m1 m2 q1 z1 z2
      have m3 := HM2.out.cell_top hdc hdc
      have m4 := HM2.out.cell_row hdc hac
      have q2 := (HM2.out.row d hdc).frozen a
      have z3 : w.heap.size < W2.heap.size := HM2.out.lt.1
      have z4 : w.heap.size + 2 + 2 * d < W2.heap.size := HM2.out.lt.2 d hdc
      obtain ⟨y, hy⟩ : ∃ y, y = lnkF f ⟨a, d, xl, xh⟩ d a := ⟨_, rfl⟩
      rw [← hy] at m4
      have HY := hid hy
      clear hy
      by_cases hmn2 : y ≤ -xl
      ·have tok2 := trivial
       refine wp_mixC (fun wc => Below (W2.heap.size) W2 wc) 21 [.q [0, 1, 2, 3, 4, 5, 6, 7, 8, 9, 10, 11, 12, 13, 14, 15, 16, 17, 18, 19], .f [20]] [.q [21], .f [22]] (by kernel_rfl) (by kernel_rfl) ((Below.refl _ _).drew) ?_
       intro Q' hQ'
       (rw [wpMixC]; simp only [pick, List.drop_succ_cons, List.drop_zero, List.head?_cons, Option.toList_some, List.cons_append, List.nil_append])
       (repeat (first | go_big_quiet_skip | (go_big_quiet_want; refine quiet_simple rfl ?_; go_big_quiet_op; go_big_quiet_on) | (go_big_quiet_want; refine quiet_cellB (ty := 3) rfl rfl (by kernel_rfl) (by assumption) (by first | omega | (simp; omega)) ?_; simp only [Act.put, List.setIfInBounds_toArray, List.set_cons_succ, List.set_cons_zero]; go_big_quiet_on) | (go_big_quiet_want; refine quiet_cellB (ty := 46) rfl rfl (by kernel_rfl) (by assumption) (by first | omega | (simp; omega)) ?_; simp only [Act.put, List.setIfInBounds_toArray, List.set_cons_succ, List.set_cons_zero]; go_big_quiet_on) | (go_big_quiet_want; refine quiet_min rfl rfl rfl (by first | assumption | rfl | omega) ?_; simp only [Act.put, List.setIfInBounds_toArray, List.set_cons_succ, List.set_cons_zero]; go_big_quiet_on)))
       (try refine wpQuiet_nil ?_)
       (rw [wpMixC]; simp only [pick, List.drop_succ_cons, List.drop_zero, List.head?_cons, Option.toList_some, List.cons_append, List.nil_append])
       (rw [wpSteps]; go_wp2_with (fail); rw [contF]; refine ⟨?_, ?_⟩; (next => exact BelowA))
       (rw [wpSteps])
       (rw [wpMixC])
       (rw [wpMix]; simp only [pick, List.drop_succ_cons, List.drop_zero, List.head?_cons, Option.toList_some, List.cons_append, List.nil_append])
       (repeat (first | (go_big_quiet_step (fail)) | (quiet_step (fail))))
       (try refine wpQuiet_nil ?_)
       (rw [wpMix]; simp only [pick, List.drop_succ_cons, List.drop_zero, List.head?_cons, Option.toList_some, List.cons_append, List.nil_append])
       (go_wp2_with (fail); rw [contF])
       (rw [wpMix])
       (refine hQ' _ _ ?_)
       obtain ⟨W3, hW3⟩ : ∃ W3, W3 = (W2.setCell ⟨w.heap.size + 2 + 2 * d, a, none⟩ (.int .i64 (y))).drew := ⟨_, rfl⟩
       have HM3 : Hid (Mat w.heap.size W3 c c (lnkG f ⟨a, d, xl, xh⟩)) := hid (by rw [hW3]; exact mat_G HM2.out (by rw [← HY.out]; omega))
       have HBW3 : Hid (Below w.heap.size w W3) := hid (by rw [hW3]; exact (HBW2.out.setCell (by show w.heap.size ≤ w.heap.size + 2 + 2 * d; omega) _).drew)
       (try go_wp2_with fail)
       go_roundw
       case rel => exact ⟨k + 1, by omega, by go_num, by rw [ES.out]; have t := HM3.out; rw [hW3] at t; exact t, by have t := HBW3.out; rw [hW3] at t; exact t⟩
       case measure => simp [intOf]; omega
      ·have tok2 := trivial
       refine wp_mixC (fun wc => Below (W2.heap.size) W2 wc) 21 [.q [0, 1, 2, 3, 4, 5, 6, 7, 8, 9, 10, 11, 12, 13, 14, 15, 16, 17, 18, 19], .f [20]] [.q [21], .f [22]] (by kernel_rfl) (by kernel_rfl) ((Below.refl _ _).drew) ?_
       intro Q' hQ'
       (rw [wpMixC]; simp only [pick, List.drop_succ_cons, List.drop_zero, List.head?_cons, Option.toList_some, List.cons_append, List.nil_append])
       (repeat (first | go_big_quiet_skip | (go_big_quiet_want; refine quiet_simple rfl ?_; go_big_quiet_op; go_big_quiet_on) | (go_big_quiet_want; refine quiet_cellB (ty := 3) rfl rfl (by kernel_rfl) (by assumption) (by first | omega | (simp; omega)) ?_; simp only [Act.put, List.setIfInBounds_toArray, List.set_cons_succ, List.set_cons_zero]; go_big_quiet_on) | (go_big_quiet_want; refine quiet_cellB (ty := 46) rfl rfl (by kernel_rfl) (by assumption) (by first | omega | (simp; omega)) ?_; simp only [Act.put, List.setIfInBounds_toArray, List.set_cons_succ, List.set_cons_zero]; go_big_quiet_on) | (go_big_quiet_want; refine quiet_min rfl rfl rfl (by first | assumption | rfl | omega) ?_; simp only [Act.put, List.setIfInBounds_toArray, List.set_cons_succ, List.set_cons_zero]; go_big_quiet_on)))
       (try refine wpQuiet_nil ?_)
       (rw [wpMixC]; simp only [pick, List.drop_succ_cons, List.drop_zero, List.head?_cons, Option.toList_some, List.cons_append, List.nil_append])
       (rw [wpSteps]; go_wp2_with (fail); rw [contF]; refine ⟨?_, ?_⟩; (next => exact BelowA))
       (rw [wpSteps])
       (rw [wpMixC])
       (rw [wpMix]; simp only [pick, List.drop_succ_cons, List.drop_zero, List.head?_cons, Option.toList_some, List.cons_append, List.nil_append])
       (repeat (first | (go_big_quiet_step (fail)) | (quiet_step (fail))))
       (try refine wpQuiet_nil ?_)
       (rw [wpMix]; simp only [pick, List.drop_succ_cons, List.drop_zero, List.head?_cons, Option.toList_some, List.cons_append, List.nil_append])
       (go_wp2_with (fail); rw [contF])
       (rw [wpMix])
       (refine hQ' _ _ ?_)
       obtain ⟨W3, hW3⟩ : ∃ W3, W3 = (W2.setCell ⟨w.heap.size + 2 + 2 * d, a, none⟩ (.int .i64 (-xl))).drew := ⟨_, rfl⟩
       have HM3 : Hid (Mat w.heap.size W3 c c (lnkG f ⟨a, d, xl, xh⟩)) := hid (by rw [hW3]; exact mat_G HM2.out (by rw [← HY.out]; omega))
       have HBW3 : Hid (Below w.heap.size w W3) := hid (by rw [hW3]; exact (HBW2.out.setCell (by show w.heap.size ≤ w.heap.size + 2 + 2 * d; omega) _).drew)
       (try go_wp2_with fail)
       go_roundw
       case rel => exact ⟨k + 1, by omega, by go_num, by rw [ES.out]; have t := HM3.out; rw [hW3] at t; exact t, by have t := HBW3.out; rw [hW3] at t; exact t⟩
       case measure => simp [intOf]; omega
     ·have tok := trivial
      refine wp_mixC (fun wc => Below (W1.heap.size) W1 wc) 20 [.q [0, 1, 2, 3, 4, 5, 6, 7, 8, 9, 10, 11, 12, 13, 14, 15, 16, 17, 18], .f [19]] [.q [20], .f [21]] (by kernel_rfl) (by kernel_rfl) ((Below.refl _ _).drew) ?_
      intro Q' hQ'
      (rw [wpMixC]; simp only [pick, List.drop_succ_cons, List.drop_zero, List.head?_cons, Option.toList_some, List.cons_append, List.nil_append])
      (repeat (first | go_big_quiet_skip | (go_big_quiet_want; refine quiet_simple rfl ?_; go_big_quiet_op; go_big_quiet_on) | (go_big_quiet_want; refine quiet_cellB (ty := 3) rfl rfl (by kernel_rfl) (by assumption) (by first | omega | (simp; omega)) ?_; simp only [Act.put, List.setIfInBounds_toArray, List.set_cons_succ, List.set_cons_zero]; go_big_quiet_on) | (go_big_quiet_want; refine quiet_cellB (ty := 46) rfl rfl (by kernel_rfl) (by assumption) (by first | omega | (simp; omega)) ?_; simp only [Act.put, List.setIfInBounds_toArray, List.set_cons_succ, List.set_cons_zero]; go_big_quiet_on) | (go_big_quiet_want; refine quiet_min rfl rfl rfl (by first | assumption | rfl | omega) ?_; simp only [Act.put, List.setIfInBounds_toArray, List.set_cons_succ, List.set_cons_zero]; go_big_quiet_on)))
      (try refine wpQuiet_nil ?_)
      (rw [wpMixC]; simp only [pick, List.drop_succ_cons, List.drop_zero, List.head?_cons, Option.toList_some, List.cons_append, List.nil_append])
      (rw [wpSteps]; go_wp2_with (fail); rw [contF]; refine ⟨?_, ?_⟩; (next => exact BelowA))
      (rw [wpSteps])
      (rw [wpMixC])
      (rw [wpMix]; simp only [pick, List.drop_succ_cons, List.drop_zero, List.head?_cons, Option.toList_some, List.cons_append, List.nil_append])
      (repeat (first | (go_big_quiet_step (fail)) | (quiet_step (fail))))
      (try refine wpQuiet_nil ?_)
      (rw [wpMix]; simp only [pick, List.drop_succ_cons, List.drop_zero, List.head?_cons, Option.toList_some, List.cons_append, List.nil_append])
      (go_wp2_with (fail); rw [contF])
      (rw [wpMix])
      (refine hQ' _ _ ?_)
      obtain ⟨W2, hW2⟩ : ∃ W2, W2 = (W1.setCell ⟨w.heap.size + 2 + 2 * a, d, none⟩ (.int .i64 (xh))).drew := ⟨_, rfl⟩
      go_wp2_with fail
      rw [← hW2]
      have HM2 : Hid (Mat w.heap.size W2 c c (lnkF f ⟨a, d, xl, xh⟩)) := hid (by rw [hW2]; exact mat_F HM1.out (by omega))
      have HBW2 : Hid (Below w.heap.size w W2) := hid (by rw [hW2]; exact (HBW1.out.setCell (by show w.heap.size ≤ w.heap.size + 2 + 2 * a; omega) _).drew)
      have s0 : W2.cell? ⟨wr.heap.size, 0, none⟩ = some (.int .i64 a) := by rw [hW2]; exact (cell_ot (by omega)).trans r0
      have s1 : W2.cell? ⟨wr.heap.size, 1, none⟩ = some (.int .i64 d) := by rw [hW2]; exact (cell_ot (by omega)).trans r1
      have s2 : W2.cell? ⟨wr.heap.size, 2, none⟩ = some (.int .i64 xl) := by rw [hW2]; exact (cell_ot (by omega)).trans r2
      have hsz2 : wr.heap.size < W2.heap.size := by rw [hW2]; simpa using hsz
      clear hW2 r0 r1 r2 r3 hsz m1 m2 q1 z1 z2
      have m3 := HM2.out.cell_top hdc hdc
      have m4 := HM2.out.cell_row hdc hac
      have q2 := (HM2.out.row d hdc).frozen a
      have z3 : w.heap.size < W2.heap.size := HM2.out.lt.1
      have z4 : w.heap.size + 2 + 2 * d < W2.heap.size := HM2.out.lt.2 d hdc
      obtain ⟨y, hy⟩ : ∃ y, y = lnkF f ⟨a, d, xl, xh⟩ d a := ⟨_, rfl⟩
      rw [← hy] at m4
      have HY := hid hy
      clear hy
      by_cases hmn2 : y ≤ -xl
      ·have tok2 := trivial
       refine wp_mixC (fun wc => Below (W2.heap.size) W2 wc) 21 [.q [0, 1, 2, 3, 4, 5, 6, 7, 8, 9, 10, 11, 12, 13, 14, 15, 16, 17, 18, 19], .f [20]] [.q [21], .f [22]] (by kernel_rfl) (by kernel_rfl) ((Below.refl _ _).drew) ?_
       intro Q' hQ'
       (rw [wpMixC]; simp only [pick, List.drop_succ_cons, List.drop_zero, List.head?_cons, Option.toList_some, List.cons_append, List.nil_append])
       (repeat (first | go_big_quiet_skip | (go_big_quiet_want; refine quiet_simple rfl ?_; go_big_quiet_op; go_big_quiet_on) | (go_big_quiet_want; refine quiet_cellB (ty := 3) rfl rfl (by kernel_rfl) (by assumption) (by first | omega | (simp; omega)) ?_; simp only [Act.put, List.setIfInBounds_toArray, List.set_cons_succ, List.set_cons_zero]; go_big_quiet_on) | (go_big_quiet_want; refine quiet_cellB (ty := 46) rfl rfl (by kernel_rfl) (by assumption) (by first | omega | (simp; omega)) ?_; simp only [Act.put, List.setIfInBounds_toArray, List.set_cons_succ, List.set_cons_zero]; go_big_quiet_on) | (go_big_quiet_want; refine quiet_min rfl rfl rfl (by first | assumption | rfl | omega) ?_; simp only [Act.put, List.setIfInBounds_toArray, List.set_cons_succ, List.set_cons_zero]; go_big_quiet_on)))
       (try refine wpQuiet_nil ?_)
       (rw [wpMixC]; simp only [pick, List.drop_succ_cons, List.drop_zero, List.head?_cons, Option.toList_some, List.cons_append, List.nil_append])
       (rw [wpSteps]; go_wp2_with (fail); rw [contF]; refine ⟨?_, ?_⟩; (next => exact BelowA))
       (rw [wpSteps])
       (rw [wpMixC])
       (rw [wpMix]; simp only [pick, List.drop_succ_cons, List.drop_zero, List.head?_cons, Option.toList_some, List.cons_append, List.nil_append])
       (repeat (first | (go_big_quiet_step (fail)) | (quiet_step (fail))))
       (try refine wpQuiet_nil ?_)
       (rw [wpMix]; simp only [pick, List.drop_succ_cons, List.drop_zero, List.head?_cons, Option.toList_some, List.cons_append, List.nil_append])
       (go_wp2_with (fail); rw [contF])
       (rw [wpMix])
       (refine hQ' _ _ ?_)
       obtain ⟨W3, hW3⟩ : ∃ W3, W3 = (W2.setCell ⟨w.heap.size + 2 + 2 * d, a, none⟩ (.int .i64 (y))).drew := ⟨_, rfl⟩
       have HM3 : Hid (Mat w.heap.size W3 c c (lnkG f ⟨a, d, xl, xh⟩)) := hid (by rw [hW3]; exact mat_G HM2.out (by rw [← HY.out]; omega))
       have HBW3 : Hid (Below w.heap.size w W3) := hid (by rw [hW3]; exact (HBW2.out.setCell (by show w.heap.size ≤ w.heap.size + 2 + 2 * d; omega) _).drew)
       (try go_wp2_with fail)
       go_roundw
       case rel => exact ⟨k + 1, by omega, by go_num, by rw [ES.out]; have t := HM3.out; rw [hW3] at t; exact t, by have t := HBW3.out; rw [hW3] at t; exact t⟩
       case measure => simp [intOf]; omega
      ·have tok2 := trivial
       refine wp_mixC (fun wc => Below (W2.heap.size) W2 wc) 21 [.q [0, 1, 2, 3, 4, 5, 6, 7, 8, 9, 10, 11, 12, 13, 14, 15, 16, 17, 18, 19], .f [20]] [.q [21], .f [22]] (by kernel_rfl) (by kernel_rfl) ((Below.refl _ _).drew) ?_
       intro Q' hQ'
       (rw [wpMixC]; simp only [pick, List.drop_succ_cons, List.drop_zero, List.head?_cons, Option.toList_some, List.cons_append, List.nil_append])
       (repeat (first | go_big_quiet_skip | (go_big_quiet_want; refine quiet_simple rfl ?_; go_big_quiet_op; go_big_quiet_on) | (go_big_quiet_want; refine quiet_cellB (ty := 3) rfl rfl (by kernel_rfl) (by assumption) (by first | omega | (simp; omega)) ?_; simp only [Act.put, List.setIfInBounds_toArray, List.set_cons_succ, List.set_cons_zero]; go_big_quiet_on) | (go_big_quiet_want; refine quiet_cellB (ty := 46) rfl rfl (by kernel_rfl) (by assumption) (by first | omega | (simp; omega)) ?_; simp only [Act.put, List.setIfInBounds_toArray, List.set_cons_succ, List.set_cons_zero]; go_big_quiet_on) | (go_big_quiet_want; refine quiet_min rfl rfl rfl (by first | assumption | rfl | omega) ?_; simp only [Act.put, List.setIfInBounds_toArray, List.set_cons_succ, List.set_cons_zero]; go_big_quiet_on)))
       (try refine wpQuiet_nil ?_)
       (rw [wpMixC]; simp only [pick, List.drop_succ_cons, List.drop_zero, List.head?_cons, Option.toList_some, List.cons_append, List.nil_append])
       (rw [wpSteps]; go_wp2_with (fail); rw [contF]; refine ⟨?_, ?_⟩; (next => exact BelowA))
       (rw [wpSteps])
       (rw [wpMixC])
       (rw [wpMix]; simp only [pick, List.drop_succ_cons, List.drop_zero, List.head?_cons, Option.toList_some, List.cons_append, List.nil_append])
       (repeat (first | (go_big_quiet_step (fail)) | (quiet_step (fail))))
       (try refine wpQuiet_nil ?_)
       (rw [wpMix]; simp only [pick, List.drop_succ_cons, List.drop_zero, List.head?_cons, Option.toList_some, List.cons_append, List.nil_append])
       (go_wp2_with (fail); rw [contF])
       (rw [wpMix])
       (refine hQ' _ _ ?_)
       obtain ⟨W3, hW3⟩ : ∃ W3, W3 = (W2.setCell ⟨w.heap.size + 2 + 2 * d, a, none⟩ (.int .i64 (-xl))).drew := ⟨_, rfl⟩
       have HM3 : Hid (Mat w.heap.size W3 c c (lnkG f ⟨a, d, xl, xh⟩)) := hid (by rw [hW3]; exact mat_G HM2.out (by rw [← HY.out]; omega))
       have HBW3 : Hid (Below w.heap.size w W3) := hid (by rw [hW3]; exact (HBW2.out.setCell (by show w.heap.size ≤ w.heap.size + 2 + 2 * d; omega) _).drew)
       (try go_wp2_with fail)
       go_roundw
       case rel => exact ⟨k + 1, by omega, by go_num, by rw [ES.out]; have t := HM3.out; rw [hW3] at t; exact t, by have t := HBW3.out; rw [hW3] at t; exact t⟩
       case measure => simp [intOf]; omega
    ·have e : k = l.length := by omega
     subst e
     obtain ⟨f0, hf0⟩ : ∃ f0, f0 = lnkM l l.length := ⟨_, rfl⟩
     rw [← hf0] at hM HLW
     have HF0 := hid hf0
     clear hf0 H3 HK hlt hk
     have HM := hid hM
     have HB := hid hB
     clear hM hB
     go_wp2_with fail
     go_loopw [88] (fun i wi => ∃ k : Nat, k ≤ c ∧ i = .int .i64 k ∧ Mat w.heap.size wi c c (kK f0 c k) ∧ Below w.heap.size w wi) (fun i _ => c - (intOf i).toNat)
     case atStart => exact ⟨0, Nat.zero_le _, rfl, HM.out, HB.out⟩
     case round =>
      clear HM HB
      obtain ⟨k, hk, rfl, hM, hB⟩ := hrel
      by_cases hkc : k < c
      ·have HM := hid hM
       have HB := hid hB
       clear hM hB
       go_wp2_with fail
       go_loopw [93] (fun i wi => ∃ a : Nat, a ≤ c ∧ i = .int .i64 a ∧ Mat w.heap.size wi c c (iK (kK f0 c k) c k a) ∧ Below w.heap.size w wi) (fun i _ => c - (intOf i).toNat)
       case atStart => exact ⟨0, Nat.zero_le _, rfl, HM.out, HB.out⟩
       case round =>
        clear HM HB
        obtain ⟨a, ha, rfl, hM, hB⟩ := hrel
        by_cases hac : a < c
        ·have HM := hid hM
         have HB := hid hB
         clear hM hB
         go_wp2_with fail
         go_loopw [98] (fun i wi => ∃ d : Nat, d ≤ c ∧ i = .int .i64 d ∧ Mat w.heap.size wi c c (jK (iK (kK f0 c k) c k a) k a d) ∧ Below w.heap.size w wi) (fun i _ => c - (intOf i).toNat)
         case atStart => exact ⟨0, Nat.zero_le _, rfl, HM.out, HB.out⟩
         case round =>
          clear HM HB
          obtain ⟨d, hd, rfl, hM, hB⟩ := hrel
          by_cases hdc : d < c
          ·have L1 := HLW.out k a d a k hkc hac hd hac hkc
           have L2 := HLW.out k a d k d hkc hac hd hkc hdc
           have ES : Hid (jK (iK (kK f0 c k) c k a) k a (d + 1) = stepK (jK (iK (kK f0 c k) c k a) k a d) k a d) := hid rfl
           obtain ⟨f, hf⟩ : ∃ f, f = jK (iK (kK f0 c k) c k a) k a d := ⟨_, rfl⟩
           rw [← hf] at L1 L2 ES hM
           clear hf
           have m1 := hM.cell_top hac hac
           have m2 := hM.cell_row hac hkc
           have m3 := hM.cell_top hkc hkc
           have m4 := hM.cell_row hkc hdc
           have z1 : w.heap.size < wr.heap.size := hM.lt.1
           have z2 : w.heap.size + 2 + 2 * a < wr.heap.size := hM.lt.2 a hac
           have z3 : w.heap.size + 2 + 2 * k < wr.heap.size := hM.lt.2 k hkc
           have HM := hid hM
           have HB := hid hB
           clear hM hB
           go_wp2_with fail
           refine wp_mixC (fun wc => Below (wr.heap.size) wr wc) 15 [.q [0, 1, 2, 3, 4, 5, 6, 7, 8, 9, 10, 11, 12, 13, 14]] [.q [15]] (by kernel_rfl) (by kernel_rfl) ((Below.refl _ _).drew) ?_
           intro Q' hQ'
           (rw [wpMixC]; simp only [pick, List.drop_succ_cons, List.drop_zero, List.head?_cons, Option.toList_some, List.cons_append, List.nil_append])
           (repeat (first | go_big_quiet_skip | (go_big_quiet_want; refine quiet_simple rfl ?_; go_big_quiet_op; go_big_quiet_on) | (go_big_quiet_want; refine quiet_cellB (ty := 3) rfl rfl (by kernel_rfl) (by assumption) (by first | omega | (simp; omega)) ?_; simp only [Act.put, List.setIfInBounds_toArray, List.set_cons_succ, List.set_cons_zero]; go_big_quiet_on) | (go_big_quiet_want; refine quiet_cellB (ty := 46) rfl rfl (by kernel_rfl) (by assumption) (by first | omega | (simp; omega)) ?_; simp only [Act.put, List.setIfInBounds_toArray, List.set_cons_succ, List.set_cons_zero]; go_big_quiet_on)))
           (try refine wpQuiet_nil ?_)
           (rw [wpMixC])
           (rw [wpMix]; simp only [pick, List.drop_succ_cons, List.drop_zero, List.head?_cons, Option.toList_some, List.cons_append, List.nil_append])
           (repeat (first | (go_big_quiet_step (fail)) | (quiet_step (fail))))
           (try refine wpQuiet_nil ?_)
           (rw [wpMix])
           (refine hQ' _ _ ?_)
           obtain ⟨W2, hW2⟩ : ∃ W2, W2 = wr.drew := ⟨_, rfl⟩
           have HM2 : Hid (Mat w.heap.size W2 c c f) := hid (by rw [hW2]; exact HM.out.drew)
           have HB2 : Hid (Below w.heap.size w W2) := hid (by rw [hW2]; exact HB.out.drew)
           have E1 : Hid (far = 1152921504606846976) := hid rfl
           by_cases h1 : f a k < 1152921504606846976
           ·by_cases h2 : f k d < 1152921504606846976
            ·go_wp2_with fail
             rw [← hW2]
             have hw : IntKind.i64.wrap (f a k + f k d) = f a k + f k d := wi (by omega)
             have m5 := HM2.out.cell_top hac hac
             have m6 := HM2.out.cell_row hac hdc
             have q1 := (HM2.out.row a hac).frozen d
             have y1 : w.heap.size < W2.heap.size := HM2.out.lt.1
             have y2 : w.heap.size + 2 + 2 * a < W2.heap.size := HM2.out.lt.2 a hac
             clear hW2 m1 m2 m3 m4 z1 z2 z3 HM HB
             by_cases hmn : f a d ≤ f a k + f k d
             ·have tok := trivial
              refine wp_mixC (fun wc => Below (W2.heap.size) W2 wc) 16 [.q [0, 1, 2, 3, 4, 5, 6, 7, 8, 9, 10, 11, 12, 13, 14], .f [15]] [.q [16], .f [17]] (by kernel_rfl) (by kernel_rfl) ((Below.refl _ _).drew) ?_
              intro Q' hQ'
              (rw [wpMixC]; simp only [pick, List.drop_succ_cons, List.drop_zero, List.head?_cons, Option.toList_some, List.cons_append, List.nil_append])
              (repeat (first | go_big_quiet_skip | (go_big_quiet_want; refine quiet_simple rfl ?_; go_big_quiet_op; go_big_quiet_on) | (go_big_quiet_want; refine quiet_cellB (ty := 3) rfl rfl (by kernel_rfl) (by assumption) (by first | omega | (simp; omega)) ?_; simp only [Act.put, List.setIfInBounds_toArray, List.set_cons_succ, List.set_cons_zero]; go_big_quiet_on) | (go_big_quiet_want; refine quiet_cellB (ty := 46) rfl rfl (by kernel_rfl) (by assumption) (by first | omega | (simp; omega)) ?_; simp only [Act.put, List.setIfInBounds_toArray, List.set_cons_succ, List.set_cons_zero]; go_big_quiet_on) | (go_big_quiet_want; refine quiet_min rfl rfl rfl (by first | assumption | rfl | omega) ?_; simp only [Act.put, List.setIfInBounds_toArray, List.set_cons_succ, List.set_cons_zero]; go_big_quiet_on)))
              (try refine wpQuiet_nil ?_)
              (rw [wpMixC]; simp only [pick, List.drop_succ_cons, List.drop_zero, List.head?_cons, Option.toList_some, List.cons_append, List.nil_append])
              (rw [wpSteps]; go_wp2_with (fail); rw [contF]; refine ⟨?_, ?_⟩; (next => exact BelowA))
              (rw [wpSteps])
              (rw [wpMixC])
              (rw [wpMix]; simp only [pick, List.drop_succ_cons, List.drop_zero, List.head?_cons, Option.toList_some, List.cons_append, List.nil_append])
              (repeat (first | (go_big_quiet_step (fail)) | (quiet_step (fail))))
              (try refine wpQuiet_nil ?_)
              (rw [wpMix]; simp only [pick, List.drop_succ_cons, List.drop_zero, List.head?_cons, Option.toList_some, List.cons_append, List.nil_append])
              (go_wp2_with (fail); rw [contF])
              (rw [wpMix])
              (refine hQ' _ _ ?_)
              obtain ⟨W3, hW3⟩ : ∃ W3, W3 = (W2.setCell ⟨w.heap.size + 2 + 2 * a, d, none⟩ (.int .i64 (f a d))).drew := ⟨_, rfl⟩
              have HM3 : Hid (Mat w.heap.size W3 c c (stepK f k a d)) := hid (by rw [hW3]; exact mat_S HM2.out (by rw [E1.out]; exact h1) (by rw [E1.out]; exact h2) (by omega))
              have HB3 : Hid (Below w.heap.size w W3) := hid (by rw [hW3]; exact (HB2.out.setCell (by show w.heap.size ≤ w.heap.size + 2 + 2 * a; omega) _).drew)
              (try go_wp2_with fail)
              go_roundw
              case rel => exact ⟨d + 1, by omega, by go_num, by rw [ES.out]; have t := HM3.out; rw [hW3] at t; exact t, by have t := HB3.out; rw [hW3] at t; exact t⟩
              case measure => simp [intOf]; omega
             ·have tok := trivial
              refine wp_mixC (fun wc => Below (W2.heap.size) W2 wc) 16 [.q [0, 1, 2, 3, 4, 5, 6, 7, 8, 9, 10, 11, 12, 13, 14], .f [15]] [.q [16], .f [17]] (by kernel_rfl) (by kernel_rfl) ((Below.refl _ _).drew) ?_
              intro Q' hQ'
              (rw [wpMixC]; simp only [pick, List.drop_succ_cons, List.drop_zero, List.head?_cons, Option.toList_some, List.cons_append, List.nil_append])
              (repeat (first | go_big_quiet_skip | (go_big_quiet_want; refine quiet_simple rfl ?_; go_big_quiet_op; go_big_quiet_on) | (go_big_quiet_want; refine quiet_cellB (ty := 3) rfl rfl (by kernel_rfl) (by assumption) (by first | omega | (simp; omega)) ?_; simp only [Act.put, List.setIfInBounds_toArray, List.set_cons_succ, List.set_cons_zero]; go_big_quiet_on) | (go_big_quiet_want; refine quiet_cellB (ty := 46) rfl rfl (by kernel_rfl) (by assumption) (by first | omega | (simp; omega)) ?_; simp only [Act.put, List.setIfInBounds_toArray, List.set_cons_succ, List.set_cons_zero]; go_big_quiet_on) | (go_big_quiet_want; refine quiet_min rfl rfl rfl (by first | assumption | rfl | omega) ?_; simp only [Act.put, List.setIfInBounds_toArray, List.set_cons_succ, List.set_cons_zero]; go_big_quiet_on)))
              (try refine wpQuiet_nil ?_)
              (rw [wpMixC]; simp only [pick, List.drop_succ_cons, List.drop_zero, List.head?_cons, Option.toList_some, List.cons_append, List.nil_append])
              (rw [wpSteps]; go_wp2_with (fail); rw [contF]; refine ⟨?_, ?_⟩; (next => exact BelowA))
              (rw [wpSteps])
              (rw [wpMixC])
              (rw [wpMix]; simp only [pick, List.drop_succ_cons, List.drop_zero, List.head?_cons, Option.toList_some, List.cons_append, List.nil_append])
              (repeat (first | (go_big_quiet_step (fail)) | (quiet_step (fail))))
              (try refine wpQuiet_nil ?_)
              (rw [wpMix]; simp only [pick, List.drop_succ_cons, List.drop_zero, List.head?_cons, Option.toList_some, List.cons_append, List.nil_append])
              (go_wp2_with (fail); rw [contF])
              (rw [wpMix])
              (refine hQ' _ _ ?_)
              obtain ⟨W3, hW3⟩ : ∃ W3, W3 = (W2.setCell ⟨w.heap.size + 2 + 2 * a, d, none⟩ (.int .i64 (f a k + f k d))).drew := ⟨_, rfl⟩
              have HM3 : Hid (Mat w.heap.size W3 c c (stepK f k a d)) := hid (by rw [hW3]; exact mat_S HM2.out (by rw [E1.out]; exact h1) (by rw [E1.out]; exact h2) (by omega))
              have HB3 : Hid (Below w.heap.size w W3) := hid (by rw [hW3]; exact (HB2.out.setCell (by show w.heap.size ≤ w.heap.size + 2 + 2 * a; omega) _).drew)
              (try go_wp2_with fail)
              go_roundw
              case rel => exact ⟨d + 1, by omega, by go_num, by rw [ES.out]; have t := HM3.out; rw [hW3] at t; exact t, by have t := HB3.out; rw [hW3] at t; exact t⟩
              case measure => simp [intOf]; omega
            ·have tok := trivial
             go_wp2_with fail
             (try go_wp2_with fail)
             go_roundw
             case rel => exact ⟨d + 1, by omega, by go_num, by rw [ES.out]; have t : stepK f k a d = f := if_neg (fun q => by rw [E1.out] at q; omega); rw [t]; have u := HM2.out; rw [hW2] at u; exact u, by have u := HB2.out; rw [hW2] at u; exact u⟩
             case measure => simp [intOf]; omega
           ·have tok := trivial
            go_wp2_with fail
            (try go_wp2_with fail)
            go_roundw
            case rel => exact ⟨d + 1, by omega, by go_num, by rw [ES.out]; have t : stepK f k a d = f := if_neg (fun q => by rw [E1.out] at q; omega); rw [t]; have u := HM2.out; rw [hW2] at u; exact u, by have u := HB2.out; rw [hW2] at u; exact u⟩
            case measure => simp [intOf]; omega
          ·have e : d = c := by omega
           subst e
           go_wp2_with fail
           go_roundw
           case rel => exact ⟨a + 1, by omega, by go_num, hM, hB⟩
           case measure => simp [intOf]; omega
        ·have e : a = c := by omega
         subst e
         go_wp2_with fail
         go_roundw
         case rel => exact ⟨k + 1, by omega, by go_num, hM, hB⟩
         case measure => simp [intOf]; omega
      ·have e : k = c := by omega
       subst e
       obtain ⟨g, hg⟩ : ∃ g, g = kK f0 k k := ⟨_, rfl⟩
       rw [← hg] at hM
       clear hkc hk HLW
       go_wp2_with fail
       obtain ⟨W4, hW4⟩ : ∃ W4 : World, W4 = wr := ⟨_, rfl⟩
       rw [← hW4] at hM hB ⊢
       clear hW4
       have HM := hid hM
       have HB := hid hB
       have HG := hid hg
       clear hM hB hg
       go_loopw [143] (fun i wi => ∃ x : Nat, x ≤ k ∧ i = .int .i64 x ∧ wi = W4 ∧ Hid (∀ q, q < x → 0 ≤ g q q)) (fun i _ => k - (intOf i).toNat)
       case atStart => exact ⟨0, Nat.zero_le _, rfl, rfl, hid fun q hq => absurd hq (Nat.not_lt_zero _)⟩
       case round =>
        obtain ⟨x, hx, rfl, rfl, HQ⟩ := hrel
        by_cases hxk : x < k
        ·have m1 := HM.out.cell_top hxk hxk
         have m2 := HM.out.cell_row hxk hxk
         by_cases h0 : g x x < 0
         ·go_wp2_with fail
          ((try simp only [Exit.inBlock, Exit.then]); refine bodyPost_ret (v := .tuple #[.slice none 0 0, .bool false]) ?_ rfl ?_; (next => simp [results, Tryz.results69, go_sem]))
          have EG : kK (lnkM l l.length) k k = g := by rw [HG.out, HF0.out]
          exact ⟨HB.out, Or.inl ⟨⟨x, hxk, by rw [EG]; exact h0⟩, rfl⟩⟩
         ·go_wp2_with fail
          go_roundw
          case rel => exact ⟨x + 1, by omega, by go_num, by trivial, hid fun q hq => by
           by_cases e : q = x
           ·rw [e]; omega
           ·exact HQ.out q (by omega)⟩
          case measure => simp [intOf]; omega
        ·go_wp2_with fail
         ((try simp only [Exit.inBlock, Exit.then]); refine bodyPost_ret (v := .tuple #[.slice (some ⟨w.heap.size, 0, none⟩) k k, .bool true]) ?_ rfl ?_; (next => simp [results, Tryz.results69, go_sem]))
         have EG : kK (lnkM l l.length) k k = g := by rw [HG.out, HF0.out]
         exact ⟨HB.out, Or.inr ⟨fun i hi => by rw [EG]; exact HQ.out i (by omega), rfl, by rw [EG]; exact HM.out⟩⟩
end Go.Proofs.YtlapeoboekchpaaGreatDoor
set_option linter.unusedVariables false
set_option linter.unusedSimpArgs false
namespace Go.Proofs.YtlapeoboekchpaaGreatDoor
open Go.RowKit
def lowB (B : Int) (k x y : Nat) : Int := if x = k ∧ y = k then -(2 * B) else if x = k ∨ y = k then -(3 * B) else -(6 * B)
def invK (g : Nat → Nat → Int) (B : Int) (k i j : Nat) (c : Nat → Nat → Int) : Prop := ∀ x y, (¬ (x < i ∨ (x = i ∧ y < j)) → c x y = g x y) ∧ lowB B k x y ≤ c x y
theorem lowB_g {g : Nat → Nat → Int} {B : Int} (hB : 0 ≤ B) (hg : ∀ x y, -B ≤ g x y) (k x y : Nat) : lowB B k x y ≤ g x y := by
 have := hg x y
 unfold lowB
 split
 ·omega
 ·split <;> omega
theorem invK_step {g : Nat → Nat → Int} {B : Int} (hB : 0 ≤ B) (hg : ∀ x y, -B ≤ g x y) {k i j : Nat} {c : Nat → Nat → Int} (h : invK g B k i j c) : invK g B k i (j + 1) (stepK c k i j) := by
 have hij : c i j = g i j := (h i j).1 (by omega)
 have key : lowB B k i j ≤ c i k + c k j := by
  have a := (h i k).2
  have b := (h k j).2
  have hik : lowB B k i k = if i = k then -(2 * B) else -(3 * B) := by unfold lowB; by_cases e : i = k <;> simp [e]
  have hkj : lowB B k k j = if j = k then -(2 * B) else -(3 * B) := by unfold lowB; by_cases e : j = k <;> simp [e]
  rw [hik] at a
  rw [hkj] at b
  unfold lowB
  by_cases e1 : i = k
  ·by_cases e2 : j = k
   ·rw [if_pos ⟨e1, e2⟩]
    have u : c i k = g i k := (h i k).1 (by omega)
    have v : c k j = g k j := (h k j).1 (by omega)
    have := hg i k; have := hg k j
    omega
   ·rw [if_neg (by omega), if_pos (Or.inl e1)]
    have v : c k j = g k j := (h k j).1 (by omega)
    have := hg k j
    rw [if_pos e1] at a
    omega
  ·by_cases e2 : j = k
   ·rw [if_neg (by omega), if_pos (Or.inr e2)]
    have v : c i k = g i k := (h i k).1 (by omega)
    have := hg i k
    rw [if_pos e2] at b
    omega
   ·rw [if_neg (by omega), if_neg (by omega)]
    rw [if_neg e1] at a
    rw [if_neg e2] at b
    omega
 intro x y
 have hx := h x y
 unfold stepK
 split
 ·unfold updI
  split
  ·rename_i e
   obtain ⟨rfl, rfl⟩ := e
   refine ⟨fun q => absurd q (by omega), ?_⟩
   have := lowB_g hB hg k x y
   omega
  ·exact ⟨fun q => hx.1 (by omega), hx.2⟩
 ·exact ⟨fun q => hx.1 (by omega), hx.2⟩
theorem invK_all {g : Nat → Nat → Int} {B : Int} (hB : 0 ≤ B) (hg : ∀ x y, -B ≤ g x y) (n k : Nat) : ∀ i j, invK g B k i j (jK (iK g n k i) k i j) := by
 intro i
 induction i with
 | zero =>
  intro j
  induction j with
  | zero => exact fun x y => ⟨fun _ => rfl, lowB_g hB hg k x y⟩
  | succ j ih => exact invK_step hB hg ih
 | succ i ih =>
  intro j
  induction j with
  | zero =>
   have h := ih n
   intro x y
   exact ⟨fun q => (h x y).1 (by omega), (h x y).2⟩
  | succ j ih2 => exact invK_step hB hg ih2
theorem jK_low {g : Nat → Nat → Int} {B : Int} (hB : 0 ≤ B) (hg : ∀ x y, -B ≤ g x y) (n k i j x y : Nat) : -(6 * B) ≤ jK (iK g n k i) k i j x y := by
 have h := (invK_all hB hg n k i j x y).2
 unfold lowB at h
 split at h
 ·omega
 ·split at h <;> omega
theorem kK_low {f : Nat → Nat → Int} {B : Int} (hB : 0 ≤ B) (hf : ∀ x y, -B ≤ f x y) (n : Nat) : ∀ k x y, -(6 ^ k * B) ≤ kK f n k x y := by
 intro k
 induction k with
 | zero => intro x y; have := hf x y; simpa [kK] using this
 | succ k ih =>
  intro x y
  have hp : 0 ≤ (6 : Int) ^ k * B := Int.mul_nonneg (Int.le_of_lt (Int.pow_pos (by decide))) hB
  have h := jK_low hp ih n k n 0 x y
  rw [Int.pow_succ, Int.mul_comm ((6 : Int) ^ k) 6, Int.mul_assoc]
  exact h
theorem lnkM_low {n : Nat} {l : List Lnk} (h : ∀ k, k < l.length → (lnkAt l k).ok n) : ∀ k, k ≤ l.length → ∀ x y, -1000000000 ≤ lnkM l k x y := by
 intro k
 induction k with
 | zero => intro _ x y; show -1000000000 ≤ initM x y; unfold initM far; split <;> decide
 | succ k ih =>
  intro hk x y
  have i := ih (by omega)
  obtain ⟨o1, o2, o3, o4, o5, o6⟩ := h k hk
  rw [lnkM_succ hk]
  generalize lnkAt l k = z at *
  have F : ∀ x y, -1000000000 ≤ lnkF (lnkM l k) z x y := by
   intro x y
   unfold lnkF updI
   have := i z.frm.toNat z.to.toNat
   have := i x y
   split <;> omega
  unfold lnkG updI
  have := F z.to.toNat z.frm.toNat
  have := F x y
  split <;> omega
theorem low_links {n : Nat} (hn : n ≤ 6) {l : List Lnk} (h : ∀ k, k < l.length → (lnkAt l k).ok n) : lowK (lnkM l l.length) n := by
 intro k i j x y hk _ _ _ _
 have hB : (0 : Int) ≤ 1000000000 := by decide
 have h0 := kK_low hB (lnkM_low h l.length (Nat.le_refl _)) n k
 have hp : (0 : Int) ≤ 6 ^ k * 1000000000 := Int.mul_nonneg (Int.le_of_lt (Int.pow_pos (by decide))) hB
 have h1 := jK_low hp h0 n k i j x y
 rcases (by omega : k = 0 ∨ k = 1 ∨ k = 2 ∨ k = 3 ∨ k = 4 ∨ k = 5) with rfl | rfl | rfl | rfl | rfl | rfl <;> simp at h1 <;> omega
end Go.Proofs.YtlapeoboekchpaaGreatDoor