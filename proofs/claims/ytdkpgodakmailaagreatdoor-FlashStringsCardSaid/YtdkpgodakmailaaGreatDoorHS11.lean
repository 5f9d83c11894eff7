/- Texts of this claim, together. -/
import Derived.Laws.BytesArg
import Derived.Test.YtdkpgodakmailaaGreatDoorHS10
import Derived.Test.YtdkpgodakmailaaGreatDoorHS5
import Derived.Test.YtdkpgodakmailaaGreatDoorHS4
import Derived.Test.YtdkpgodakmailaaGreatDoorHS1
import Derived.Test.YtdkpgodakmailaaGreatDoorRows
import Derived.ProofKit
import Derived.LaidMore
import Derived.LaidSub
import Derived.Lay
import Derived.Shelf.Vars
import Derived.OpenShut
import Derived.Stop.Joined
import Derived.HandedShaped

set_option linter.unusedVariables false
set_option linter.unusedSimpArgs false
namespace Go.Proofs.YtdkpgodakmailaaGreatDoor
open Go.RowKit Ev
def decT (u : Nat) (t : List UInt8) : List UInt8 := if u = 0 then t else Lib.decDigits u ++ t
theorem decT_step {u : Nat} (h : u ≠ 0) (t : List UInt8) : decT u t = decT (u / 10) (UInt8.ofNat (48 + u % 10) :: t) := by
 unfold decT
 rw [if_neg h]
 by_cases g : u < 10
 ·rw [if_pos (by omega), dec_small g, show u % 10 = u by omega]; rfl
 ·rw [if_neg (by omega), dec_big g, List.append_assoc]; rfl
theorem decT_len {u : Nat} {t : List UInt8} {u0 : Nat} (h : decT u t = Lib.decDigits u0) (hu : u0 ≤ 9223372036854775808) : (ofL t).size ≤ 30 := by
 have a := dec_len 18 u0 (by omega)
 rw [← h] at a
 unfold decT at a
 rw [ofL_size]
 split at a
 ·omega
 ·rw [List.length_append] at a; omega
theorem app_ofL (l m : List UInt8) : ofL l ++ ofL m = ofL (l ++ m) := by
 rw [← ofL_back (ofL l ++ ofL m), ByteArray.data_append, Array.toList_append]
 rfl
theorem str_one {d : Nat} (h : d < 256) : strOfNums [(d : Int)] = ofL [UInt8.ofNat d] := by
 unfold strOfNums ofL
 simp
theorem size_w (n : Int) (w : World) (h : -9223372036854775807 ≤ n) (h' : n ≤ 9223372036854775807) :
  Calls Tryz.prog 43 #[.int .i64 n] w fun e w' => e = .returned (.int .i64 (n.natAbs : Int)) ∧ w = w' := by
 go_enter Tryz.func43, Tryz.ntmps43
 go_wp2_with fail
 all_goals
  go_ret
  exact ⟨ret_int (by omega), rfl⟩
set_option maxRecDepth 100000 in
set_option maxHeartbeats 2000000 in
theorem walk_Decimal (w : World) (n : Int) (hn : -9223372036854775808 ≤ n ∧ n ≤ 9223372036854775807) :
  Calls Tryz.prog 92 #[.int .i64 n] w fun e w' => e = .returned (.string (itoaB n)) ∧ Below w.heap.size w w' := by
 rcases (by omega : n = 0 ∨ n < 0 ∨ 0 < n) with rfl | hl | hl
 ·go_enter Tryz.func92, Tryz.ntmps92
  go_wp2_with fail
  go_ret
  exact ⟨by rw [show itoaB 0 = ofL [48] by unfold itoaB; rw [itoa_pos (by omega), dec_small (by decide)]; rfl]; rfl, Below.refl _ _⟩
 ·obtain ⟨u0, hu0⟩ : ∃ u : Nat, u = n.natAbs := ⟨_, rfl⟩
  have hn0 : ¬ n = 0 := by omega
  have HI : Hid (itoaB n = ofL (45 :: Lib.decDigits u0)) := hid (by unfold itoaB; rw [itoa_neg hl, hu0])
  go_enter Tryz.func92, Tryz.ntmps92
  go_wp2_with fail
  have hq : (n == 0) = false := by simpa using hn0
  rw [hq]; clear hq
  go_loopw [0, 3] (fun a s wr => ∃ (u : Nat) (t : List UInt8), a = .int .i64 (-(u : Int)) ∧ u ≤ u0 ∧ s = .string (ofL t) ∧ Hid (decT u t = Lib.decDigits u0) ∧ Below w.heap.size w wr) (fun a _ _ => (intOf a).natAbs)
  case atStart => exact ⟨u0, [], by rw [hu0]; congr 1; omega, Nat.le_refl _, rfl, hid (by unfold decT; rw [if_neg (by omega)]; simp), Below.refl _ _⟩
  case round =>
   obtain ⟨u, t, rfl, hu, rfl, HD, HB⟩ := hrel
   have hs := decT_len HD.out (by omega)
   by_cases z : u = 0
   ·subst z
    have e : ¬ (-((0 : Nat) : Int)) ≠ 0 := by simp
    go_wp2_with fail
    go_ret
    have hd : Lib.decDigits u0 = t := by rw [← HD.out]; rfl
    refine ⟨?_, HB⟩
    rw [HI.out, hd]
    rfl
   ·have e : (-(u : Int)) ≠ 0 := by omega
    obtain ⟨x, hx0⟩ : ∃ x, UInt8.ofNat (48 + u % 10) = x := ⟨_, rfl⟩
    have HX := hid hx0
    clear hx0
    have hx : (ofL [x]).size = 1 := rfl
    go_wp2_with fail
    refine (size_w _ _ (by omega) (by omega)).mono ?_
    rintro e w' ⟨rfl, rfl⟩
    go_wp2_with fail
    rw [run_convert_bytes_arg _ _ 5 (by kernel_rfl) (by kernel_rfl) wr.heap.size 0 1 1 [48 + ((u : Int) % 10).natAbs] rfl (by
     intro i hi
     obtain rfl : i = 0 := by omega
     simp) _ (by kernel_rfl), show strOfNums [48 + (((u : Int) % 10).natAbs : Int)] = ofL [x] from by rw [show (48 + (((u : Int) % 10).natAbs : Int)) = ((48 + u % 10 : Nat) : Int) by omega, str_one (by omega), HX.out]]
    go_wp2_with fail
    go_roundw
    case rel => exact ⟨u / 10, x :: t, by trivial, by omega, by rw [app_ofL]; rfl, hid (by rw [← HD.out, decT_step z, HX.out]), Below_alloc HB _⟩
    case measure => simp [intOf]; omega
 ·obtain ⟨u0, hu0⟩ : ∃ u : Nat, u = n.natAbs := ⟨_, rfl⟩
  have hn0 : ¬ n = 0 := by omega
  have HI : Hid (itoaB n = ofL (Lib.decDigits u0)) := hid (by unfold itoaB; rw [itoa_pos (by omega), hu0, show n.toNat = n.natAbs by omega])
  go_enter Tryz.func92, Tryz.ntmps92
  go_wp2_with fail
  have hq : (n == 0) = false := by simpa using hn0
  rw [hq]; clear hq
  go_loopw [0, 3] (fun a s wr => ∃ (u : Nat) (t : List UInt8), a = .int .i64 ((u : Int)) ∧ u ≤ u0 ∧ s = .string (ofL t) ∧ Hid (decT u t = Lib.decDigits u0) ∧ Below w.heap.size w wr) (fun a _ _ => (intOf a).natAbs)
  case atStart => exact ⟨u0, [], by rw [hu0]; congr 1; omega, Nat.le_refl _, rfl, hid (by unfold decT; rw [if_neg (by omega)]; simp), Below.refl _ _⟩
  case round =>
   obtain ⟨u, t, rfl, hu, rfl, HD, HB⟩ := hrel
   have hs := decT_len HD.out (by omega)
   by_cases z : u = 0
   ·subst z
    have e : ¬ (((0 : Nat) : Int)) ≠ 0 := by simp
    go_wp2_with fail
    go_ret
    have hd : Lib.decDigits u0 = t := by rw [← HD.out]; rfl
    refine ⟨?_, HB⟩
    rw [HI.out, hd]
    rfl
   ·have e : ((u : Int)) ≠ 0 := by omega
    obtain ⟨x, hx0⟩ : ∃ x, UInt8.ofNat (48 + u % 10) = x := ⟨_, rfl⟩
    have HX := hid hx0
    clear hx0
    have hx : (ofL [x]).size = 1 := rfl
    go_wp2_with fail
    refine (size_w _ _ (by omega) (by omega)).mono ?_
    rintro e w' ⟨rfl, rfl⟩
    go_wp2_with fail
    rw [run_convert_bytes_arg _ _ 5 (by kernel_rfl) (by kernel_rfl) wr.heap.size 0 1 1 [48 + ((u : Int) % 10).natAbs] rfl (by
     intro i hi
     obtain rfl : i = 0 := by omega
     simp) _ (by kernel_rfl), show strOfNums [48 + (((u : Int) % 10).natAbs : Int)] = ofL [x] from by rw [show (48 + (((u : Int) % 10).natAbs : Int)) = ((48 + u % 10 : Nat) : Int) by omega, str_one (by omega), HX.out]]
    go_wp2_with fail
    go_roundw
    case rel => exact ⟨u / 10, x :: t, by trivial, by omega, by rw [app_ofL]; rfl, hid (by rw [← HD.out, decT_step z, HX.out]), Below_alloc HB _⟩
    case measure => simp [intOf]; omega
end Go.Proofs.YtdkpgodakmailaaGreatDoor
set_option linter.unusedVariables false
set_option linter.unusedSimpArgs false
namespace Go.Proofs.YtdkpgodakmailaaGreatDoor
open Go.RowKit Ev
theorem jn_snoc (c : UInt8) (p : List UInt8) : ∀ ps : List (List UInt8), ps ≠ [] → jnC c (ps ++ [p]) = jnC c ps ++ c :: p
 | [], h => (h rfl).elim
 | [q], _ => by simp [jnC]
 | q :: r :: s, _ => by
  have ih := jn_snoc c p (r :: s) (by simp)
  have e1 : jnC c (q :: r :: s ++ [p]) = q ++ c :: jnC c (r :: s ++ [p]) := rfl
  have e2 : jnC c (q :: r :: s) = q ++ c :: jnC c (r :: s) := rfl
  rw [e1, e2, ih]; simp
theorem joinB_snoc (c : UInt8) (t : ByteArray) {l : List ByteArray} (h : l ≠ []) : joinB (l ++ [t]) ⟨#[c]⟩ = (joinB l ⟨#[c]⟩ ++ ⟨#[c]⟩) ++ t := by
 rw [joinB_one, joinB_one, List.map_append, List.map_singleton, jn_snoc c _ _ (by simpa using h)]
 rw [show (⟨#[c]⟩ : ByteArray) = ofL [c] from rfl, app_ofL]
 conv => rhs; rw [← ofL_back t]
 rw [app_ofL]; simp
theorem joinB_single (c : UInt8) (t : ByteArray) : joinB [t] ⟨#[c]⟩ = t := by
 rw [joinB_one]; exact ofL_back t
theorem empty_app (t : ByteArray) : (⟨#[]⟩ : ByteArray) ++ t = t := by
 rw [← ofL_back t, show (⟨#[]⟩ : ByteArray) = ofL [] from rfl, app_ofL]; rfl
theorem words_snoc {l : List Int} {k : Nat} (h : k < l.length) (h0 : 0 < k) : (wordsB (l.take k) ++ ⟨#[32]⟩) ++ itoaB (l.getD k 0) = wordsB (l.take (k + 1)) := by
 unfold wordsB
 rw [take_snoc l 0 h, List.map_append, List.map_singleton, joinB_snoc _ _ (by intro e; have := congrArg List.length e; rw [List.length_map, List.length_take, List.length_nil] at this; omega)]
theorem words_one {l : List Int} (h : 0 < l.length) : (⟨#[]⟩ : ByteArray) ++ itoaB (l.getD 0 0) = wordsB (l.take 1) := by
 rw [empty_app]
 unfold wordsB
 rw [take_snoc l 0 h, List.take_zero, List.nil_append, List.map_singleton, joinB_single]
theorem words_take {l : List Int} {k : Nat} (hl : l.length ≤ 100) (h : ∀ i, i < l.length → -9223372036854775808 ≤ l.getD i 0 ∧ l.getD i 0 ≤ 9223372036854775807) : (wordsB (l.take k)).size ≤ 2100 := by
 have := wordsB_len (l := l.take k) (fun i hi => by
  rw [List.length_take] at hi
  have := h i (by omega)
  rwa [show (l.take k).getD i 0 = l.getD i 0 by simp [List.getD, List.getElem?_take, show i < k by omega]])
 rw [List.length_take] at this
 omega
end Go.Proofs.YtdkpgodakmailaaGreatDoor
set_option linter.unusedVariables false
set_option linter.unusedSimpArgs false
namespace Go.Proofs.YtdkpgodakmailaaGreatDoor
open Go.RowKit Ev
theorem hasC_no {c : UInt8} {l : List UInt8} (h : ∀ x ∈ l, x ≠ c) : hasC c l = false := by
 unfold hasC
 rw [Bool.eq_false_iff]
 intro q
 exact h c (List.contains_iff_mem.1 q) rfl
theorem hasC_not {c : UInt8} {l : List UInt8} (h : hasC c l = false) : ∀ x ∈ l, x ≠ c := by
 rintro x hx rfl
 unfold hasC at h
 rw [List.contains_iff_mem.2 hx] at h; cases h
theorem itoa_no {c : UInt8} (h : ¬ (48 ≤ c.toNat ∧ c.toNat ≤ 57)) (h2 : c ≠ 45) (n : Int) : hasC c (Lib.itoa n) = false := by
 refine hasC_no fun x hx => ?_
 rintro rfl
 by_cases g : n < 0
 ·rw [itoa_neg g] at hx
  rcases List.mem_cons.1 hx with q | q
  ·exact h2 q
  ·exact h (dec_dig _ _ q)
 ·rw [itoa_pos (by omega)] at hx
  exact h (dec_dig _ _ hx)
theorem hasC_jn {c d : UInt8} (hd : d ≠ c) : ∀ {ps : List (List UInt8)}, (∀ p ∈ ps, hasC d p = false) → hasC d (jnC c ps) = false
 | [], _ => rfl
 | [p], h => h p (by simp)
 | p :: q :: r, h => by
  have ih := hasC_jn hd (ps := q :: r) (fun x hx => h x (by simp [hx]))
  have hp := h p (by simp)
  refine hasC_no fun x hx => ?_
  have e : jnC c (p :: q :: r) = p ++ c :: jnC c (q :: r) := rfl
  rw [e, List.mem_append, List.mem_cons] at hx
  rcases hx with g | rfl | g
  ·exact hasC_not hp x g
  ·exact fun e => hd e.symm
  ·exact hasC_not ih x g
theorem words_data (l : List Int) : (wordsB l).data.toList = jnC 32 (l.map Lib.itoa) := by
 unfold wordsB
 rw [joinB_one, ofL_data, List.map_map]; rfl
theorem words_pcs {l : List Int} (h : l ≠ []) : pcs 32 (wordsB l).data.toList = l.map Lib.itoa := by
 rw [words_data]
 exact pcs_jn (by simpa using h) fun p hp => by
  obtain ⟨n, _, rfl⟩ := List.mem_map.1 hp
  exact itoa_no (by decide) (by decide) n
theorem words_wAt {l : List Int} (h : l ≠ []) {i : Nat} (hi : i < l.length) : wAt 32 (wordsB l) i = Lib.itoa (l.getD i 0) := by
 unfold wAt
 rw [words_pcs h]
 simp [List.getD, hi]
theorem num_back {v : Int} {dg : Nat} (h0 : 1 ≤ dg) (h : v.natAbs < 10 ^ dg) : numR (Lib.itoa v) dg = some v := by
 have e : dg - 1 + 1 = dg := by omega
 refine numR_itoa ?_
 by_cases g : v < 0
 ·rw [itoa_neg g, if_pos (by rfl)]
  have := dec_len (dg - 1) v.natAbs (by rw [e]; exact h)
  show (Lib.decDigits v.natAbs).length ≤ dg
  omega
 ·rw [itoa_pos (by omega), if_neg (dec_head45 _)]
  have := dec_len (dg - 1) v.toNat (by rw [e]; omega)
  omega
theorem four {a b c d : Int} {P : Int → Prop} (h1 : P a) (h2 : P b) (h3 : P c) (h4 : P d) : ∀ i, i < [a, b, c, d].length → P ([a, b, c, d].getD i 0) := by
 intro i hi
 have hi : i < 4 := hi
 rcases (by omega : i = 0 ∨ i = 1 ∨ i = 2 ∨ i = 3) with rfl | rfl | rfl | rfl
 ·exact h1
 ·exact h2
 ·exact h3
 ·exact h4
end Go.Proofs.YtdkpgodakmailaaGreatDoor
set_option linter.unusedVariables false
set_option linter.unusedSimpArgs false
namespace Go.Proofs.YtdkpgodakmailaaGreatDoor
open Go.RowKit Ev
def numB (w : List UInt8) (dg : Nat) (below : Bool) : Bool := match numR w dg with
 | some v => below || decide (0 ≤ v)
 | none => false
def numV (w : List UInt8) (dg : Nat) : Int := (numR w dg).getD 0
theorem numB_val {w : List UInt8} {dg : Nat} {b : Bool} (hd : dg ≤ 17) (h : numB w dg b = true) : atoV (ofL w) = numV w dg := by
 unfold numB at h
 unfold numV
 cases e : numR w dg with
 | none => rw [e] at h; cases h
 | some v => exact (test_w w hd).2 v e
theorem num_neg {w : List UInt8} {dg : Nat} {v : Int} (h : numR w dg = some v) : w.getD 0 0 = 45 ↔ v < 0 := by
 obtain ⟨e, _⟩ := numR_some h
 subst e
 rcases (by omega : v < 0 ∨ 0 ≤ v) with c | c
 ·rw [itoa_neg c]; simp [c]
 ·rw [itoa_pos c]
  have h45 := dec_head45 v.toNat
  have ne := dec_ne v.toNat
  constructor
  ·intro h
   cases hd : Lib.decDigits v.toNat with
   | nil => exact absurd hd ne
   | cons a l =>
    rw [hd] at h h45
    exact absurd (congrArg some (show a = 45 by simpa using h)) h45
  ·intro h; omega
def hitN (h : FHit) : List Int := [h.p.x, h.p.y, h.p.z, h.t.lo, h.t.hi, h.c.lo, h.c.hi]
def hitW (h : FHit) : ByteArray := wordsB (hitN h)
def hitsT (l : List FHit) : ByteArray := joinB (l.map hitW) ⟨#[59]⟩
def rgH (h : FHit) : Prop := inI h.p.x ∧ inI h.p.y ∧ inI h.p.z ∧ inI h.t.lo ∧ inI h.t.hi ∧ inI h.c.lo ∧ inI h.c.hi
theorem seven {h : FHit} {P : Int → Prop} (h1 : P h.p.x) (h2 : P h.p.y) (h3 : P h.p.z) (h4 : P h.t.lo) (h5 : P h.t.hi) (h6 : P h.c.lo) (h7 : P h.c.hi) : ∀ i, i < 7 → P ((hitN h).getD i 0) := by
 intro i hi
 rcases (by omega : i = 0 ∨ i = 1 ∨ i = 2 ∨ i = 3 ∨ i = 4 ∨ i = 5 ∨ i = 6) with rfl | rfl | rfl | rfl | rfl | rfl | rfl
 ·exact h1
 ·exact h2
 ·exact h3
 ·exact h4
 ·exact h5
 ·exact h6
 ·exact h7
theorem in7 {h : FHit} (g : rgH h) : ∀ i, i < (hitN h).length → -9223372036854775808 ≤ (hitN h).getD i 0 ∧ (hitN h).getD i 0 ≤ 9223372036854775807 := by
 obtain ⟨h1, h2, h3, h4, h5, h6, h7⟩ := g
 exact seven (P := inI) h1 h2 h3 h4 h5 h6 h7
theorem hitW_len {h : FHit} (g : rgH h) : (hitW h).size ≤ 147 := wordsB_len (l := hitN h) (in7 g)
theorem hitsT_len {l : List FHit} (h1 : l.length ≤ 10) (h2 : ∀ k, k < l.length → rgH (hitAt l k)) : (hitsT l).size ≤ 1480 := by
 have := joinB_len (l.map hitW) 59 (m := 147) (fun t ht => by
  obtain ⟨x, hx, rfl⟩ := List.mem_map.1 ht
  obtain ⟨i, hi, rfl⟩ := List.mem_iff_getElem.1 hx
  have g := h2 i hi
  rw [show hitAt l i = l[i] by simp [hitAt, List.getD, hi]] at g
  exact hitW_len g)
 rw [List.length_map] at this
 unfold hitsT
 omega
def okTo (s : ByteArray) (k : Nat) : Bool := Nat.beq (nPc 32 s) 7 && (List.range k).all fun j => numB (wAt 32 s j) 10 (decide (j < 3))
def phC (s : ByteArray) (i : Nat) : Int := if okTo s (i + 1) = true then numV (wAt 32 s i) 10 else 0
def hitOf (s : ByteArray) : FHit := ⟨⟨phC s 0, phC s 1, phC s 2⟩, ⟨phC s 3, phC s 4⟩, ⟨phC s 5, phC s 6⟩⟩
def hitB (s : ByteArray) : Bool := okTo s 7
theorem okTo_no {s : ByteArray} (h : nPc 32 s ≠ 7) (k : Nat) : okTo s k = false := by
 unfold okTo
 cases hb : Nat.beq (nPc 32 s) 7 with
 | false => rfl
 | true => exact absurd (Nat.eq_of_beq_eq_true hb) h
theorem okTo_yes {s : ByteArray} {k : Nat} (h : nPc 32 s = 7) (g : ∀ j, j < k → numB (wAt 32 s j) 10 (decide (j < 3)) = true) : okTo s k = true := by
 unfold okTo
 rw [h, Bool.and_eq_true]
 exact ⟨rfl, List.all_eq_true.2 fun j hj => g j (List.mem_range.1 hj)⟩
theorem phC_no {s : ByteArray} {i : Nat} (h : okTo s (i + 1) = false) : phC s i = 0 := if_neg (by rw [h]; simp)
theorem phC_yes {s : ByteArray} {i : Nat} (h : okTo s (i + 1) = true) : phC s i = numV (wAt 32 s i) 10 := if_pos h
def partB (s : ByteArray) (i : Nat) : ByteArray := ofL (wAt 59 s i)
theorem partB_size {s : ByteArray} {i : Nat} : (partB s i).size ≤ s.size := by unfold partB; rw [ofL_size]; exact wAt_len
def hsK (s : ByteArray) (k : Nat) : List FHit := (List.range k).map fun i => hitOf (partB s i)
def synH (s : ByteArray) : Bool := (List.range (nPc 59 s)).all fun i => hitB (partB s i)
def phE (s : ByteArray) : Int := if s.size > 60000 then 8 else if synH s = false then 7 else hitsE (hsK s (nPc 59 s))
def phL (s : ByteArray) : List FHit := if phE s = 0 then hsK s (nPc 59 s) else []
theorem hsK_len {s : ByteArray} {k : Nat} : (hsK s k).length = k := by simp [hsK]
theorem hsK_succ {s : ByteArray} {k : Nat} : hsK s (k + 1) = hsK s k ++ [hitOf (partB s k)] := by simp [hsK, List.range_succ]
theorem synH_no {s : ByteArray} {i : Nat} (h : i < nPc 59 s) (g : hitB (partB s i) = false) : synH s = false := by
 unfold synH
 rw [Bool.eq_false_iff]
 intro q
 have := List.all_eq_true.1 q i (List.mem_range.2 h)
 rw [g] at this; cases this
theorem synH_yes {s : ByteArray} (h : ∀ i, i < nPc 59 s → hitB (partB s i) = true) : synH s = true := List.all_eq_true.2 fun i hi => h i (List.mem_range.1 hi)
theorem phL_len (s : ByteArray) (h : s.size ≤ 100000) : (phL s).length ≤ 100001 := by
 unfold phL
 have := nPc_le 59 s
 split
 ·rw [hsK_len]; omega
 ·simp
theorem hit_back {h : FHit} (e : h.err = 0) : hitB (hitW h) = true ∧ hitOf (hitW h) = h := by
 obtain ⟨⟨⟨a1, a2⟩, ⟨b1, b2⟩, c1, c2⟩, ⟨d1, d2, d3⟩, e1, e2, e3⟩ := hit_ok e
 have d4 : 0 ≤ h.t.hi := by omega
 have e4 : 0 ≤ h.c.hi := by omega
 have n : nPc 32 (hitW h) = 7 := by unfold nPc hitW; rw [words_pcs (by simp [hitN]), List.length_map]; rfl
 have w : ∀ i, i < 7 → numR (wAt 32 (hitW h) i) 10 = some ((hitN h).getD i 0) := fun i hi => by
  unfold hitW
  rw [words_wAt (by simp [hitN]) hi]
  exact num_back (by decide) (seven (h := h) (P := fun x => x.natAbs < 10 ^ 10) (by omega) (by omega) (by omega) (by omega) (by omega) (by omega) (by omega) i hi)
 have g : ∀ j, j < 7 → numB (wAt 32 (hitW h) j) 10 (decide (j < 3)) = true := fun j hj => by
  unfold numB
  rw [w j hj]
  rcases (by omega : j = 0 ∨ j = 1 ∨ j = 2 ∨ j = 3 ∨ j = 4 ∨ j = 5 ∨ j = 6) with rfl | rfl | rfl | rfl | rfl | rfl | rfl
  ·rfl
  ·rfl
  ·rfl
  ·exact decide_eq_true d1
  ·exact decide_eq_true d4
  ·exact decide_eq_true e1
  ·exact decide_eq_true e4
 have k : ∀ j, j < 7 → phC (hitW h) j = (hitN h).getD j 0 := fun j hj => by
  rw [phC_yes (okTo_yes n fun i hi => g i (by omega))]
  unfold numV
  rw [w j hj]; rfl
 refine ⟨okTo_yes n g, ?_⟩
 unfold hitOf
 rw [k 0 (by omega), k 1 (by omega), k 2 (by omega), k 3 (by omega), k 4 (by omega), k 5 (by omega), k 6 (by omega)]
 rfl
theorem hits_back {l : List FHit} (h : hitsE l = 0) : phE (hitsT l) = 0 ∧ phL (hitsT l) = l := by
 obtain ⟨⟨l1, l2⟩, h2⟩ := hitsE_ok h
 have hl : l.length ≤ 10 := by omega
 have hr : ∀ k, k < l.length → rgH (hitAt l k) := fun k hk => by
  obtain ⟨⟨⟨a1, a2⟩, ⟨b1, b2⟩, c1, c2⟩, ⟨d1, d2, d3⟩, e1, e2, e3⟩ := hit_ok (h2 k hk)
  unfold rgH inI
  omega
 have hs := hitsT_len hl hr
 have hp : pcs 59 (hitsT l).data.toList = l.map fun x => (hitW x).data.toList := by
  have hd : (hitsT l).data.toList = jnC 59 (l.map fun x => (hitW x).data.toList) := by
   unfold hitsT
   rw [joinB_one, ofL_data, List.map_map]; rfl
  rw [hd]
  refine pcs_jn (by intro c; have := congrArg List.length c; simp at this; subst this; simp at l1) fun p hp => ?_
  obtain ⟨x, _, rfl⟩ := List.mem_map.1 hp
  unfold hitW
  rw [words_data]
  refine hasC_jn (by decide) fun q hq => ?_
  obtain ⟨n, _, rfl⟩ := List.mem_map.1 hq
  exact itoa_no (by decide) (by decide) n
 have np : nPc 59 (hitsT l) = l.length := by unfold nPc; rw [hp]; simp
 have hq : ∀ i, i < l.length → partB (hitsT l) i = hitW (hitAt l i) := fun i hi => by
  unfold partB wAt
  rw [hp, show (l.map fun x => (hitW x).data.toList).getD i [] = (hitW (hitAt l i)).data.toList by simp [hitAt, List.getD, hi]]
  exact ofL_back _
 have hw : ∀ i, i < l.length → hitB (partB (hitsT l) i) = true ∧ hitOf (partB (hitsT l) i) = hitAt l i := fun i hi => by
  rw [hq i hi]; exact hit_back (h2 i hi)
 have hk : hsK (hitsT l) l.length = l := by
  refine List.ext_getElem hsK_len fun i h4 h5 => ?_
  have e : (hsK (hitsT l) l.length)[i] = hitOf (partB (hitsT l) i) := by simp [hsK]
  rw [e, (hw i h5).2]
  simp [hitAt, List.getD, h5]
 have sy : synH (hitsT l) = true := synH_yes fun i hi => (hw i (by omega)).1
 have e : phE (hitsT l) = 0 := by
  unfold phE
  rw [if_neg (by omega), if_neg (by rw [sy]; simp), np, hk]
  exact h
 exact ⟨e, by unfold phL; rw [if_pos e, np, hk]⟩
theorem vet_rg {f : Int} {v : List Int} (h : vetE f v = 0) : (0 ≤ f ∧ f ≤ 8) ∧ ∀ i, i < v.length → 0 ≤ v.getD i 0 ∧ v.getD i 0 ≤ 7 := by
 obtain ⟨h1, _, h2⟩ := vet_ok h
 refine ⟨h1, fun i hi => ?_⟩
 have := (fn2 (show firstNZ [unl (senB (v.getD i 0)) 6, _] = 0 from h2 i hi)).1
 rw [unl_0 (by decide)] at this
 exact inB_true.1 this
def vtT (f : Int) (v : List Int) : ByteArray := wordsB (f :: v)
def allN (s : ByteArray) : Bool := (List.range (nPc 32 s)).all fun j => numB (wAt 32 s j) 3 false
def nvK (s : ByteArray) (k : Nat) : List Int := (List.range k).map fun j => numV (wAt 32 s j) 3
def pvX (s : ByteArray) : List Int := nvK s (nPc 32 s)
def pvE (s : ByteArray) : Int := if allN s = false then 7 else vetE ((pvX s).getD 0 0) ((pvX s).drop 1)
def pvF (s : ByteArray) : Int := if pvE s = 0 then (pvX s).getD 0 0 else 0
def pvS (s : ByteArray) : List Int := if pvE s = 0 then (pvX s).drop 1 else []
theorem nvK_len {s : ByteArray} {k : Nat} : (nvK s k).length = k := by simp [nvK]
theorem nvK_succ {s : ByteArray} {k : Nat} : nvK s (k + 1) = nvK s k ++ [numV (wAt 32 s k) 3] := by simp [nvK, List.range_succ]
theorem allN_no {s : ByteArray} {i : Nat} (h : i < nPc 32 s) (g : numB (wAt 32 s i) 3 false = false) : allN s = false := by
 unfold allN
 rw [Bool.eq_false_iff]
 intro q
 have := List.all_eq_true.1 q i (List.mem_range.2 h)
 rw [g] at this; cases this
theorem allN_yes {s : ByteArray} (h : ∀ i, i < nPc 32 s → numB (wAt 32 s i) 3 false = true) : allN s = true := List.all_eq_true.2 fun i hi => h i (List.mem_range.1 hi)
theorem pvS_len (s : ByteArray) (h : s.size ≤ 100000) : (pvS s).length ≤ 100001 := by
 unfold pvS
 have := nPc_le 32 s
 split
 ·rw [List.length_drop, pvX, nvK_len]; omega
 ·simp
theorem veto_back {f : Int} {v : List Int} (h : vetE f v = 0) : pvE (vtT f v) = 0 ∧ pvF (vtT f v) = f ∧ pvS (vtT f v) = v := by
 have hr := vet_rg h
 have n : nPc 32 (vtT f v) = v.length + 1 := by unfold nPc vtT; rw [words_pcs (by simp), List.length_map]; rfl
 have b : ∀ i, i < v.length + 1 → 0 ≤ (f :: v).getD i 0 ∧ (f :: v).getD i 0 ≤ 8 := fun i hi => by
  rcases i with _ | i
  ·exact hr.1
  ·have := hr.2 i (by omega)
   show 0 ≤ v.getD i 0 ∧ v.getD i 0 ≤ 8
   omega
 have w : ∀ i, i < v.length + 1 → numR (wAt 32 (vtT f v) i) 3 = some ((f :: v).getD i 0) := fun i hi => by
  unfold vtT
  rw [words_wAt (by simp) (by simpa using hi)]
  exact num_back (by decide) (by have := b i hi; omega)
 have al : allN (vtT f v) = true := allN_yes fun i hi => by
  unfold numB
  rw [w i (by omega)]
  show (false || decide (0 ≤ (f :: v).getD i 0)) = true
  rw [decide_eq_true (b i (by omega)).1]; rfl
 have hx : pvX (vtT f v) = f :: v := by
  unfold pvX
  refine List.ext_getElem (by rw [nvK_len, n]; rfl) fun i h3 h4 => ?_
  have hi : i < v.length + 1 := by simpa using h4
  have e : (nvK (vtT f v) (nPc 32 (vtT f v)))[i] = numV (wAt 32 (vtT f v) i) 3 := by simp [nvK]
  rw [e]
  unfold numV
  rw [w i hi]
  show (f :: v).getD i 0 = _
  simp [List.getD, hi]
 have e : pvE (vtT f v) = 0 := by
  unfold pvE
  rw [if_neg (by rw [al]; simp), hx]
  exact h
 refine ⟨e, ?_, ?_⟩
 ·unfold pvF; rw [if_pos e, hx]; rfl
 ·unfold pvS; rw [if_pos e, hx]; rfl
end Go.Proofs.YtdkpgodakmailaaGreatDoor
set_option linter.unusedVariables false
namespace Go.Proofs.YtdkpgodakmailaaGreatDoor
open Go.RowKit Ev
theorem rgh_of {d n : Nat} {c : Nat → Nat → CV} (f : ∀ i j, i < n → j < Tryz.prog.cellsOf 96 → ∃ κ, kindAt Tryz.prog 20 96 j = some κ ∧ okK Tryz.prog d κ (c i j)) : ∀ k, k < (listC n mkHit c).length → rgH (hitAt (listC n mkHit c) k) := by
 intro k hk
 have hk : k < n := by simpa [listC] using hk
 have hs : Tryz.prog.cellsOf 96 = 7 := by kernel_rfl
 obtain ⟨x0, e0, a0, b0⟩ := open_i64 (by kernel_rfl) (f k 0 hk (by rw [hs]; decide))
 obtain ⟨x1, e1, a1, b1⟩ := open_i64 (by kernel_rfl) (f k 1 hk (by rw [hs]; decide))
 obtain ⟨x2, e2, a2, b2⟩ := open_i64 (by kernel_rfl) (f k 2 hk (by rw [hs]; decide))
 obtain ⟨x3, e3, a3, b3⟩ := open_i64 (by kernel_rfl) (f k 3 hk (by rw [hs]; decide))
 obtain ⟨x4, e4, a4, b4⟩ := open_i64 (by kernel_rfl) (f k 4 hk (by rw [hs]; decide))
 obtain ⟨x5, e5, a5, b5⟩ := open_i64 (by kernel_rfl) (f k 5 hk (by rw [hs]; decide))
 obtain ⟨x6, e6, a6, b6⟩ := open_i64 (by kernel_rfl) (f k 6 hk (by rw [hs]; decide))
 have e : hitAt (listC n mkHit c) k = ⟨⟨x0, x1, x2⟩, ⟨x3, x4⟩, ⟨x5, x6⟩⟩ := by
  simp [hitAt, listC, mkHit, List.getD, hk, e0, e1, e2, e3, e4, e5, e6, cvInt]
 rw [e]
 exact ⟨⟨a0, b0⟩, ⟨a1, b1⟩, ⟨a2, b2⟩, ⟨a3, b3⟩, ⟨a4, b4⟩, ⟨a5, b5⟩, a6, b6⟩
theorem rgi_of {d n : Nat} {c : Nat → Nat → CV} (f : ∀ i j, i < n → j < Tryz.prog.cellsOf 3 → ∃ κ, kindAt Tryz.prog 20 3 j = some κ ∧ okK Tryz.prog d κ (c i j)) : ∀ k, k < (listC n mkInt c).length → -9223372036854775808 ≤ (listC n mkInt c).getD k 0 ∧ (listC n mkInt c).getD k 0 ≤ 9223372036854775807 := by
 intro k hk
 have hk : k < n := by simpa [listC] using hk
 have hs : Tryz.prog.cellsOf 3 = 1 := by kernel_rfl
 obtain ⟨x0, e0, a0, b0⟩ := open_i64 (by kernel_rfl) (f k 0 hk (by rw [hs]; decide))
 have e : (listC n mkInt c).getD k 0 = x0 := by
  simp [listC, mkInt, List.getD, hk, e0, cvInt]
 rw [e]
 exact ⟨a0, b0⟩
end Go.Proofs.YtdkpgodakmailaaGreatDoor
set_option linter.unusedVariables false
namespace Go.Proofs.YtdkpgodakmailaaGreatDoor
theorem change_and_shaped {H : Type} {enc : TypeId × Value → H} {a : Assume} {C : Checked} {os : Os} {f : FuncId} {fn : Func} {s : ChangeSpec} {conds : List PathCond} {apart fresh handsOn again : Bool} {X : World → Array Value → Prop}
  (hX : ∀ (w w' : World) (args : Array Value), w.heap = w'.heap → X w args → X w' args)
  (own : ownKnob C.prog.godebug = none) (started : os.Started) (noInit : C.prog.inits.idxOf? f = none) (hfn : C.prog.funcs[f]? = some fn)
  (witness : ∃ (w : World) (tape : Tape) (i : Input), w.os = os ∧ (w.forCall tape i).Shaped C.prog ∧ i.vars = [] ∧ Input.okWide C.prog (w.forCall tape i) .any w.heap.size f i ∧
   ((s.pre enc C.prog fn conds apart (w.forCall tape i).memory i.args ∧ X (w.forCall tape i).memory i.args) ∧ sizedMet enc C.prog fn (OpenSpec.ofChange s) apart (w.forCall tape i).memory i.args) ∧ a.holds C.prog (lone (Frame.enter C.prog f i.args .normal) [] (w.forCall tape i)))
  (contract : ∀ (W : World) (base : Nat) (args : Array Value) (ds gs : List (DataW H)) (before : List MemPlace),
   (∀ (j : Nat) t v, fn.params[j]? = some t → args[j]? = some v → Value.okWide C.prog W .any base t v) →
   DataW.Whole enc C.prog fn.params.toList s.vars apart W args.toList ds gs before →
   conds.all (PathCond.test C.prog ⟨fn.params.toList, ds, s.plain.varTypes C.prog, gs⟩) = true →
   (DataW.weightsEach C.prog (fn.params.toList ++ s.plain.varTypes C.prog) (ds ++ gs)).all (· ≤ reachBytes) = true → (W.ShapedOpen C.prog ∧ X W args) →
   a.holds C.prog (lone (Frame.enter C.prog f args .normal) [] W) →
   Calls C.prog f args W fun e W' => ∃ v, e = .returned v ∧ s.post enc C.prog fn apart fresh handsOn again W args v W') :
  ReturnsInHanded a C os f .any (fun w args => (s.pre enc C.prog fn conds apart w args ∧ X w args) ∧ sizedMet enc C.prog fn (OpenSpec.ofChange s) apart w args) (s.post enc C.prog fn apart fresh handsOn again) := by
 refine returnsInHanded_of_calls own started noInit witness ?_
 intro w tape i _ hsh _ hok hpre hholds
 obtain ⟨_, _, _, fn', hfn', _, _, _, _, hval⟩ := hok
 have e : fn' = fn := Option.some.inj (hfn'.symm.trans hfn)
 subst e
 obtain ⟨⟨⟨ds, gs, before, hw, hc⟩, hx⟩, hz⟩ := hpre
 have hw' := DataW.Whole.of_heap (w' := w.forCall tape i) (by rfl) hw
 refine (contract (w.forCall tape i) w.heap.size i.args ds gs before hval hw' hc (hz.weights hw) ⟨hsh, hX _ _ _ (by rfl) hx⟩ hholds).mono fun e W' ⟨v, he, hp⟩ => ?_
 subst he
 exact ChangeSpec.post_blind hp
open Go.ChangeShapes Go.WideShapes Go.ChangeAt Go.RowKit Ev
def laidL : List (String × DataW Unit) := [("math/bits.deBruijn32tab", Rows.laid_math_bits_deBruijn32tab), ("math/bits.deBruijn64tab", Rows.laid_math_bits_deBruijn64tab), ("internal/strconv.uint64pow10", Rows.laid_internal_strconv_uint64pow10), ("unicode/utf8.acceptRanges", Rows.laid_unicode_utf8_acceptRanges), ("strconv.ErrRange", Rows.laid_strconv_ErrRange), ("strconv.ErrSyntax", Rows.laid_strconv_ErrSyntax), ("unicode/utf8.first", Rows.laid_unicode_utf8_first)]
theorem laid_met (os : Os) (args : Array Value) : laidMetH Tryz.prog laidL ((World.laidAll Tryz.prog os laidL).forCall (fun _ _ => 0) ⟨#[], args, []⟩).memory := by
 rw [MakeChecks.laidMetH_plain _ _ _ (by kernel_rfl)]
 exact laidMet_laidAll _ (by kernel_rfl) (by kernel_rfl)
theorem lone_of {W : World} {n : String} {d : DataW Unit} (h : laidMetH Tryz.prog laidL W) (hf : laidL.filter (fun x => x.1 == n) = [(n, d)]) (hp : d.handleName?.isNone = true) :
  ∃ g t cs fuel p, Tryz.prog.globalNamed n = some g ∧ (Tryz.prog.globals[g]?).map (·.type) = some t ∧ W.var? Tryz.prog n = some cs ∧ DataW.trod (fun _ => ()) Tryz.prog W 0 (fun _ => true) false fuel t cs.toList = some (d, p) := by
 have h1 := h.filter (fun x => x.1 == n)
 rw [hf, MakeChecks.laidMetH_plain _ _ _ (by simp [hp])] at h1
 obtain ⟨ps, ⟨g1, t1, cs1, f1, p1, q1, hg1, ht1, hv1, hd1, _, _⟩, _, _⟩ := h1
 exact ⟨g1, t1, cs1, f1, p1, hg1, ht1, hv1, hd1⟩
set_option maxRecDepth 100000 in
theorem table_of {W : World} {n : String} {d : DataW Unit} {g : Nat} {t e : TypeId} {k : IntKind} {l : List Int} (h : laidMetH Tryz.prog laidL W) (hf : laidL.filter (fun x => x.1 == n) = [(n, d)]) (hp : d.handleName?.isNone = true)
  (hg : Tryz.prog.globalNamed n = some g) (ht : (Tryz.prog.globals[g]?).map (·.type) = some t) (hu : Tryz.prog.underlying t = some (.array l.length e)) (he : Tryz.prog.underlying e = some (.int k)) (c1 : Tryz.prog.cellsOf e = 1) (cn : Tryz.prog.cellsOf t = l.length)
  (hl : d = .agg (l.map fun n => DataW.lit (Lit.int k n))) : W.var? Tryz.prog n = some (l.map (Value.int k)).toArray := by
 obtain ⟨g1, t1, cs1, f1, p1, hg1, ht1, hv1, hd1⟩ := lone_of h hf hp
 obtain rfl := Option.some.inj (hg.symm.trans hg1)
 obtain rfl := Option.some.inj (ht.symm.trans ht1)
 obtain ⟨xs, m1, rfl, hx1, hlen, hn3, hel⟩ := DataW.trod_array hu hd1
 simp only [Prod.mk.injEq] at hx1
 have h2 := hl.symm.trans hx1.1
 injection h2 with h2
 rw [hv1]
 congr 1
 apply Array.ext'
 apply List.ext_getElem?
 intro i
 by_cases hi : i < l.length
 ·have h0 := hel i hi
  have hix : i < xs.length := by omega
  rw [List.getElem?_eq_getElem hix] at h0
  obtain ⟨v, e1, e2, _⟩ := DataW.trod_int he h0
  have h3 := congrArg (fun l => l[i]?) h2
  simp only [List.getElem?_map, List.getElem?_eq_getElem hix, List.getElem?_eq_getElem hi, Option.map_some, e2] at h3
  simp only [Option.some.injEq, DataW.lit.injEq, Lit.int.injEq, true_and] at h3
  rw [c1, Nat.mul_one] at e1
  have e3 := congrArg (fun l => l[0]?) e1
  simp only [List.getElem?_take, List.getElem?_drop, Nat.add_zero] at e3
  simp only [List.getElem?_map, List.getElem?_eq_getElem hi, Option.map_some, h3]
  simpa using e3
 ·rw [List.getElem?_eq_none (by omega), List.getElem?_eq_none (by simp; omega)]
set_option maxRecDepth 100000 in
theorem err_of {W : World} {n : String} {d x : DataW Unit} {nm : String} {g : Nat} {t : TypeId} {ms : Array (String × TypeId)} (h : laidMetH Tryz.prog laidL W) (hf : laidL.filter (fun x => x.1 == n) = [(n, d)]) (hp : d.handleName?.isNone = true)
  (hg : Tryz.prog.globalNamed n = some g) (ht : (Tryz.prog.globals[g]?).map (·.type) = some t) (hu : Tryz.prog.underlying t = some (.interface ms)) (hl : d = .iface nm x) : ∃ u v, W.cell? ⟨g, 0, none⟩ = some (.iface u v) := by
 obtain ⟨g1, t1, cs1, f1, p1, hg1, ht1, hv1, hd1⟩ := lone_of h hf hp
 obtain rfl := Option.some.inj (hg.symm.trans hg1)
 obtain rfl := Option.some.inj (ht.symm.trans ht1)
 subst hl
 rw [World.var?_cell hg hv1 0]
 cases f1 with
 | zero => simp [DataW.trod] at hd1
 | succ m =>
  unfold DataW.trod at hd1
  rw [hu] at hd1
  obtain ⟨l⟩ := cs1
  rcases l with _ | ⟨v, _ | ⟨v2, r⟩⟩
  ·simp at hd1
  ·cases v
   case iface u v => exact ⟨u, v, by simp⟩
   all_goals exfalso
   all_goals simp at hd1
  ·exfalso; simp at hd1
set_option maxRecDepth 100000 in
theorem gd_of {W : World} (hs : W.ShapedOpen Tryz.prog) (h : laidMetH Tryz.prog laidL W) : Gd W := by
 have a := table_of (k := .u64) (t := 271) (e := 241) (g := 7) (l := [1, 10, 100, 1000, 10000, 100000, 1000000, 10000000, 100000000, 1000000000, 10000000000, 100000000000, 1000000000000, 10000000000000, 100000000000000, 1000000000000000, 10000000000000000, 100000000000000000, 1000000000000000000, 10000000000000000000]) h (n := "internal/strconv.uint64pow10") rfl rfl (by kernel_rfl) (by kernel_rfl) (by kernel_rfl) (by kernel_rfl) (by kernel_rfl) (by kernel_rfl) rfl
 have b := table_of (k := .u8) (t := 262) (e := 5) (g := 6) (l := tab64) h (n := "math/bits.deBruijn64tab") rfl rfl (by kernel_rfl) (by kernel_rfl) (by kernel_rfl) (by kernel_rfl) (by kernel_rfl) (by kernel_rfl) rfl
 have c := err_of (g := 4) (t := 175) h (n := "strconv.ErrRange") rfl rfl (by kernel_rfl) (by kernel_rfl) Tryz.underlying175 rfl
 have d := err_of (g := 3) (t := 175) h (n := "strconv.ErrSyntax") rfl rfl (by kernel_rfl) (by kernel_rfl) Tryz.underlying175 rfl
 have e : ∃ m, W.cell? ⟨2, 0, none⟩ = some (.int .i64 m) := cell_of_shapedOpen_int (t := 3) (zero := #[.int .i64 0]) hs (Nat.le_of_ble_eq_true (by kernel_rfl)) (by kernel_rfl) rfl (by kernel_rfl) (by kernel_rfl) Tryz.underlying3
 refine ⟨fun i hi => ?_, ⟨?_, e, d, c⟩⟩
 ·have hg : Tryz.prog.globalNamed "math/bits.deBruijn64tab" = some 6 := by kernel_rfl
  rw [World.var?_cell hg b i]
  have hi : i < tab64.length := hi
  simp [List.getD, hi]
 ·have hg : Tryz.prog.globalNamed "internal/strconv.uint64pow10" = some 7 := by kernel_rfl
  unfold World.var? at a
  rw [hg] at a
  exact a
end Go.Proofs.YtdkpgodakmailaaGreatDoor
set_option linter.unusedVariables false
set_option linter.unusedSimpArgs false
namespace Go.Proofs.YtdkpgodakmailaaGreatDoor
open Go.RowKit Ev
theorem okTo_succ (s : ByteArray) (k : Nat) : okTo s (k + 1) = (okTo s k && numB (wAt 32 s k) 10 (decide (k < 3))) := by
 unfold okTo
 rw [List.range_succ, List.all_append, Bool.and_assoc]
 simp
theorem okTo_mono {s : ByteArray} {j : Nat} (h : okTo s j = false) (hj : j ≤ 7) : hitB s = false := by
 have key : ∀ d, okTo s (j + d) = false := fun d => by
  induction d with
  | zero => exact h
  | succ d ih => rw [← Nat.add_assoc, okTo_succ, ih]; rfl
 have := key (7 - j)
 rwa [show j + (7 - j) = 7 by omega] at this
theorem spl_cut (s : ByteArray) (c : UInt8) : splB s ⟨#[c]⟩ = cutL s c := by
 have e := ofL_back s
 rw [← e, splB_one]
 rfl
theorem numsP_intg (l : List Int) : numsP 1 (l.map fun n => [CV.v (.int .i64 n)]).length (genC (l.map fun n => [CV.v (.int .i64 n)])) := by
 rw [List.length_map]
 intro i j hi hj
 obtain rfl : j = 0 := by omega
 unfold genC
 simp only [List.getD_eq_getElem?_getD, List.getElem?_map, List.getElem?_eq_getElem hi, Option.map_some, Option.getD_some]
 rfl
theorem intg_listC (l : List Int) : listC (l.map fun n => [CV.v (.int .i64 n)]).length mkInt (genC (l.map fun n => [CV.v (.int .i64 n)])) = l := by
 rw [List.length_map]
 refine listC_id 0 fun i hi => ?_
 unfold mkInt genC
 simp only [List.getD_eq_getElem?_getD, List.getElem?_map, List.getElem?_eq_getElem hi, Option.map_some, Option.getD_some]
 rfl
theorem leC_num (l : List Int) : LeC1 (.sl 1 l.length (numsC .i64 l)) (.sl 1 l.length (intsC l)) := leSlC fun i j hi hj => LeC1.refl _
theorem numsP_drop (l : List Int) : numsP 1 (l.length - 1) (fun i j => numsC .i64 l (1 + i) j) := fun i j hi hj => rfl
theorem drop_getD (l : List Int) (i : Nat) : (l.drop 1).getD i 0 = l.getD (1 + i) 0 := by simp [List.getD, Nat.add_comm]
theorem drop_listC (l : List Int) : listC (l.length - 1) mkInt (fun i j => numsC .i64 l (1 + i) j) = l.drop 1 := by
 have := listC_id (mk := mkInt) (l := l.drop 1) (c := fun i j => numsC .i64 l (1 + i) j) 0 fun i hi => (drop_getD l i).symm
 rwa [List.length_drop] at this
theorem leC_drop (l : List Int) : LeC1 (.sl 1 (l.length - 1) (fun i j => numsC .i64 l (1 + i) j)) (.sl 1 (l.drop 1).length (intsC (l.drop 1))) := by
 rw [List.length_drop]
 refine leSlC fun i j hi hj => ?_
 unfold intsC
 rw [drop_getD]
 exact LeC1.refl _
def Sl85 : Sum := addS S84 115 con_Itoa
theorem VSl85 : Valid Tryz.prog Sl85 := Valid.add VS84 ok_Itoa
def Sl86 : Sum := addS Sl85 116 con_Trim
theorem VSl86 : Valid Tryz.prog Sl86 := Valid.add VSl85 ok_Trim
def Sl87 : Sum := addS Sl86 114 con_Atoi
theorem VSl87 : Valid Tryz.prog Sl87 := Valid.add VSl86 ok_Atoi
def Sl88 : Sum := addS Sl87 87 con_Join
theorem VSl88 : Valid Tryz.prog Sl88 := Valid.add VSl87 ok_Join
def Sl89 : Sum := addS Sl88 138 con_Split
theorem VSl89 : Valid Tryz.prog Sl89 := Valid.add VSl88 ok_Split
def Sl90 : Sum := addS Sl89 63 con_SplitSeq
theorem VSl90 : Valid Tryz.prog Sl90 := Valid.add VSl89 ok_SplitSeq
def Ilib : It := addM noIt 150 it_Split
theorem VIlib : ValidIt Tryz.prog Ilib := ValidIt.addM ValidIt.no ok_itSplit
def mk_flash_words_0 (l : List Int) (v0_0 : List (List CV)) (v0_1 : Int) : DS := ⟨[none, none, none, some (.t (.c (.os 3))), none, none, some (.t (.c (.sl 1 l.length (intsC l)))), some (.t (.c (.v (.int .i64 ((l.length : Nat) : Int))))), some (.t (.c (.v (.int .i64 v0_1)))), none, none, none, none, none, none, none, none, none, none, none], [none, none, none, some (.gen 9 1 v0_0), none, none, none, none, none, none, none, none, none, none, none, none, none, none, none, none]⟩
def vc_flash_words (J : Inv) (l : List Int) (post : DV → Prop) : Prop := ∃ n, J 0 (n :: []) (mk_flash_words_0 l ([]) 0)
def ann_flash_words : Ann := ⟨fun _ => none, fun b => lookA b [(0, (none, some ⟨[6, 7, 8], [], [(3, .gen 9 1 [])]⟩))], fun _ => [], Ilib, false, fun _ => none, fun _ => none⟩
theorem ev_flash_words (J : Inv) (l : List Int) (post : DV → Prop) : evFn Tryz.prog tab Sl90 ann_flash_words J Tryz.f66 [.t (.c (.sl 1 l.length (intsC l)))] post = vc_flash_words J l post := by kernel_rfl
theorem fit_flash_words : okFn ann_flash_words Tryz.f66 = true := by kernel_rfl
def rd_flash_words_0 (J : Inv) (l : List Int) (v0_0 : List (List CV)) (v0_1 : Int) (nn0 : Nat) (post : DV → Prop) : Prop := cond (decide (v0_1 < ((l.length : Nat) : Int))) ((0 ≤ v0_1 ∧ v0_1 < ((l.length : Nat) : Int)) ∧ ((-9223372036854775808 ≤ (l.getD v0_1.toNat 0) ∧ (l.getD v0_1.toNat 0) ≤ 9223372036854775807) ∧ ((roomP 16 (v0_0.length + ([[.v (.string (itoaB (l.getD v0_1.toNat 0)))]] : List (List CV)).length)) ∧ (lt (IntKind.i64.wrap (v0_1 + (1 : Int))) fun x1 => J 0 (nn0 :: []) (mk_flash_words_0 l (v0_0 ++ ([[.v (.string (itoaB (l.getD v0_1.toNat 0)))]] : List (List CV))) x1))))) ((txP v0_0.length (genC v0_0) ∧ (txOf v0_0.length (genC v0_0)).length ≤ 1000000 ∧ (joinB (txOf v0_0.length (genC v0_0)) (⟨#[32]⟩)).size ≤ 1000000000) ∧ (post (.t (.c (.v (.string (joinB (txOf v0_0.length (genC v0_0)) (⟨#[32]⟩))))))))
theorem er_flash_words_0 (J : Inv) (l : List Int) (v0_0 : List (List CV)) (v0_1 : Int) (nn0 : Nat) (post : DV → Prop) : round Tryz.prog tab Sl90 ann_flash_words J Tryz.f66 post 0 (nn0 :: []) (mk_flash_words_0 l v0_0 v0_1) = rd_flash_words_0 J l v0_0 v0_1 nn0 post := by kernel_rfl
theorem lp_flash_words (J : Inv) (post : DV → Prop) : AllG J (loopsFn Tryz.prog tab Sl90 ann_flash_words J Tryz.f66 post) = (((∀ F s, ¬ J 0 (0 :: F) s) ∧ ∀ n F s, J 0 ((n + 1) :: F) s → round Tryz.prog tab Sl90 ann_flash_words J Tryz.f66 post 0 (n :: F) s) ∧ True) := by kernel_rfl
def J_flash_words (l : List Int) : Inv := fun b F s => match b, F with
 | 0, [nn0] => ∃ (v0_0 : List (List CV)) (v0_1 : Int), s = mk_flash_words_0 l v0_0 v0_1 ∧ ((l.length ≤ 100 ∧ (∀ i, i < (l).length → -9223372036854775808 ≤ (l).getD i 0 ∧ (l).getD i 0 ≤ 9223372036854775807)) ∧ 0 ≤ v0_1 ∧ v0_1 ≤ l.length ∧ (nn0 : Int) + v0_1 = l.length + 1 ∧ v0_0 = ((l.take v0_1.toNat).map itoaB).map ttCv)
 | _, _ => False
theorem rnd_flash_words_0 (l : List Int) (v0_0 : List (List CV)) (v0_1 : Int) (nn0 : Nat) (hp : (l).length ≤ 100 ∧ (∀ i, i < (l).length → -9223372036854775808 ≤ (l).getD i 0 ∧ (l).getD i 0 ≤ 9223372036854775807)) (hi : (l.length ≤ 100 ∧ (∀ i, i < (l).length → -9223372036854775808 ≤ (l).getD i 0 ∧ (l).getD i 0 ≤ 9223372036854775807)) ∧ 0 ≤ v0_1 ∧ v0_1 ≤ l.length ∧ ((nn0 + 1) : Int) + v0_1 = l.length + 1 ∧ v0_0 = ((l.take v0_1.toNat).map itoaB).map ttCv) : rd_flash_words_0 (J_flash_words l) l v0_0 v0_1 nn0 (fun r => LeD r (.t (.c (.v (.string (wordsB l)))))) := by
 obtain ⟨q, i1, i2, i3, i4⟩ := hi
 obtain ⟨k, rfl⟩ : ∃ k : Nat, v0_1 = k := ⟨v0_1.toNat, by omega⟩
 have hk : (k : Int).toNat = k := rfl
 rw [hk] at i4
 subst i4
 unfold rd_flash_words_0
 refine cond_i (fun h => ?_) (fun h => ?_)
 ·have hlt : k < l.length := by have := of_decide_eq_true h; omega
  have b := q.2 k hlt
  rw [Int.toNat_natCast]
  refine ⟨⟨by omega, by omega⟩, b, ⟨by simp; omega, by simp [maxLen]; omega⟩, lt_i fun x1 h1 => ?_⟩
  rw [wi (by omega)] at h1
  subst h1
  refine ⟨_, _, rfl, q, by omega, by omega, by omega, ?_⟩
  rw [ttCv_snoc, map_snoc, ← take_snoc l 0 hlt]
  rfl
 ·have e : k = l.length := by have := of_decide_eq_false h; omega
  subst e
  rw [List.take_length]
  have w := wordsB_len q.2
  refine ⟨⟨txP_ttg _, by rw [ttg_of]; simp; omega, by rw [ttg_of]; exact Nat.le_trans w (by omega)⟩, ?_⟩
  rw [ttg_of]
  exact LeD.refl _
theorem zero_flash_words_0 (l : List Int) (v0_0 : List (List CV)) (v0_1 : Int)  (hi : (l.length ≤ 100 ∧ (∀ i, i < (l).length → -9223372036854775808 ≤ (l).getD i 0 ∧ (l).getD i 0 ≤ 9223372036854775807)) ∧ 0 ≤ v0_1 ∧ v0_1 ≤ l.length ∧ (0 : Int) + v0_1 = l.length + 1 ∧ v0_0 = ((l.take v0_1.toNat).map itoaB).map ttCv) : False := by
 omega
theorem spec_flash_words (l : List Int) (hp : (l).length ≤ 100 ∧ (∀ i, i < (l).length → -9223372036854775808 ≤ (l).getD i 0 ∧ (l).getD i 0 ≤ 9223372036854775807)) : vc_flash_words (J_flash_words l) l (fun r => LeD r (.t (.c (.v (.string (wordsB l)))))) := by
 unfold vc_flash_words
 exact ⟨l.length + 1, [], 0, rfl, hp, by omega, by omega, by omega, rfl⟩
theorem all_flash_words (l : List Int) (hp : (l).length ≤ 100 ∧ (∀ i, i < (l).length → -9223372036854775808 ≤ (l).getD i 0 ∧ (l).getD i 0 ≤ 9223372036854775807)) : AllG (J_flash_words l) (loopsFn Tryz.prog tab Sl90 ann_flash_words (J_flash_words l) Tryz.f66 (fun r => LeD r (.t (.c (.v (.string (wordsB l))))))) := by
 rw [lp_flash_words]
 refine ⟨⟨?_, ?_⟩, trivial⟩
 ·intro F s h
  obtain _ | ⟨g, F⟩ := F
  case cons => exact h.elim
  obtain ⟨w0, w1, rfl, hi⟩ := h
  exact zero_flash_words_0 l w0 w1 hi
 ·intro n F s h
  obtain _ | ⟨g, F⟩ := F
  case cons => exact h.elim
  obtain ⟨w0, w1, rfl, hi⟩ := h
  rw [er_flash_words_0]
  exact rnd_flash_words_0 l _ _ _ hp hi
def con_flash_words : Con := fun args => match args with
 | [.t (.c (.sl 1 n_l c_l))] => some (.t (.c (.v (.string (wordsB (listC n_l mkInt c_l))))), some (numsP 1 n_l c_l ∧ ((listC n_l mkInt c_l)).length ≤ 100 ∧ (∀ i, i < ((listC n_l mkInt c_l)).length → -9223372036854775808 ≤ ((listC n_l mkInt c_l)).getD i 0 ∧ ((listC n_l mkInt c_l)).getD i 0 ≤ 9223372036854775807)), false)
 | _ => none
theorem ok_flash_words : Ok Tryz.prog 66 con_flash_words := by
 refine Ok.fn (ann := ann_flash_words) mixed tabOK VSl90 VIlib (fn := Tryz.f66) (by kernel_rfl) (by kernel_rfl) fit_flash_words fun args r pre fresh h hp => ?_
 unfold con_flash_words at h
 split at h
 ·rename_i n_l c_l
  cases h
  obtain ⟨hp0, hp⟩ := hp
  refine ⟨rfl, J_flash_words (listC n_l mkInt c_l), [.t (.c (.sl 1 ((listC n_l mkInt c_l).length) (intsC (listC n_l mkInt c_l))))], ?_, Nat.le_of_ble_eq_true (by kernel_rfl), ?_, ?_⟩
  ·exact (LeA_cons (leT_c ((leL_int hp0))) LeA_nil)
  ·rw [ev_flash_words]; exact spec_flash_words (listC n_l mkInt c_l) hp
  ·exact all_flash_words (listC n_l mkInt c_l) hp
 ·cases h
def Sha91 : Sum := addS Sl90 66 con_flash_words
theorem VSha91 : Valid Tryz.prog Sha91 := Valid.add VSl90 ok_flash_words
def vc_flash_number (tx : ByteArray) (digits : Int) (below : Bool) (post : DV → Prop) : Prop := (tx.size ≤ 1000000000) ∧ ((cond (atoB tx) ((-9223372036854775808 ≤ (atoV tx) ∧ (atoV tx) ≤ 9223372036854775807) ∧ (cond (((itoaB (atoV tx)) : ByteArray).toList == (tx : ByteArray).toList) (cond below ((true = true) ∧ (True)) (cond (decide ((atoV tx) ≥ (0 : Int))) (True) ((false = false) ∧ (True)))) ((false = false) ∧ ((false = false) ∧ (True))))) ((false = false) ∧ ((false = false) ∧ ((false = false) ∧ (True))))) ∧ (lt ((bif (atoB tx) then (bif (((itoaB (atoV tx)) : ByteArray).toList == (tx : ByteArray).toList) then (bif below then (atoV tx) else (bif decide ((atoV tx) ≥ (0 : Int)) then (atoV tx) else (atoV tx))) else (atoV tx)) else (atoV tx))) fun x1 => lt ((bif (atoB tx) then (bif (((itoaB (atoV tx)) : ByteArray).toList == (tx : ByteArray).toList) then (bif below then decide (((((trimB tx (⟨#[45]⟩)) : ByteArray).size : Nat) : Int) ≤ digits) else (bif decide ((atoV tx) ≥ (0 : Int)) then decide (((((trimB tx (⟨#[45]⟩)) : ByteArray).size : Nat) : Int) ≤ digits) else false)) else false) else false)) fun x2 => post (.tu [.c (.v (.int .i64 x1)), .c (.v (.bool x2))])))
def ann_flash_number : Ann := ⟨fun _ => none, fun _ => none, fun _ => [], Ilib, false, fun r => lookA r [(2, (4, [6, 7]))], fun _ => none⟩
theorem ev_flash_number (J : Inv) (tx : ByteArray) (digits : Int) (below : Bool) (post : DV → Prop) : evFn Tryz.prog tab Sha91 ann_flash_number J Tryz.f64 [.t (.c (.v (.string tx))), .t (.c (.v (.int .i64 digits))), .t (.c (.v (.bool below)))] post = vc_flash_number tx digits below post := by kernel_rfl
theorem fit_flash_number : okFn ann_flash_number Tryz.f64 = true := by kernel_rfl
theorem lp_flash_number (J : Inv) (post : DV → Prop) : AllG J (loopsFn Tryz.prog tab Sha91 ann_flash_number J Tryz.f64 post) = (True) := by kernel_rfl
theorem spec_flash_number (tx : ByteArray) (digits : Int) (below : Bool) (hp : 0 ≤ digits ∧ digits ≤ 17 ∧ (tx).size ≤ 100000000) : vc_flash_number tx digits below (fun r => LeD r (.tu [.c (.v (.int .i64 (atoV tx))), .c (.v (.bool (numB (tx).data.toList (digits).toNat below)))])) := by
 unfold vc_flash_number
 obtain ⟨dg, rfl⟩ : ∃ d : Nat, digits = d := ⟨digits.toNat, by omega⟩
 have t := test_w tx.data.toList (dg := dg) (by omega)
 have bd := ato_bd (w := tx.data.toList)
 rw [ofL_back] at t bd
 refine ⟨by omega, cond_i (fun h => ⟨bd h, cond_i (fun _ => cond_i (fun _ => ⟨rfl, trivial⟩) (fun _ => cond_i (fun _ => trivial) (fun _ => ⟨rfl, trivial⟩))) (fun _ => ⟨rfl, rfl, trivial⟩)⟩) (fun _ => ⟨rfl, rfl, rfl, trivial⟩), lt_i fun x1 h1 => lt_i fun x2 h2 => ?_⟩
 have e1 : x1 = atoV tx := by
  rw [← h1]
  cases atoB tx <;> cases ((itoaB (atoV tx)).toList == tx.toList) <;> cases below <;> cases decide (atoV tx ≥ 0) <;> rfl
 have key : ∀ A B C D b : Bool, (bif A then (bif B then (bif b then C else (bif D then C else false)) else false) else false) = ((bif A then (bif B then C else false) else false) && (b || D)) := by decide
 rw [key, t.1] at h2
 have e2 : x2 = numB tx.data.toList dg below := by
  rw [← h2]
  unfold numB
  cases e : numR tx.data.toList dg with
  | none => rfl
  | some v =>
   rw [t.2 v e]
   show (true && (below || decide (v ≥ 0))) = (below || decide (0 ≤ v))
   rw [Bool.true_and]
 rw [e1, e2, Int.toNat_natCast]
 exact LeD.refl _
def con_flash_number : Con := fun args => match args with
 | [.t (.c (.v (.string tx))), .t (.c (.v (.int .i64 digits))), .t (.c (.v (.bool below)))] => some (.tu [.c (.v (.int .i64 (atoV tx))), .c (.v (.bool (numB (tx).data.toList (digits).toNat below)))], some (0 ≤ digits ∧ digits ≤ 17 ∧ (tx).size ≤ 100000000), false)
 | _ => none
theorem ok_flash_number : Ok Tryz.prog 64 con_flash_number := by
 refine Ok.fn (ann := ann_flash_number) mixed tabOK VSha91 VIlib (fn := Tryz.f64) (by kernel_rfl) (by kernel_rfl) fit_flash_number fun args r pre fresh h hp => ?_
 unfold con_flash_number at h
 split at h
 ·rename_i tx digits below
  cases h
  refine ⟨rfl, fun _ _ _ => False, _, LeA.refl _, Nat.le_of_ble_eq_true (by kernel_rfl), ?_, ?_⟩
  ·rw [ev_flash_number]; exact spec_flash_number tx digits below hp
  ·rw [lp_flash_number]; trivial
 ·cases h
def Sha92 : Sum := addS Sha91 64 con_flash_number
theorem VSha92 : Valid Tryz.prog Sha92 := Valid.add VSha91 ok_flash_number
def mk_flash_FormatHits_0 (l : List FHit) (v0_0 : List (List CV)) (v0_1 : Int) : DS := ⟨[none, none, none, some (.t (.c (.os 3))), none, none, some (.t (.c (.sl 7 l.length (hitsC l)))), some (.t (.c (.v (.int .i64 ((l.length : Nat) : Int))))), some (.t (.c (.v (.int .i64 v0_1)))), none, none, none, none, none, none, none, none, none, none, none, none, none, none, none, none, none, none, none, none, none, none, none, none, none, none, none, none, none, none, none, none], [none, none, none, some (.gen 9 1 v0_0), none, none, none, none, none, none, none, none, none, none, none, none, none, none, none, none, none, none, none, none, none, none, none, none, none, none, none, none, none, none, none, none, none, none, none, none, none]⟩
def vc_flash_FormatHits (J : Inv) (l : List FHit) (post : DV → Prop) : Prop := ∃ n, J 0 (n :: []) (mk_flash_FormatHits_0 l ([]) 0)
def ann_flash_FormatHits : Ann := ⟨fun _ => none, fun b => lookA b [(0, (none, some ⟨[6, 7, 8], [], [(3, .gen 9 1 [])]⟩))], fun _ => [], Ilib, false, fun _ => none, fun _ => none⟩
theorem ev_flash_FormatHits (J : Inv) (l : List FHit) (post : DV → Prop) : evFn Tryz.prog tab Sha92 ann_flash_FormatHits J Tryz.f31 [.t (.c (.sl 7 l.length (hitsC l)))] post = vc_flash_FormatHits J l post := by kernel_rfl
theorem fit_flash_FormatHits : okFn ann_flash_FormatHits Tryz.f31 = true := by kernel_rfl
def rd_flash_FormatHits_0 (J : Inv) (l : List FHit) (v0_0 : List (List CV)) (v0_1 : Int) (nn0 : Nat) (post : DV → Prop) : Prop := cond (decide (v0_1 < ((l.length : Nat) : Int))) ((0 ≤ v0_1 ∧ v0_1 < ((l.length : Nat) : Int)) ∧ ((numsP 1 7 (genC [[.v (.int .i64 ((hitAt l v0_1.toNat).p.x))], [.v (.int .i64 ((hitAt l v0_1.toNat).p.y))], [.v (.int .i64 ((hitAt l v0_1.toNat).p.z))], [.v (.int .i64 ((hitAt l v0_1.toNat).t.lo))], [.v (.int .i64 ((hitAt l v0_1.toNat).t.hi))], [.v (.int .i64 ((hitAt l v0_1.toNat).c.lo))], [.v (.int .i64 ((hitAt l v0_1.toNat).c.hi))]]) ∧ (([((hitAt l v0_1.toNat).p.x), ((hitAt l v0_1.toNat).p.y), ((hitAt l v0_1.toNat).p.z), ((hitAt l v0_1.toNat).t.lo), ((hitAt l v0_1.toNat).t.hi), ((hitAt l v0_1.toNat).c.lo), ((hitAt l v0_1.toNat).c.hi)] : List Int)).length ≤ 100 ∧ (∀ i, i < (([((hitAt l v0_1.toNat).p.x), ((hitAt l v0_1.toNat).p.y), ((hitAt l v0_1.toNat).p.z), ((hitAt l v0_1.toNat).t.lo), ((hitAt l v0_1.toNat).t.hi), ((hitAt l v0_1.toNat).c.lo), ((hitAt l v0_1.toNat).c.hi)] : List Int)).length → -9223372036854775808 ≤ (([((hitAt l v0_1.toNat).p.x), ((hitAt l v0_1.toNat).p.y), ((hitAt l v0_1.toNat).p.z), ((hitAt l v0_1.toNat).t.lo), ((hitAt l v0_1.toNat).t.hi), ((hitAt l v0_1.toNat).c.lo), ((hitAt l v0_1.toNat).c.hi)] : List Int)).getD i 0 ∧ (([((hitAt l v0_1.toNat).p.x), ((hitAt l v0_1.toNat).p.y), ((hitAt l v0_1.toNat).p.z), ((hitAt l v0_1.toNat).t.lo), ((hitAt l v0_1.toNat).t.hi), ((hitAt l v0_1.toNat).c.lo), ((hitAt l v0_1.toNat).c.hi)] : List Int)).getD i 0 ≤ 9223372036854775807)) ∧ ((roomP 16 (v0_0.length + ([[.v (.string (wordsB ([((hitAt l v0_1.toNat).p.x), ((hitAt l v0_1.toNat).p.y), ((hitAt l v0_1.toNat).p.z), ((hitAt l v0_1.toNat).t.lo), ((hitAt l v0_1.toNat).t.hi), ((hitAt l v0_1.toNat).c.lo), ((hitAt l v0_1.toNat).c.hi)] : List Int)))]] : List (List CV)).length)) ∧ (lt (IntKind.i64.wrap (v0_1 + (1 : Int))) fun x1 => J 0 (nn0 :: []) (mk_flash_FormatHits_0 l (v0_0 ++ ([[.v (.string (wordsB ([((hitAt l v0_1.toNat).p.x), ((hitAt l v0_1.toNat).p.y), ((hitAt l v0_1.toNat).p.z), ((hitAt l v0_1.toNat).t.lo), ((hitAt l v0_1.toNat).t.hi), ((hitAt l v0_1.toNat).c.lo), ((hitAt l v0_1.toNat).c.hi)] : List Int)))]] : List (List CV))) x1))))) ((txP v0_0.length (genC v0_0) ∧ (txOf v0_0.length (genC v0_0)).length ≤ 1000000 ∧ (joinB (txOf v0_0.length (genC v0_0)) (⟨#[59]⟩)).size ≤ 1000000000) ∧ (post (.t (.c (.v (.string (joinB (txOf v0_0.length (genC v0_0)) (⟨#[59]⟩))))))))
theorem er_flash_FormatHits_0 (J : Inv) (l : List FHit) (v0_0 : List (List CV)) (v0_1 : Int) (nn0 : Nat) (post : DV → Prop) : round Tryz.prog tab Sha92 ann_flash_FormatHits J Tryz.f31 post 0 (nn0 :: []) (mk_flash_FormatHits_0 l v0_0 v0_1) = rd_flash_FormatHits_0 J l v0_0 v0_1 nn0 post := by kernel_rfl
theorem lp_flash_FormatHits (J : Inv) (post : DV → Prop) : AllG J (loopsFn Tryz.prog tab Sha92 ann_flash_FormatHits J Tryz.f31 post) = (((∀ F s, ¬ J 0 (0 :: F) s) ∧ ∀ n F s, J 0 ((n + 1) :: F) s → round Tryz.prog tab Sha92 ann_flash_FormatHits J Tryz.f31 post 0 (n :: F) s) ∧ True) := by kernel_rfl
def J_flash_FormatHits (l : List FHit) : Inv := fun b F s => match b, F with
 | 0, [nn0] => ∃ (v0_0 : List (List CV)) (v0_1 : Int), s = mk_flash_FormatHits_0 l v0_0 v0_1 ∧ (((l).length ≤ 10 ∧ ∀ k, k < (l).length → rgH (hitAt l k)) ∧ 0 ≤ v0_1 ∧ v0_1 ≤ l.length ∧ (nn0 : Int) + v0_1 = l.length + 1 ∧ v0_0 = ((l.take v0_1.toNat).map hitW).map ttCv)
 | _, _ => False
theorem rnd_flash_FormatHits_0 (l : List FHit) (v0_0 : List (List CV)) (v0_1 : Int) (nn0 : Nat) (hp : (l).length ≤ 10 ∧ ∀ k, k < (l).length → rgH (hitAt l k)) (hi : ((l).length ≤ 10 ∧ ∀ k, k < (l).length → rgH (hitAt l k)) ∧ 0 ≤ v0_1 ∧ v0_1 ≤ l.length ∧ ((nn0 + 1) : Int) + v0_1 = l.length + 1 ∧ v0_0 = ((l.take v0_1.toNat).map hitW).map ttCv) : rd_flash_FormatHits_0 (J_flash_FormatHits l) l v0_0 v0_1 nn0 (fun r => LeD r (.t (.c (.v (.string (hitsT l)))))) := by
 obtain ⟨q, i1, i2, i3, i4⟩ := hi
 obtain ⟨k, rfl⟩ : ∃ k : Nat, v0_1 = k := ⟨v0_1.toNat, by omega⟩
 have hk : (k : Int).toNat = k := rfl
 rw [hk] at i4
 subst i4
 have z := hitsT_len q.1 q.2
 unfold rd_flash_FormatHits_0
 refine cond_i (fun h => ?_) (fun h => ?_)
 ·have hlt : k < l.length := by have := of_decide_eq_true h; omega
  have b := q.2 k hlt
  rw [Int.toNat_natCast]
  refine ⟨⟨by omega, by omega⟩, ⟨numsP_gen [_, _, _, _, _, _, _], by simp, in7 b⟩, ⟨by simp; omega, by simp [maxLen]; omega⟩, lt_i fun x1 h1 => ?_⟩
  rw [wi (by omega)] at h1
  subst h1
  refine ⟨_, _, rfl, q, by omega, by omega, by omega, ?_⟩
  rw [show ((k : Int) + 1).toNat = k + 1 from rfl, take_snoc l FHit.zero hlt, ttCv_snoc]
  congr 1
  rw [List.map_append]
  rfl
 ·have e : k = l.length := by have := of_decide_eq_false h; omega
  subst e
  rw [List.take_length, ttg_of]
  refine ⟨⟨txP_ttg _, by simp; omega, by unfold hitsT at z; omega⟩, LeD.refl _⟩
theorem zero_flash_FormatHits_0 (l : List FHit) (v0_0 : List (List CV)) (v0_1 : Int)  (hi : ((l).length ≤ 10 ∧ ∀ k, k < (l).length → rgH (hitAt l k)) ∧ 0 ≤ v0_1 ∧ v0_1 ≤ l.length ∧ (0 : Int) + v0_1 = l.length + 1 ∧ v0_0 = ((l.take v0_1.toNat).map hitW).map ttCv) : False := by
 omega
theorem spec_flash_FormatHits (l : List FHit) (hp : (l).length ≤ 10 ∧ ∀ k, k < (l).length → rgH (hitAt l k)) : vc_flash_FormatHits (J_flash_FormatHits l) l (fun r => LeD r (.t (.c (.v (.string (hitsT l)))))) := by
 unfold vc_flash_FormatHits
 exact ⟨l.length + 1, [], 0, rfl, hp, by omega, by omega, by omega, rfl⟩
theorem all_flash_FormatHits (l : List FHit) (hp : (l).length ≤ 10 ∧ ∀ k, k < (l).length → rgH (hitAt l k)) : AllG (J_flash_FormatHits l) (loopsFn Tryz.prog tab Sha92 ann_flash_FormatHits (J_flash_FormatHits l) Tryz.f31 (fun r => LeD r (.t (.c (.v (.string (hitsT l))))))) := by
 rw [lp_flash_FormatHits]
 refine ⟨⟨?_, ?_⟩, trivial⟩
 ·intro F s h
  obtain _ | ⟨g, F⟩ := F
  case cons => exact h.elim
  obtain ⟨w0, w1, rfl, hi⟩ := h
  exact zero_flash_FormatHits_0 l w0 w1 hi
 ·intro n F s h
  obtain _ | ⟨g, F⟩ := F
  case cons => exact h.elim
  obtain ⟨w0, w1, rfl, hi⟩ := h
  rw [er_flash_FormatHits_0]
  exact rnd_flash_FormatHits_0 l _ _ _ hp hi
def con_flash_FormatHits : Con := fun args => match args with
 | [.t (.c (.sl 7 n_l c_l))] => some (.t (.c (.v (.string (hitsT (listC n_l mkHit c_l))))), some (numsP 7 n_l c_l ∧ ((listC n_l mkHit c_l)).length ≤ 10 ∧ ∀ k, k < ((listC n_l mkHit c_l)).length → rgH (hitAt (listC n_l mkHit c_l) k)), false)
 | _ => none
theorem ok_flash_FormatHits : Ok Tryz.prog 31 con_flash_FormatHits := by
 refine Ok.fn (ann := ann_flash_FormatHits) mixed tabOK VSha92 VIlib (fn := Tryz.f31) (by kernel_rfl) (by kernel_rfl) fit_flash_FormatHits fun args r pre fresh h hp => ?_
 unfold con_flash_FormatHits at h
 split at h
 ·rename_i n_l c_l
  cases h
  obtain ⟨hp0, hp⟩ := hp
  refine ⟨rfl, J_flash_FormatHits (listC n_l mkHit c_l), [.t (.c (.sl 7 ((listC n_l mkHit c_l).length) (hitsC (listC n_l mkHit c_l))))], ?_, Nat.le_of_ble_eq_true (by kernel_rfl), ?_, ?_⟩
  ·exact (LeA_cons (leT_c ((leL_FHit hp0))) LeA_nil)
  ·rw [ev_flash_FormatHits]; exact spec_flash_FormatHits (listC n_l mkHit c_l) hp
  ·exact all_flash_FormatHits (listC n_l mkHit c_l) hp
 ·cases h
def Sha93 : Sum := addS Sha92 31 con_flash_FormatHits
theorem VSha93 : Valid Tryz.prog Sha93 := Valid.add VSha92 ok_flash_FormatHits
def vc_flash_FormatVeto (f : Int) (v : List Int) (post : DV → Prop) : Prop := (roomP 8 (([[.v (.int .i64 f)]] : List (List CV)).length + ((List.range v.length).map fun i => fwd ((intsC v) i) 0 1).length)) ∧ ((numsP 1 ((([[.v (.int .i64 f)]] : List (List CV)) ++ ((List.range v.length).map fun i => fwd ((intsC v) i) 0 1)).length) (genC (([[.v (.int .i64 f)]] : List (List CV)) ++ ((List.range v.length).map fun i => fwd ((intsC v) i) 0 1))) ∧ ((listC ((([[.v (.int .i64 f)]] : List (List CV)) ++ ((List.range v.length).map fun i => fwd ((intsC v) i) 0 1)).length) mkInt (genC (([[.v (.int .i64 f)]] : List (List CV)) ++ ((List.range v.length).map fun i => fwd ((intsC v) i) 0 1))))).length ≤ 100 ∧ (∀ i, i < ((listC ((([[.v (.int .i64 f)]] : List (List CV)) ++ ((List.range v.length).map fun i => fwd ((intsC v) i) 0 1)).length) mkInt (genC (([[.v (.int .i64 f)]] : List (List CV)) ++ ((List.range v.length).map fun i => fwd ((intsC v) i) 0 1))))).length → -9223372036854775808 ≤ ((listC ((([[.v (.int .i64 f)]] : List (List CV)) ++ ((List.range v.length).map fun i => fwd ((intsC v) i) 0 1)).length) mkInt (genC (([[.v (.int .i64 f)]] : List (List CV)) ++ ((List.range v.length).map fun i => fwd ((intsC v) i) 0 1))))).getD i 0 ∧ ((listC ((([[.v (.int .i64 f)]] : List (List CV)) ++ ((List.range v.length).map fun i => fwd ((intsC v) i) 0 1)).length) mkInt (genC (([[.v (.int .i64 f)]] : List (List CV)) ++ ((List.range v.length).map fun i => fwd ((intsC v) i) 0 1))))).getD i 0 ≤ 9223372036854775807)) ∧ (post (.t (.c (.v (.string (wordsB (listC ((([[.v (.int .i64 f)]] : List (List CV)) ++ ((List.range v.length).map fun i => fwd ((intsC v) i) 0 1)).length) mkInt (genC (([[.v (.int .i64 f)]] : List (List CV)) ++ ((List.range v.length).map fun i => fwd ((intsC v) i) 0 1)))))))))))
def ann_flash_FormatVeto : Ann := ⟨fun _ => none, fun _ => none, fun _ => [], Ilib, false, fun _ => none, fun _ => none⟩
theorem ev_flash_FormatVeto (J : Inv) (f : Int) (v : List Int) (post : DV → Prop) : evFn Tryz.prog tab Sha93 ann_flash_FormatVeto J Tryz.f11 [.t (.a [.v (.int .i64 f), .sl 1 v.length (intsC v)])] post = vc_flash_FormatVeto f v post := by kernel_rfl
theorem fit_flash_FormatVeto : okFn ann_flash_FormatVeto Tryz.f11 = true := by kernel_rfl
theorem lp_flash_FormatVeto (J : Inv) (post : DV → Prop) : AllG J (loopsFn Tryz.prog tab Sha93 ann_flash_FormatVeto J Tryz.f11 post) = (True) := by kernel_rfl
theorem spec_flash_FormatVeto (f : Int) (v : List Int) (hp : inI f ∧ (v).length ≤ 50 ∧ (∀ i, i < (v).length → -9223372036854775808 ≤ (v).getD i 0 ∧ (v).getD i 0 ≤ 9223372036854775807)) : vc_flash_FormatVeto f v (fun r => LeD r (.t (.c (.v (.string (vtT f v)))))) := by
 unfold vc_flash_FormatVeto
 rw [ints_fwd]
 have e : ([[.v (.int .i64 f)]] : List (List CV)) ++ (v.map fun n => [CV.v (.int .i64 n)]) = (f :: v).map fun n => [CV.v (.int .i64 n)] := rfl
 rw [e, intg_listC]
 obtain ⟨h1, h2, h3⟩ := hp
 refine ⟨by simp [roomP, maxLen]; omega, ⟨numsP_intg _, by simp; omega, fun i hi => ?_⟩, LeD.refl _⟩
 rcases i with _ | i
 ·exact h1
 ·exact h3 i (by simpa using hi)
def con_flash_FormatVeto : Con := fun args => match args with
 | [.t (.a [.v (.int .i64 f), .sl 1 n_v c_v])] => some (.t (.c (.v (.string (vtT f (listC n_v mkInt c_v))))), some (numsP 1 n_v c_v ∧ inI f ∧ ((listC n_v mkInt c_v)).length ≤ 50 ∧ (∀ i, i < ((listC n_v mkInt c_v)).length → -9223372036854775808 ≤ ((listC n_v mkInt c_v)).getD i 0 ∧ ((listC n_v mkInt c_v)).getD i 0 ≤ 9223372036854775807)), false)
 | _ => none
theorem ok_flash_FormatVeto : Ok Tryz.prog 11 con_flash_FormatVeto := by
 refine Ok.fn (ann := ann_flash_FormatVeto) mixed tabOK VSha93 VIlib (fn := Tryz.f11) (by kernel_rfl) (by kernel_rfl) fit_flash_FormatVeto fun args r pre fresh h hp => ?_
 unfold con_flash_FormatVeto at h
 split at h
 ·rename_i f n_v c_v
  cases h
  obtain ⟨hp0, hp⟩ := hp
  refine ⟨rfl, fun _ _ _ => False, [.t (.a [.v (.int .i64 f), .sl 1 ((listC n_v mkInt c_v).length) (intsC (listC n_v mkInt c_v))])], ?_, Nat.le_of_ble_eq_true (by kernel_rfl), ?_, ?_⟩
  ·exact (LeA_cons (leT_a (LeCs.cons (LeC1.refl _) (LeCs.cons ((leL_int hp0)) LeCs.nil))) LeA_nil)
  ·rw [ev_flash_FormatVeto]; exact spec_flash_FormatVeto f (listC n_v mkInt c_v) hp
  ·rw [lp_flash_FormatVeto]; trivial
 ·cases h
def Sha94 : Sum := addS Sha93 11 con_flash_FormatVeto
theorem VSha94 : Valid Tryz.prog Sha94 := Valid.add VSha93 ok_flash_FormatVeto
def vc_flash_parseHit (tx : ByteArray) (post : DV → Prop) : Prop := (tx.size ≤ 1000000000 ∧ 1 ≤ ((⟨#[32]⟩) : ByteArray).size ∧ (splB tx (⟨#[32]⟩)).length = Lib.countB tx (⟨#[32]⟩) + 1) ∧ (cond ((((splB tx (⟨#[32]⟩)).length : Nat) : Int) != (7 : Int)) (post (.tu [.a [.v (.int .i64 0), .v (.int .i64 0), .v (.int .i64 0), .v (.int .i64 0), .v (.int .i64 0), .v (.int .i64 0), .v (.int .i64 0)], .c (.v (.bool false))])) ((0 ≤ (0 : Int) ∧ (0 : Int) < ((7 : Nat) : Int)) ∧ ((0 ≤ (0 : Int) ∧ (0 : Int) < (((splB tx (⟨#[32]⟩)).length : Nat) : Int)) ∧ ((0 ≤ (10 : Int) ∧ (10 : Int) ≤ 17 ∧ ((txAt (splB tx (⟨#[32]⟩)) 0)).size ≤ 100000000) ∧ (cond (!(numB ((txAt (splB tx (⟨#[32]⟩)) 0)).data.toList ((10 : Int)).toNat true)) (post (.tu [.a [.v (.int .i64 0), .v (.int .i64 0), .v (.int .i64 0), .v (.int .i64 0), .v (.int .i64 0), .v (.int .i64 0), .v (.int .i64 0)], .c (.v (.bool false))])) ((0 ≤ (1 : Int) ∧ (1 : Int) < ((7 : Nat) : Int)) ∧ ((0 ≤ (1 : Int) ∧ (1 : Int) < (((splB tx (⟨#[32]⟩)).length : Nat) : Int)) ∧ ((0 ≤ (10 : Int) ∧ (10 : Int) ≤ 17 ∧ ((txAt (splB tx (⟨#[32]⟩)) 1)).size ≤ 100000000) ∧ (cond (!(numB ((txAt (splB tx (⟨#[32]⟩)) 1)).data.toList ((10 : Int)).toNat true)) (post (.tu [.a [.v (.int .i64 (atoV (txAt (splB tx (⟨#[32]⟩)) 0))), .v (.int .i64 0), .v (.int .i64 0), .v (.int .i64 0), .v (.int .i64 0), .v (.int .i64 0), .v (.int .i64 0)], .c (.v (.bool false))])) ((0 ≤ (2 : Int) ∧ (2 : Int) < ((7 : Nat) : Int)) ∧ ((0 ≤ (2 : Int) ∧ (2 : Int) < (((splB tx (⟨#[32]⟩)).length : Nat) : Int)) ∧ ((0 ≤ (10 : Int) ∧ (10 : Int) ≤ 17 ∧ ((txAt (splB tx (⟨#[32]⟩)) 2)).size ≤ 100000000) ∧ (cond (!(numB ((txAt (splB tx (⟨#[32]⟩)) 2)).data.toList ((10 : Int)).toNat true)) (post (.tu [.a [.v (.int .i64 (atoV (txAt (splB tx (⟨#[32]⟩)) 0))), .v (.int .i64 (atoV (txAt (splB tx (⟨#[32]⟩)) 1))), .v (.int .i64 0), .v (.int .i64 0), .v (.int .i64 0), .v (.int .i64 0), .v (.int .i64 0)], .c (.v (.bool false))])) ((0 ≤ (3 : Int) ∧ (3 : Int) < ((7 : Nat) : Int)) ∧ ((0 ≤ (3 : Int) ∧ (3 : Int) < (((splB tx (⟨#[32]⟩)).length : Nat) : Int)) ∧ ((0 ≤ (10 : Int) ∧ (10 : Int) ≤ 17 ∧ ((txAt (splB tx (⟨#[32]⟩)) 3)).size ≤ 100000000) ∧ (cond (!(numB ((txAt (splB tx (⟨#[32]⟩)) 3)).data.toList ((10 : Int)).toNat false)) (post (.tu [.a [.v (.int .i64 (atoV (txAt (splB tx (⟨#[32]⟩)) 0))), .v (.int .i64 (atoV (txAt (splB tx (⟨#[32]⟩)) 1))), .v (.int .i64 (atoV (txAt (splB tx (⟨#[32]⟩)) 2))), .v (.int .i64 0), .v (.int .i64 0), .v (.int .i64 0), .v (.int .i64 0)], .c (.v (.bool false))])) ((0 ≤ (4 : Int) ∧ (4 : Int) < ((7 : Nat) : Int)) ∧ ((0 ≤ (4 : Int) ∧ (4 : Int) < (((splB tx (⟨#[32]⟩)).length : Nat) : Int)) ∧ ((0 ≤ (10 : Int) ∧ (10 : Int) ≤ 17 ∧ ((txAt (splB tx (⟨#[32]⟩)) 4)).size ≤ 100000000) ∧ (cond (!(numB ((txAt (splB tx (⟨#[32]⟩)) 4)).data.toList ((10 : Int)).toNat false)) (post (.tu [.a [.v (.int .i64 (atoV (txAt (splB tx (⟨#[32]⟩)) 0))), .v (.int .i64 (atoV (txAt (splB tx (⟨#[32]⟩)) 1))), .v (.int .i64 (atoV (txAt (splB tx (⟨#[32]⟩)) 2))), .v (.int .i64 (atoV (txAt (splB tx (⟨#[32]⟩)) 3))), .v (.int .i64 0), .v (.int .i64 0), .v (.int .i64 0)], .c (.v (.bool false))])) ((0 ≤ (5 : Int) ∧ (5 : Int) < ((7 : Nat) : Int)) ∧ ((0 ≤ (5 : Int) ∧ (5 : Int) < (((splB tx (⟨#[32]⟩)).length : Nat) : Int)) ∧ ((0 ≤ (10 : Int) ∧ (10 : Int) ≤ 17 ∧ ((txAt (splB tx (⟨#[32]⟩)) 5)).size ≤ 100000000) ∧ (cond (!(numB ((txAt (splB tx (⟨#[32]⟩)) 5)).data.toList ((10 : Int)).toNat false)) (post (.tu [.a [.v (.int .i64 (atoV (txAt (splB tx (⟨#[32]⟩)) 0))), .v (.int .i64 (atoV (txAt (splB tx (⟨#[32]⟩)) 1))), .v (.int .i64 (atoV (txAt (splB tx (⟨#[32]⟩)) 2))), .v (.int .i64 (atoV (txAt (splB tx (⟨#[32]⟩)) 3))), .v (.int .i64 (atoV (txAt (splB tx (⟨#[32]⟩)) 4))), .v (.int .i64 0), .v (.int .i64 0)], .c (.v (.bool false))])) ((0 ≤ (6 : Int) ∧ (6 : Int) < ((7 : Nat) : Int)) ∧ ((0 ≤ (6 : Int) ∧ (6 : Int) < (((splB tx (⟨#[32]⟩)).length : Nat) : Int)) ∧ ((0 ≤ (10 : Int) ∧ (10 : Int) ≤ 17 ∧ ((txAt (splB tx (⟨#[32]⟩)) 6)).size ≤ 100000000) ∧ (cond (!(numB ((txAt (splB tx (⟨#[32]⟩)) 6)).data.toList ((10 : Int)).toNat false)) (post (.tu [.a [.v (.int .i64 (atoV (txAt (splB tx (⟨#[32]⟩)) 0))), .v (.int .i64 (atoV (txAt (splB tx (⟨#[32]⟩)) 1))), .v (.int .i64 (atoV (txAt (splB tx (⟨#[32]⟩)) 2))), .v (.int .i64 (atoV (txAt (splB tx (⟨#[32]⟩)) 3))), .v (.int .i64 (atoV (txAt (splB tx (⟨#[32]⟩)) 4))), .v (.int .i64 (atoV (txAt (splB tx (⟨#[32]⟩)) 5))), .v (.int .i64 0)], .c (.v (.bool false))])) (post (.tu [.a [.v (.int .i64 (atoV (txAt (splB tx (⟨#[32]⟩)) 0))), .v (.int .i64 (atoV (txAt (splB tx (⟨#[32]⟩)) 1))), .v (.int .i64 (atoV (txAt (splB tx (⟨#[32]⟩)) 2))), .v (.int .i64 (atoV (txAt (splB tx (⟨#[32]⟩)) 3))), .v (.int .i64 (atoV (txAt (splB tx (⟨#[32]⟩)) 4))), .v (.int .i64 (atoV (txAt (splB tx (⟨#[32]⟩)) 5))), .v (.int .i64 (atoV (txAt (splB tx (⟨#[32]⟩)) 6)))], .c (.v (.bool true))])))))))))))))))))))))))))))))))
def ann_flash_parseHit : Ann := ⟨fun _ => none, fun b => lookA b [(0, (some 8, some ⟨[2, 4, 6, 32, 33], [2, 4], []⟩))], fun _ => [], Ilib, false, fun _ => none, fun _ => none⟩
theorem ev_flash_parseHit (J : Inv) (tx : ByteArray) (post : DV → Prop) : evFn Tryz.prog tab Sha94 ann_flash_parseHit J Tryz.f88 [.t (.c (.v (.string tx)))] post = vc_flash_parseHit tx post := by kernel_rfl
theorem fit_flash_parseHit : okFn ann_flash_parseHit Tryz.f88 = true := by kernel_rfl
theorem lp_flash_parseHit (J : Inv) (post : DV → Prop) : AllG J (loopsFn Tryz.prog tab Sha94 ann_flash_parseHit J Tryz.f88 post) = (True) := by kernel_rfl
theorem spec_flash_parseHit (tx : ByteArray) (hp : (tx).size ≤ 100000000) : vc_flash_parseHit tx (fun r => LeD r (.tu [.a [.v (.int .i64 (phC tx 0)), .v (.int .i64 (phC tx 1)), .v (.int .i64 (phC tx 2)), .v (.int .i64 (phC tx 3)), .v (.int .i64 (phC tx 4)), .v (.int .i64 (phC tx 5)), .v (.int .i64 (phC tx 6))], .c (.v (.bool (hitB tx)))])) := by
 unfold vc_flash_parseHit
 have hc := splB_count tx 32
 rw [spl_cut] at hc ⊢
 rw [cutL_len] at hc ⊢
 refine ⟨⟨by omega, Nat.le_refl 1, hc⟩, cond_i (fun h => ?_) (fun h => ?_)⟩
 ·have h7 : nPc 32 tx ≠ 7 := fun e => by rw [e] at h; cases h
  rw [phC_no (okTo_no h7 1), phC_no (okTo_no h7 2), phC_no (okTo_no h7 3), phC_no (okTo_no h7 4), phC_no (okTo_no h7 5), phC_no (okTo_no h7 6), phC_no (okTo_no h7 7), show hitB tx = false from okTo_no h7 7]
  exact LeD.refl _
 have h7 : nPc 32 tx = 7 := by
  have h : ((nPc 32 tx : Nat) : Int) = 7 := by simpa using h
  omega
 have o0 : okTo tx 0 = true := by unfold okTo; rw [h7]; rfl
 have hs : ∀ i, (ofL (wAt 32 tx i)).size ≤ 100000000 := fun i => by rw [ofL_size]; exact Nat.le_trans wAt_len (by omega)
 rw [cutL_at (show 0 < nPc 32 tx by omega), cutL_at (show 1 < nPc 32 tx by omega), cutL_at (show 2 < nPc 32 tx by omega), cutL_at (show 3 < nPc 32 tx by omega), cutL_at (show 4 < nPc 32 tx by omega), cutL_at (show 5 < nPc 32 tx by omega), cutL_at (show 6 < nPc 32 tx by omega)]
 simp only [ofL_data]
 refine ⟨⟨by decide, by decide⟩, ⟨by decide, by omega⟩, ⟨by decide, by decide, hs 0⟩, cond_i (fun g => ?_) (fun g => ?_)⟩
 ·have g0 : numB (wAt 32 tx 0) 10 (decide (0 < 3)) = false := by
   have g : (!numB (wAt 32 tx 0) 10 true) = true := g
   simpa using g
  have b1 : okTo tx 1 = false := by rw [okTo_succ, o0, g0]; rfl
  have b2 : okTo tx 2 = false := by rw [okTo_succ, b1]; rfl
  have b3 : okTo tx 3 = false := by rw [okTo_succ, b2]; rfl
  have b4 : okTo tx 4 = false := by rw [okTo_succ, b3]; rfl
  have b5 : okTo tx 5 = false := by rw [okTo_succ, b4]; rfl
  have b6 : okTo tx 6 = false := by rw [okTo_succ, b5]; rfl
  have b7 : okTo tx 7 = false := by rw [okTo_succ, b6]; rfl
  rw [phC_no b1, phC_no b2, phC_no b3, phC_no b4, phC_no b5, phC_no b6, phC_no b7, show hitB tx = false from b7]
  exact LeD.refl _
 have g0 : numB (wAt 32 tx 0) 10 (decide (0 < 3)) = true := by
  have g : (!numB (wAt 32 tx 0) 10 true) = false := g
  simpa using g
 have o1 : okTo tx 1 = true := by rw [okTo_succ, o0, g0]; rfl
 refine ⟨⟨by decide, by decide⟩, ⟨by decide, by omega⟩, ⟨by decide, by decide, hs 1⟩, cond_i (fun g => ?_) (fun g => ?_)⟩
 ·have g1 : numB (wAt 32 tx 1) 10 (decide (1 < 3)) = false := by
   have g : (!numB (wAt 32 tx 1) 10 true) = true := g
   simpa using g
  have b2 : okTo tx 2 = false := by rw [okTo_succ, o1, g1]; rfl
  have b3 : okTo tx 3 = false := by rw [okTo_succ, b2]; rfl
  have b4 : okTo tx 4 = false := by rw [okTo_succ, b3]; rfl
  have b5 : okTo tx 5 = false := by rw [okTo_succ, b4]; rfl
  have b6 : okTo tx 6 = false := by rw [okTo_succ, b5]; rfl
  have b7 : okTo tx 7 = false := by rw [okTo_succ, b6]; rfl
  rw [phC_yes o1, phC_no b2, phC_no b3, phC_no b4, phC_no b5, phC_no b6, phC_no b7, show hitB tx = false from b7, numB_val (by decide) g0]
  exact LeD.refl _
 have g1 : numB (wAt 32 tx 1) 10 (decide (1 < 3)) = true := by
  have g : (!numB (wAt 32 tx 1) 10 true) = false := g
  simpa using g
 have o2 : okTo tx 2 = true := by rw [okTo_succ, o1, g1]; rfl
 refine ⟨⟨by decide, by decide⟩, ⟨by decide, by omega⟩, ⟨by decide, by decide, hs 2⟩, cond_i (fun g => ?_) (fun g => ?_)⟩
 ·have g2 : numB (wAt 32 tx 2) 10 (decide (2 < 3)) = false := by
   have g : (!numB (wAt 32 tx 2) 10 true) = true := g
   simpa using g
  have b3 : okTo tx 3 = false := by rw [okTo_succ, o2, g2]; rfl
  have b4 : okTo tx 4 = false := by rw [okTo_succ, b3]; rfl
  have b5 : okTo tx 5 = false := by rw [okTo_succ, b4]; rfl
  have b6 : okTo tx 6 = false := by rw [okTo_succ, b5]; rfl
  have b7 : okTo tx 7 = false := by rw [okTo_succ, b6]; rfl
  rw [phC_yes o1, phC_yes o2, phC_no b3, phC_no b4, phC_no b5, phC_no b6, phC_no b7, show hitB tx = false from b7, numB_val (by decide) g0, numB_val (by decide) g1]
  exact LeD.refl _
 have g2 : numB (wAt 32 tx 2) 10 (decide (2 < 3)) = true := by
  have g : (!numB (wAt 32 tx 2) 10 true) = false := g
  simpa using g
 have o3 : okTo tx 3 = true := by rw [okTo_succ, o2, g2]; rfl
 refine ⟨⟨by decide, by decide⟩, ⟨by decide, by omega⟩, ⟨by decide, by decide, hs 3⟩, cond_i (fun g => ?_) (fun g => ?_)⟩
 ·have g3 : numB (wAt 32 tx 3) 10 (decide (3 < 3)) = false := by
   have g : (!numB (wAt 32 tx 3) 10 false) = true := g
   simpa using g
  have b4 : okTo tx 4 = false := by rw [okTo_succ, o3, g3]; rfl
  have b5 : okTo tx 5 = false := by rw [okTo_succ, b4]; rfl
  have b6 : okTo tx 6 = false := by rw [okTo_succ, b5]; rfl
  have b7 : okTo tx 7 = false := by rw [okTo_succ, b6]; rfl
  rw [phC_yes o1, phC_yes o2, phC_yes o3, phC_no b4, phC_no b5, phC_no b6, phC_no b7, show hitB tx = false from b7, numB_val (by decide) g0, numB_val (by decide) g1, numB_val (by decide) g2]
  exact LeD.refl _
 have g3 : numB (wAt 32 tx 3) 10 (decide (3 < 3)) = true := by
  have g : (!numB (wAt 32 tx 3) 10 false) = false := g
  simpa using g
 have o4 : okTo tx 4 = true := by rw [okTo_succ, o3, g3]; rfl
 refine ⟨⟨by decide, by decide⟩, ⟨by decide, by omega⟩, ⟨by decide, by decide, hs 4⟩, cond_i (fun g => ?_) (fun g => ?_)⟩
 ·have g4 : numB (wAt 32 tx 4) 10 (decide (4 < 3)) = false := by
   have g : (!numB (wAt 32 tx 4) 10 false) = true := g
   simpa using g
  have b5 : okTo tx 5 = false := by rw [okTo_succ, o4, g4]; rfl
  have b6 : okTo tx 6 = false := by rw [okTo_succ, b5]; rfl
  have b7 : okTo tx 7 = false := by rw [okTo_succ, b6]; rfl
  rw [phC_yes o1, phC_yes o2, phC_yes o3, phC_yes o4, phC_no b5, phC_no b6, phC_no b7, show hitB tx = false from b7, numB_val (by decide) g0, numB_val (by decide) g1, numB_val (by decide) g2, numB_val (by decide) g3]
  exact LeD.refl _
 have g4 : numB (wAt 32 tx 4) 10 (decide (4 < 3)) = true := by
  have g : (!numB (wAt 32 tx 4) 10 false) = false := g
  simpa using g
 have o5 : okTo tx 5 = true := by rw [okTo_succ, o4, g4]; rfl
 refine ⟨⟨by decide, by decide⟩, ⟨by decide, by omega⟩, ⟨by decide, by decide, hs 5⟩, cond_i (fun g => ?_) (fun g => ?_)⟩
 ·have g5 : numB (wAt 32 tx 5) 10 (decide (5 < 3)) = false := by
   have g : (!numB (wAt 32 tx 5) 10 false) = true := g
   simpa using g
  have b6 : okTo tx 6 = false := by rw [okTo_succ, o5, g5]; rfl
  have b7 : okTo tx 7 = false := by rw [okTo_succ, b6]; rfl
  rw [phC_yes o1, phC_yes o2, phC_yes o3, phC_yes o4, phC_yes o5, phC_no b6, phC_no b7, show hitB tx = false from b7, numB_val (by decide) g0, numB_val (by decide) g1, numB_val (by decide) g2, numB_val (by decide) g3, numB_val (by decide) g4]
  exact LeD.refl _
 have g5 : numB (wAt 32 tx 5) 10 (decide (5 < 3)) = true := by
  have g : (!numB (wAt 32 tx 5) 10 false) = false := g
  simpa using g
 have o6 : okTo tx 6 = true := by rw [okTo_succ, o5, g5]; rfl
 refine ⟨⟨by decide, by decide⟩, ⟨by decide, by omega⟩, ⟨by decide, by decide, hs 6⟩, cond_i (fun g => ?_) (fun g => ?_)⟩
 ·have g6 : numB (wAt 32 tx 6) 10 (decide (6 < 3)) = false := by
   have g : (!numB (wAt 32 tx 6) 10 false) = true := g
   simpa using g
  have b7 : okTo tx 7 = false := by rw [okTo_succ, o6, g6]; rfl
  rw [phC_yes o1, phC_yes o2, phC_yes o3, phC_yes o4, phC_yes o5, phC_yes o6, phC_no b7, show hitB tx = false from b7, numB_val (by decide) g0, numB_val (by decide) g1, numB_val (by decide) g2, numB_val (by decide) g3, numB_val (by decide) g4, numB_val (by decide) g5]
  exact LeD.refl _
 have g6 : numB (wAt 32 tx 6) 10 (decide (6 < 3)) = true := by
  have g : (!numB (wAt 32 tx 6) 10 false) = false := g
  simpa using g
 have o7 : okTo tx 7 = true := by rw [okTo_succ, o6, g6]; rfl
 rw [phC_yes o1, phC_yes o2, phC_yes o3, phC_yes o4, phC_yes o5, phC_yes o6, phC_yes o7, show hitB tx = true from o7, numB_val (by decide) g0, numB_val (by decide) g1, numB_val (by decide) g2, numB_val (by decide) g3, numB_val (by decide) g4, numB_val (by decide) g5, numB_val (by decide) g6]
 exact LeD.refl _
def con_flash_parseHit : Con := fun args => match args with
 | [.t (.c (.v (.string tx)))] => some (.tu [.a [.v (.int .i64 (phC tx 0)), .v (.int .i64 (phC tx 1)), .v (.int .i64 (phC tx 2)), .v (.int .i64 (phC tx 3)), .v (.int .i64 (phC tx 4)), .v (.int .i64 (phC tx 5)), .v (.int .i64 (phC tx 6))], .c (.v (.bool (hitB tx)))], some ((tx).size ≤ 100000000), false)
 | _ => none
theorem ok_flash_parseHit : Ok Tryz.prog 88 con_flash_parseHit := by
 refine Ok.fn (ann := ann_flash_parseHit) mixed tabOK VSha94 VIlib (fn := Tryz.f88) (by kernel_rfl) (by kernel_rfl) fit_flash_parseHit fun args r pre fresh h hp => ?_
 unfold con_flash_parseHit at h
 split at h
 ·rename_i tx
  cases h
  refine ⟨rfl, fun _ _ _ => False, _, LeA.refl _, Nat.le_of_ble_eq_true (by kernel_rfl), ?_, ?_⟩
  ·rw [ev_flash_parseHit]; exact spec_flash_parseHit tx hp
  ·rw [lp_flash_parseHit]; trivial
 ·cases h
def Sha95 : Sum := addS Sha94 88 con_flash_parseHit
theorem VSha95 : Valid Tryz.prog Sha95 := Valid.add VSha94 ok_flash_parseHit
def mk_flash_ParseHits_0 (tx : ByteArray) (v0_0 : List (List CV)) (v0_1 : List (List CV)) (v0_2 : ByteArray) : DS := ⟨[none, none, some (.t (.c (.p 2 0))), some (.t (.c (.p 3 0))), some (.t (.c (.p 4 0))), none, none, none, none, none, none, none, none, some (.t (.fn 150 [.px 1 0 (fun _ => .v (.string (⟨#[59]⟩))), .p 13 0, .px 1 0 (fun _ => .v (.int .i64 0))])), none, none, none, none, none, none, none, none, none, none, none, none, none, none, none, none, none, none], [some (.gen 96 7 v0_0), some (.gen 96 7 v0_1), some (.box 61 [.os 0]), some (.box 36 [.v (.int .i64 0)]), some (.box 61 [.os 1]), none, none, none, none, none, none, none, none, some (.box 9 [.v (.string v0_2)]), none, none, none, none, none, none, none, none, none, none, none, none, none, none, none, none, none, none]⟩
def vc_flash_ParseHits (J : Inv) (tx : ByteArray) (post : DV → Prop) : Prop := cond (decide ((((tx : ByteArray).size : Nat) : Int) > (60000 : Int))) (post (.tu [.c (.v (.slice none 0 0)), .c (.v (.int .i64 8))])) ((sepP (.v (.string (⟨#[59]⟩))) ∧ (.v (.string tx) : CV) = .v (.string tx) ∧ tx.size ≤ 1000000000 ∧ (.v (.int .i64 0) : CV) = .v (.int .i64 0)) ∧ (J 0 [0] (mk_flash_ParseHits_0 tx ([]) ([]) tx)))
def ann_flash_ParseHits : Ann := ⟨fun _ => none, fun b => lookA b [(0, (none, some ⟨[2, 3, 4, 13], [2, 3, 4, 13], []⟩))], fun b => (lookA b [(0, [(2, 0, 0, .gen 96 7 []), (4, 0, 1, .gen 96 7 [])])]).getD [], Ilib, false, fun _ => none, fun _ => none⟩
theorem ev_flash_ParseHits (J : Inv) (tx : ByteArray) (post : DV → Prop) : evFn Tryz.prog tab Sha95 ann_flash_ParseHits J Tryz.f33 [.t (.c (.v (.string tx)))] post = vc_flash_ParseHits J tx post := by kernel_rfl
theorem fit_flash_ParseHits : okFn ann_flash_ParseHits Tryz.f33 = true := by kernel_rfl
def rd_flash_ParseHits_0 (J : Inv) (tx : ByteArray) (v0_0 : List (List CV)) (v0_1 : List (List CV)) (v0_2 : ByteArray) (nn0 : Nat) (post : DV → Prop) : Prop := (((cutA v0_2 (⟨#[59]⟩))).size ≤ 100000000) ∧ (cond (!(hitB (cutA v0_2 (⟨#[59]⟩)))) (post (.tu [.c (.sl 7 0 (genC [])), .c (.v (.int .i64 7))])) ((roomP 56 (v0_1.length + ([[.v (.int .i64 (phC (cutA v0_2 (⟨#[59]⟩)) 0)), .v (.int .i64 (phC (cutA v0_2 (⟨#[59]⟩)) 1)), .v (.int .i64 (phC (cutA v0_2 (⟨#[59]⟩)) 2)), .v (.int .i64 (phC (cutA v0_2 (⟨#[59]⟩)) 3)), .v (.int .i64 (phC (cutA v0_2 (⟨#[59]⟩)) 4)), .v (.int .i64 (phC (cutA v0_2 (⟨#[59]⟩)) 5)), .v (.int .i64 (phC (cutA v0_2 (⟨#[59]⟩)) 6))]] : List (List CV)).length)) ∧ (((some (.t (.fn 150 [.px 1 0 (fun _ => .v (.string (⟨#[59]⟩))), .p 13 0, .px 1 0 (fun _ => .v (.int .i64 0))])) : Option DV) = some (.t (.fn 150 [.px 1 0 (fun _ => .v (.string (⟨#[59]⟩))), .p 13 0, .px 1 0 (fun _ => .v (.int .i64 0))]))) ∧ ((some (.box 9 [.v (.string v0_2)]) : Option Row) = some (.box 9 [.v (.string v0_2)])) ∧ cond (cutH v0_2 (⟨#[59]⟩)) (J 0 [nn0 + 1] (mk_flash_ParseHits_0 tx v0_0 (v0_1 ++ ([[.v (.int .i64 (phC (cutA v0_2 (⟨#[59]⟩)) 0)), .v (.int .i64 (phC (cutA v0_2 (⟨#[59]⟩)) 1)), .v (.int .i64 (phC (cutA v0_2 (⟨#[59]⟩)) 2)), .v (.int .i64 (phC (cutA v0_2 (⟨#[59]⟩)) 3)), .v (.int .i64 (phC (cutA v0_2 (⟨#[59]⟩)) 4)), .v (.int .i64 (phC (cutA v0_2 (⟨#[59]⟩)) 5)), .v (.int .i64 (phC (cutA v0_2 (⟨#[59]⟩)) 6))]] : List (List CV))) (cutZ v0_2 (⟨#[59]⟩)))) ((numsP 7 ((v0_1 ++ ([[.v (.int .i64 (phC (cutA v0_2 (⟨#[59]⟩)) 0)), .v (.int .i64 (phC (cutA v0_2 (⟨#[59]⟩)) 1)), .v (.int .i64 (phC (cutA v0_2 (⟨#[59]⟩)) 2)), .v (.int .i64 (phC (cutA v0_2 (⟨#[59]⟩)) 3)), .v (.int .i64 (phC (cutA v0_2 (⟨#[59]⟩)) 4)), .v (.int .i64 (phC (cutA v0_2 (⟨#[59]⟩)) 5)), .v (.int .i64 (phC (cutA v0_2 (⟨#[59]⟩)) 6))]] : List (List CV))).length) (genC (v0_1 ++ ([[.v (.int .i64 (phC (cutA v0_2 (⟨#[59]⟩)) 0)), .v (.int .i64 (phC (cutA v0_2 (⟨#[59]⟩)) 1)), .v (.int .i64 (phC (cutA v0_2 (⟨#[59]⟩)) 2)), .v (.int .i64 (phC (cutA v0_2 (⟨#[59]⟩)) 3)), .v (.int .i64 (phC (cutA v0_2 (⟨#[59]⟩)) 4)), .v (.int .i64 (phC (cutA v0_2 (⟨#[59]⟩)) 5)), .v (.int .i64 (phC (cutA v0_2 (⟨#[59]⟩)) 6))]] : List (List CV))))) ∧ (cond ((hitsE (listC ((v0_1 ++ ([[.v (.int .i64 (phC (cutA v0_2 (⟨#[59]⟩)) 0)), .v (.int .i64 (phC (cutA v0_2 (⟨#[59]⟩)) 1)), .v (.int .i64 (phC (cutA v0_2 (⟨#[59]⟩)) 2)), .v (.int .i64 (phC (cutA v0_2 (⟨#[59]⟩)) 3)), .v (.int .i64 (phC (cutA v0_2 (⟨#[59]⟩)) 4)), .v (.int .i64 (phC (cutA v0_2 (⟨#[59]⟩)) 5)), .v (.int .i64 (phC (cutA v0_2 (⟨#[59]⟩)) 6))]] : List (List CV))).length) mkHit (genC (v0_1 ++ ([[.v (.int .i64 (phC (cutA v0_2 (⟨#[59]⟩)) 0)), .v (.int .i64 (phC (cutA v0_2 (⟨#[59]⟩)) 1)), .v (.int .i64 (phC (cutA v0_2 (⟨#[59]⟩)) 2)), .v (.int .i64 (phC (cutA v0_2 (⟨#[59]⟩)) 3)), .v (.int .i64 (phC (cutA v0_2 (⟨#[59]⟩)) 4)), .v (.int .i64 (phC (cutA v0_2 (⟨#[59]⟩)) 5)), .v (.int .i64 (phC (cutA v0_2 (⟨#[59]⟩)) 6))]] : List (List CV)))))) != (0 : Int)) (post (.tu [.c (.v (.slice none 0 0)), .c (.v (.int .i64 (hitsE (listC ((v0_1 ++ ([[.v (.int .i64 (phC (cutA v0_2 (⟨#[59]⟩)) 0)), .v (.int .i64 (phC (cutA v0_2 (⟨#[59]⟩)) 1)), .v (.int .i64 (phC (cutA v0_2 (⟨#[59]⟩)) 2)), .v (.int .i64 (phC (cutA v0_2 (⟨#[59]⟩)) 3)), .v (.int .i64 (phC (cutA v0_2 (⟨#[59]⟩)) 4)), .v (.int .i64 (phC (cutA v0_2 (⟨#[59]⟩)) 5)), .v (.int .i64 (phC (cutA v0_2 (⟨#[59]⟩)) 6))]] : List (List CV))).length) mkHit (genC (v0_1 ++ ([[.v (.int .i64 (phC (cutA v0_2 (⟨#[59]⟩)) 0)), .v (.int .i64 (phC (cutA v0_2 (⟨#[59]⟩)) 1)), .v (.int .i64 (phC (cutA v0_2 (⟨#[59]⟩)) 2)), .v (.int .i64 (phC (cutA v0_2 (⟨#[59]⟩)) 3)), .v (.int .i64 (phC (cutA v0_2 (⟨#[59]⟩)) 4)), .v (.int .i64 (phC (cutA v0_2 (⟨#[59]⟩)) 5)), .v (.int .i64 (phC (cutA v0_2 (⟨#[59]⟩)) 6))]] : List (List CV))))))))])) (post (.tu [.c (.sl 7 ((v0_1 ++ ([[.v (.int .i64 (phC (cutA v0_2 (⟨#[59]⟩)) 0)), .v (.int .i64 (phC (cutA v0_2 (⟨#[59]⟩)) 1)), .v (.int .i64 (phC (cutA v0_2 (⟨#[59]⟩)) 2)), .v (.int .i64 (phC (cutA v0_2 (⟨#[59]⟩)) 3)), .v (.int .i64 (phC (cutA v0_2 (⟨#[59]⟩)) 4)), .v (.int .i64 (phC (cutA v0_2 (⟨#[59]⟩)) 5)), .v (.int .i64 (phC (cutA v0_2 (⟨#[59]⟩)) 6))]] : List (List CV))).length) (genC (v0_1 ++ ([[.v (.int .i64 (phC (cutA v0_2 (⟨#[59]⟩)) 0)), .v (.int .i64 (phC (cutA v0_2 (⟨#[59]⟩)) 1)), .v (.int .i64 (phC (cutA v0_2 (⟨#[59]⟩)) 2)), .v (.int .i64 (phC (cutA v0_2 (⟨#[59]⟩)) 3)), .v (.int .i64 (phC (cutA v0_2 (⟨#[59]⟩)) 4)), .v (.int .i64 (phC (cutA v0_2 (⟨#[59]⟩)) 5)), .v (.int .i64 (phC (cutA v0_2 (⟨#[59]⟩)) 6))]] : List (List CV))))), .c (.v (.int .i64 0))])))))))
theorem er_flash_ParseHits_0 (J : Inv) (tx : ByteArray) (v0_0 : List (List CV)) (v0_1 : List (List CV)) (v0_2 : ByteArray) (nn0 : Nat) (post : DV → Prop) : round Tryz.prog tab Sha95 ann_flash_ParseHits J Tryz.f33 post 0 (nn0 :: []) (mk_flash_ParseHits_0 tx v0_0 v0_1 v0_2) = rd_flash_ParseHits_0 J tx v0_0 v0_1 v0_2 nn0 post := by kernel_rfl
theorem lp_flash_ParseHits (J : Inv) (post : DV → Prop) : AllG J (loopsFn Tryz.prog tab Sha95 ann_flash_ParseHits J Tryz.f33 post) = ((∀ i s, J 0 [i] s → round Tryz.prog tab Sha95 ann_flash_ParseHits J Tryz.f33 post 0 [i] s) ∧ True) := by kernel_rfl
def J_flash_ParseHits (tx : ByteArray) : Inv := fun b F s => match b, F with
 | 0, [nn0] => ∃ (v0_0 : List (List CV)) (v0_1 : List (List CV)) (v0_2 : ByteArray), s = mk_flash_ParseHits_0 tx v0_0 v0_1 v0_2 ∧ (tx.size ≤ 60000 ∧ nn0 < nPc 59 tx ∧ v0_0 = [] ∧ v0_1 = (hsK tx nn0).map hitCv ∧ v0_2 = ofL (remC 59 tx.data.toList nn0) ∧ ∀ j, j < nn0 → hitB (partB tx j) = true)
 | _, _ => False
theorem rnd_flash_ParseHits_0 (tx : ByteArray) (v0_0 : List (List CV)) (v0_1 : List (List CV)) (v0_2 : ByteArray) (nn0 : Nat) (hp : (tx).size ≤ 100000000) (hi : tx.size ≤ 60000 ∧ nn0 < nPc 59 tx ∧ v0_0 = [] ∧ v0_1 = (hsK tx nn0).map hitCv ∧ v0_2 = ofL (remC 59 tx.data.toList nn0) ∧ ∀ j, j < nn0 → hitB (partB tx j) = true) : rd_flash_ParseHits_0 (J_flash_ParseHits tx) tx v0_0 v0_1 v0_2 nn0 (fun r => LeD r (.tu [.c (.sl 7 ((phL tx).length) (hitsC (phL tx))), .c (.v (.int .i64 (phE tx)))])) := by
 obtain ⟨q, i1, i2, i3, i4, i5⟩ := hi
 subst i2 i3 i4
 have np := nPc_le 59 tx
 unfold rd_flash_ParseHits_0
 rw [cutA_rem i1, cutH_rem i1, show ofL (wAt 59 tx nn0) = partB tx nn0 from rfl]
 have ea : (hsK tx nn0).map hitCv ++ [[.v (.int .i64 (phC (partB tx nn0) 0)), .v (.int .i64 (phC (partB tx nn0) 1)), .v (.int .i64 (phC (partB tx nn0) 2)), .v (.int .i64 (phC (partB tx nn0) 3)), .v (.int .i64 (phC (partB tx nn0) 4)), .v (.int .i64 (phC (partB tx nn0) 5)), .v (.int .i64 (phC (partB tx nn0) 6))]] = (hsK tx (nn0 + 1)).map hitCv := by
  rw [hsK_succ, List.map_append]; rfl
 rw [ea, hitg_listC]
 refine ⟨Nat.le_trans partB_size (by omega), cond_i (fun g => ?_) (fun g => ?_)⟩
 ·have g : hitB (partB tx nn0) = false := by simpa using g
  have e : phE tx = 7 := by unfold phE; rw [if_neg (by omega), if_pos (synH_no i1 g)]
  rw [show phL tx = [] from if_neg (by rw [e]; decide), e]
  exact le_tu (le_hits []) (LeD.refl _)
 ·have g : hitB (partB tx nn0) = true := by simpa using g
  have all : ∀ j, j < nn0 + 1 → hitB (partB tx j) = true := fun j hj => by
   rcases (by omega : j < nn0 ∨ j = nn0) with c | rfl
   ·exact i5 j c
   ·exact g
  refine ⟨by simp [roomP, maxLen, hsK_len]; omega, rfl, rfl, cond_i (fun h => ?_) (fun h => ⟨numsP_hitg _, ?_⟩)⟩
  ·have h := of_decide_eq_true h
   rw [cutZ_rem h]
   exact ⟨_, _, _, rfl, q, h, rfl, rfl, rfl, all⟩
  ·have h := of_decide_eq_false h
   have en : nn0 + 1 = nPc 59 tx := by omega
   rw [en] at all ⊢
   have e : phE tx = hitsE (hsK tx (nPc 59 tx)) := by unfold phE; rw [if_neg (by omega), if_neg (by rw [synH_yes all]; simp)]
   rw [← e]
   refine cond_i (fun g => ?_) (fun g => ?_)
   ·have g : phE tx ≠ 0 := by simpa using g
    rw [show phL tx = [] from if_neg g]
    exact le_tu le_nil (LeD.refl _)
   ·have g : phE tx = 0 := by simpa using g
    rw [show phL tx = hsK tx (nPc 59 tx) from if_pos g, g]
    exact le_tu (le_hits _) (LeD.refl _)
theorem spec_flash_ParseHits (tx : ByteArray) (hp : (tx).size ≤ 100000000) : vc_flash_ParseHits (J_flash_ParseHits tx) tx (fun r => LeD r (.tu [.c (.sl 7 ((phL tx).length) (hitsC (phL tx))), .c (.v (.int .i64 (phE tx)))])) := by
 unfold vc_flash_ParseHits
 refine cond_i (fun h => ?_) (fun h => ?_)
 ·have h := of_decide_eq_true h
  have e : phE tx = 8 := if_pos (by omega)
  rw [show phL tx = [] from if_neg (by rw [e]; decide), e]
  exact le_tu le_nil (LeD.refl _)
 ·have h := of_decide_eq_false h
  exact ⟨⟨⟨59, rfl⟩, rfl, by omega, rfl⟩, _, _, _, rfl, by omega, nPc_pos _ _, rfl, rfl, (ofL_back tx).symm, fun j hj => absurd hj (Nat.not_lt_zero _)⟩
theorem all_flash_ParseHits (tx : ByteArray) (hp : (tx).size ≤ 100000000) : AllG (J_flash_ParseHits tx) (loopsFn Tryz.prog tab Sha95 ann_flash_ParseHits (J_flash_ParseHits tx) Tryz.f33 (fun r => LeD r (.tu [.c (.sl 7 ((phL tx).length) (hitsC (phL tx))), .c (.v (.int .i64 (phE tx)))]))) := by
 rw [lp_flash_ParseHits]
 refine ⟨?_, trivial⟩
 ·intro i s h
  obtain ⟨w0, w1, w2, rfl, hi⟩ := h
  rw [er_flash_ParseHits_0]
  exact rnd_flash_ParseHits_0 tx _ _ _ _ hp hi
def con_flash_ParseHits : Con := fun args => match args with
 | [.t (.c (.v (.string tx)))] => some (.tu [.c (.sl 7 ((phL tx).length) (hitsC (phL tx))), .c (.v (.int .i64 (phE tx)))], some ((tx).size ≤ 100000000), false)
 | _ => none
theorem ok_flash_ParseHits : Ok Tryz.prog 33 con_flash_ParseHits := by
 refine Ok.fn (ann := ann_flash_ParseHits) mixed tabOK VSha95 VIlib (fn := Tryz.f33) (by kernel_rfl) (by kernel_rfl) fit_flash_ParseHits fun args r pre fresh h hp => ?_
 unfold con_flash_ParseHits at h
 split at h
 ·rename_i tx
  cases h
  refine ⟨rfl, J_flash_ParseHits tx, _, LeA.refl _, Nat.le_of_ble_eq_true (by kernel_rfl), ?_, ?_⟩
  ·rw [ev_flash_ParseHits]; exact spec_flash_ParseHits tx hp
  ·exact all_flash_ParseHits tx hp
 ·cases h
def Sha96 : Sum := addS Sha95 33 con_flash_ParseHits
theorem VSha96 : Valid Tryz.prog Sha96 := Valid.add VSha95 ok_flash_ParseHits
def mk_flash_ParseVeto_0 (tx : ByteArray) (v0_0 : List Int) (v0_1 : List Int) (v0_2 : ByteArray) : DS := ⟨[none, none, some (.t (.c (.p 2 0))), some (.t (.c (.p 3 0))), some (.t (.c (.p 4 0))), none, none, none, none, none, none, some (.t (.fn 150 [.px 1 0 (fun _ => .v (.string (⟨#[32]⟩))), .p 11 0, .px 1 0 (fun _ => .v (.int .i64 0))])), none, none, none, none, none, none, none, none, none, none, none, none, none, none, none, none, none, none, none, none, none, none, none, none, none, none], [some (.num 3 .i64 v0_0), some (.num 3 .i64 v0_1), some (.box 25 [.v (.int .i64 0), .os 0]), some (.box 36 [.v (.int .i64 0)]), some (.box 23 [.os 1]), none, none, none, none, none, none, some (.box 9 [.v (.string v0_2)]), none, none, none, none, none, none, none, none, none, none, none, none, none, none, none, none, none, none, none, none, none, none, none, none, none, none]⟩
def vc_flash_ParseVeto (J : Inv) (tx : ByteArray) (post : DV → Prop) : Prop := (sepP (.v (.string (⟨#[32]⟩))) ∧ (.v (.string tx) : CV) = .v (.string tx) ∧ tx.size ≤ 1000000000 ∧ (.v (.int .i64 0) : CV) = .v (.int .i64 0)) ∧ (J 0 [0] (mk_flash_ParseVeto_0 tx ([]) ([]) tx))
def ann_flash_ParseVeto : Ann := ⟨fun r => lookA r [(8, ([[], [0], [0, 1], [], [3], [0, 1, 2, 3, 4], [], [0, 1, 2, 3, 4, 5, 6]], [[8], [8], [8], [8], [8], [8], [], []]))], fun b => lookA b [(0, (none, some ⟨[2, 3, 4, 11], [2, 3, 4, 11], []⟩))], fun b => (lookA b [(0, [(2, 1, 0, .num 3 .i64 ([])), (4, 0, 1, .num 3 .i64 ([]))])]).getD [], Ilib, false, fun _ => none, fun _ => none⟩
theorem ev_flash_ParseVeto (J : Inv) (tx : ByteArray) (post : DV → Prop) : evFn Tryz.prog tab Sha96 ann_flash_ParseVeto J Tryz.f10 [.t (.c (.v (.string tx)))] post = vc_flash_ParseVeto J tx post := by kernel_rfl
theorem fit_flash_ParseVeto : okFn ann_flash_ParseVeto Tryz.f10 = true := by kernel_rfl
def rd_flash_ParseVeto_0 (J : Inv) (tx : ByteArray) (v0_0 : List Int) (v0_1 : List Int) (v0_2 : ByteArray) (nn0 : Nat) (post : DV → Prop) : Prop := (0 ≤ (3 : Int) ∧ (3 : Int) ≤ 17 ∧ ((cutA v0_2 (⟨#[32]⟩))).size ≤ 100000000) ∧ (cond (!(numB ((cutA v0_2 (⟨#[32]⟩))).data.toList ((3 : Int)).toNat false)) (post (.tu [.a [.v (.int .i64 0), .sl 1 (([] : List Int).length) (numsC .i64 ([] : List Int))], .c (.v (.int .i64 7))])) (((IntKind.i64 = IntKind.i64 ∧ True) ∧ roomP 8 (v0_1.length + ([atoV (cutA v0_2 (⟨#[32]⟩))] : List Int).length)) ∧ (((some (.t (.fn 150 [.px 1 0 (fun _ => .v (.string (⟨#[32]⟩))), .p 11 0, .px 1 0 (fun _ => .v (.int .i64 0))])) : Option DV) = some (.t (.fn 150 [.px 1 0 (fun _ => .v (.string (⟨#[32]⟩))), .p 11 0, .px 1 0 (fun _ => .v (.int .i64 0))]))) ∧ ((some (.box 9 [.v (.string v0_2)]) : Option Row) = some (.box 9 [.v (.string v0_2)])) ∧ cond (cutH v0_2 (⟨#[32]⟩)) (J 0 [nn0 + 1] (mk_flash_ParseVeto_0 tx v0_0 (v0_1 ++ ([atoV (cutA v0_2 (⟨#[32]⟩))])) (cutZ v0_2 (⟨#[32]⟩)))) ((0 ≤ (0 : Int) ∧ (0 : Int) < (((v0_1 ++ ([atoV (cutA v0_2 (⟨#[32]⟩))])).length : Nat) : Int)) ∧ ((0 < (v0_1 ++ ([atoV (cutA v0_2 (⟨#[32]⟩))])).length) ∧ ((0 < (1 : Int) ∧ (1 : Int) ≤ (((v0_1 ++ ([atoV (cutA v0_2 (⟨#[32]⟩))])).length : Nat) : Int)) ∧ ((numsP 1 ((v0_1 ++ ([atoV (cutA v0_2 (⟨#[32]⟩))])).length - 1) (fun i j => numsC .i64 (v0_1 ++ ([atoV (cutA v0_2 (⟨#[32]⟩))])) (1 + i) j) ∧ ((listC ((v0_1 ++ ([atoV (cutA v0_2 (⟨#[32]⟩))])).length - 1) mkInt (fun i j => numsC .i64 (v0_1 ++ ([atoV (cutA v0_2 (⟨#[32]⟩))])) (1 + i) j))).length ≤ 1000000) ∧ (cond ((vetE ((v0_1 ++ ([atoV (cutA v0_2 (⟨#[32]⟩))])).getD 0 0) (listC ((v0_1 ++ ([atoV (cutA v0_2 (⟨#[32]⟩))])).length - 1) mkInt (fun i j => numsC .i64 (v0_1 ++ ([atoV (cutA v0_2 (⟨#[32]⟩))])) (1 + i) j))) != (0 : Int)) (post (.tu [.a [.v (.int .i64 0), .v (.slice none 0 0)], .c (.v (.int .i64 (vetE ((v0_1 ++ ([atoV (cutA v0_2 (⟨#[32]⟩))])).getD 0 0) (listC ((v0_1 ++ ([atoV (cutA v0_2 (⟨#[32]⟩))])).length - 1) mkInt (fun i j => numsC .i64 (v0_1 ++ ([atoV (cutA v0_2 (⟨#[32]⟩))])) (1 + i) j)))))])) (post (.tu [.a [.v (.int .i64 ((v0_1 ++ ([atoV (cutA v0_2 (⟨#[32]⟩))])).getD 0 0)), .sl 1 ((v0_1 ++ ([atoV (cutA v0_2 (⟨#[32]⟩))])).length - 1) (fun i j => numsC .i64 (v0_1 ++ ([atoV (cutA v0_2 (⟨#[32]⟩))])) (1 + i) j)], .c (.v (.int .i64 0))]))))))))))
theorem er_flash_ParseVeto_0 (J : Inv) (tx : ByteArray) (v0_0 : List Int) (v0_1 : List Int) (v0_2 : ByteArray) (nn0 : Nat) (post : DV → Prop) : round Tryz.prog tab Sha96 ann_flash_ParseVeto J Tryz.f10 post 0 (nn0 :: []) (mk_flash_ParseVeto_0 tx v0_0 v0_1 v0_2) = rd_flash_ParseVeto_0 J tx v0_0 v0_1 v0_2 nn0 post := by kernel_rfl
theorem lp_flash_ParseVeto (J : Inv) (post : DV → Prop) : AllG J (loopsFn Tryz.prog tab Sha96 ann_flash_ParseVeto J Tryz.f10 post) = ((∀ i s, J 0 [i] s → round Tryz.prog tab Sha96 ann_flash_ParseVeto J Tryz.f10 post 0 [i] s) ∧ True) := by kernel_rfl
def J_flash_ParseVeto (tx : ByteArray) : Inv := fun b F s => match b, F with
 | 0, [nn0] => ∃ (v0_0 : List Int) (v0_1 : List Int) (v0_2 : ByteArray), s = mk_flash_ParseVeto_0 tx v0_0 v0_1 v0_2 ∧ (tx.size ≤ 100000 ∧ nn0 < nPc 32 tx ∧ v0_0 = [] ∧ v0_1 = nvK tx nn0 ∧ v0_2 = ofL (remC 32 tx.data.toList nn0) ∧ ∀ j, j < nn0 → numB (wAt 32 tx j) 3 false = true)
 | _, _ => False
theorem rnd_flash_ParseVeto_0 (tx : ByteArray) (v0_0 : List Int) (v0_1 : List Int) (v0_2 : ByteArray) (nn0 : Nat) (hp : (tx).size ≤ 100000) (hi : tx.size ≤ 100000 ∧ nn0 < nPc 32 tx ∧ v0_0 = [] ∧ v0_1 = nvK tx nn0 ∧ v0_2 = ofL (remC 32 tx.data.toList nn0) ∧ ∀ j, j < nn0 → numB (wAt 32 tx j) 3 false = true) : rd_flash_ParseVeto_0 (J_flash_ParseVeto tx) tx v0_0 v0_1 v0_2 nn0 (fun r => LeD r (.tu [.a [.v (.int .i64 (pvF tx)), .sl 1 ((pvS tx).length) (intsC (pvS tx))], .c (.v (.int .i64 (pvE tx)))])) := by
 obtain ⟨q, i1, i2, i3, i4, i5⟩ := hi
 subst i2 i3 i4
 have np := nPc_le 32 tx
 unfold rd_flash_ParseVeto_0
 simp only [cutA_rem i1, cutH_rem i1, ofL_data, show ((3 : Int)).toNat = 3 from rfl]
 refine ⟨⟨by decide, by decide, by rw [ofL_size]; exact Nat.le_trans wAt_len (by omega)⟩, cond_i (fun g => ?_) (fun g => ?_)⟩
 ·have g : numB (wAt 32 tx nn0) 3 false = false := by simpa using g
  have e : pvE tx = 7 := by unfold pvE; rw [if_pos (allN_no i1 g)]
  rw [show pvF tx = 0 from if_neg (by rw [e]; decide), show pvS tx = [] from if_neg (by rw [e]; decide), e]
  exact le_tu (leT_a (LeCs.cons (LeC1.refl _) (LeCs.cons (leC_num []) LeCs.nil))) (LeD.refl _)
 ·have g : numB (wAt 32 tx nn0) 3 false = true := by simpa using g
  have ea : nvK tx nn0 ++ [atoV (ofL (wAt 32 tx nn0))] = nvK tx (nn0 + 1) := by rw [nvK_succ, numB_val (by decide) g]
  have ln : (nvK tx (nn0 + 1)).length = nn0 + 1 := nvK_len
  rw [ea]
  have all : ∀ j, j < nn0 + 1 → numB (wAt 32 tx j) 3 false = true := fun j hj => by
   rcases (by omega : j < nn0 ∨ j = nn0) with c | rfl
   ·exact i5 j c
   ·exact g
  refine ⟨⟨⟨by trivial, trivial⟩, by simp [roomP, maxLen, nvK_len]; omega⟩, trivial, trivial, cond_i (fun h => ?_) (fun h => ?_)⟩
  ·have h := of_decide_eq_true h
   rw [cutZ_rem h]
   exact ⟨_, _, _, rfl, q, h, rfl, rfl, rfl, all⟩
  ·have h := of_decide_eq_false h
   have en : nn0 + 1 = nPc 32 tx := by omega
   rw [drop_listC]
   refine ⟨⟨by omega, by omega⟩, by omega, ⟨by omega, by omega⟩, ⟨numsP_drop _, by rw [List.length_drop]; omega⟩, ?_⟩
   have ex : nvK tx (nn0 + 1) = pvX tx := by rw [en]; rfl
   rw [ex]
   have e : pvE tx = vetE ((pvX tx).getD 0 0) ((pvX tx).drop 1) := by unfold pvE; rw [if_neg (by rw [allN_yes (by rw [← en]; exact all)]; simp)]
   rw [← e]
   refine cond_i (fun g => ?_) (fun g => ?_)
   ·have g : pvE tx ≠ 0 := by simpa using g
    rw [show pvF tx = 0 from if_neg g, show pvS tx = [] from if_neg g]
    exact le_tu (leT_a (LeCs.cons (LeC1.refl _) (LeCs.cons leC_nil LeCs.nil))) (LeD.refl _)
   ·have g : pvE tx = 0 := by simpa using g
    rw [show pvF tx = (pvX tx).getD 0 0 from if_pos g, show pvS tx = (pvX tx).drop 1 from if_pos g, g]
    exact le_tu (leT_a (LeCs.cons (LeC1.refl _) (LeCs.cons (leC_drop _) LeCs.nil))) (LeD.refl _)
theorem spec_flash_ParseVeto (tx : ByteArray) (hp : (tx).size ≤ 100000) : vc_flash_ParseVeto (J_flash_ParseVeto tx) tx (fun r => LeD r (.tu [.a [.v (.int .i64 (pvF tx)), .sl 1 ((pvS tx).length) (intsC (pvS tx))], .c (.v (.int .i64 (pvE tx)))])) := by
 unfold vc_flash_ParseVeto
 exact ⟨⟨⟨32, rfl⟩, rfl, by omega, rfl⟩, _, _, _, rfl, by omega, nPc_pos _ _, rfl, rfl, (ofL_back tx).symm, fun j hj => absurd hj (Nat.not_lt_zero _)⟩
theorem all_flash_ParseVeto (tx : ByteArray) (hp : (tx).size ≤ 100000) : AllG (J_flash_ParseVeto tx) (loopsFn Tryz.prog tab Sha96 ann_flash_ParseVeto (J_flash_ParseVeto tx) Tryz.f10 (fun r => LeD r (.tu [.a [.v (.int .i64 (pvF tx)), .sl 1 ((pvS tx).length) (intsC (pvS tx))], .c (.v (.int .i64 (pvE tx)))]))) := by
 rw [lp_flash_ParseVeto]
 refine ⟨?_, trivial⟩
 ·intro i s h
  obtain ⟨w0, w1, w2, rfl, hi⟩ := h
  rw [er_flash_ParseVeto_0]
  exact rnd_flash_ParseVeto_0 tx _ _ _ _ hp hi
def con_flash_ParseVeto : Con := fun args => match args with
 | [.t (.c (.v (.string tx)))] => some (.tu [.a [.v (.int .i64 (pvF tx)), .sl 1 ((pvS tx).length) (intsC (pvS tx))], .c (.v (.int .i64 (pvE tx)))], some ((tx).size ≤ 100000), false)
 | _ => none
theorem ok_flash_ParseVeto : Ok Tryz.prog 10 con_flash_ParseVeto := by
 refine Ok.fn (ann := ann_flash_ParseVeto) mixed tabOK VSha96 VIlib (fn := Tryz.f10) (by kernel_rfl) (by kernel_rfl) fit_flash_ParseVeto fun args r pre fresh h hp => ?_
 unfold con_flash_ParseVeto at h
 split at h
 ·rename_i tx
  cases h
  refine ⟨rfl, J_flash_ParseVeto tx, _, LeA.refl _, Nat.le_of_ble_eq_true (by kernel_rfl), ?_, ?_⟩
  ·rw [ev_flash_ParseVeto]; exact spec_flash_ParseVeto tx hp
  ·exact all_flash_ParseVeto tx hp
 ·cases h
def Sha97 : Sum := addS Sha96 10 con_flash_ParseVeto
theorem VSha97 : Valid Tryz.prog Sha97 := Valid.add VSha96 ok_flash_ParseVeto
end Go.Proofs.YtdkpgodakmailaaGreatDoor