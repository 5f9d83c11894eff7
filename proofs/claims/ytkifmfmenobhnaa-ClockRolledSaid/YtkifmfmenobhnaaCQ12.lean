/- Texts of this claim, together. -/
import Derived.Test.YtkifmfmenobhnaaCQ11

set_option linter.unusedVariables false
set_option linter.unusedSimpArgs false
namespace Go.Proofs.Ytkifmfmenobhnaa
open Go.RowKit Ev
def nwK (l : List Int) (p : Int) : Nat → Int
 | 0 => 0
 | k + 1 => nwK l p k + l.getD k 0 % p
def nwL (l : List Int) (p : Int) (k : Nat) : List Int := (List.range k).map fun i => nwK l p (i + 1)
def nwM (l : List Int) (p : Int) (k : Nat) : List Int := (List.range k).map fun i => nwK l p (i + 1) % p
theorem nwL_succ (l : List Int) (p : Int) (k : Nat) : nwL l p (k + 1) = nwL l p k ++ [nwK l p (k + 1)] := by
 unfold nwL; rw [List.range_succ, List.map_append]; rfl
theorem nwM_succ (l : List Int) (p : Int) (k : Nat) : nwM l p (k + 1) = nwM l p k ++ [nwK l p (k + 1) % p] := by
 unfold nwM; rw [List.range_succ, List.map_append]; rfl
theorem nwK_rg {l : List Int} {p : Int} (hp : 1 ≤ p) : ∀ k : Nat, 0 ≤ nwK l p k ∧ nwK l p k ≤ (k : Int) * p := by
 intro k
 induction k with
 | zero => simp [nwK]
 | succ k ih =>
  have m1 : 0 ≤ l.getD k 0 % p := Int.emod_nonneg _ (by omega)
  have m2 : l.getD k 0 % p < p := Int.emod_lt_of_pos _ (by omega)
  have e : ((k + 1 : Nat) : Int) * p = (k : Int) * p + p := by rw [Int.natCast_succ, Int.add_mul, Int.one_mul]
  unfold nwK
  omega
theorem nwM_at {l : List Int} {p : Int} {n i : Nat} (h : i < n) : (nwM l p n).getD i 0 = nwK l p (i + 1) % p := by simp [nwM, List.getD, h]
theorem nwM_ur {l : List Int} {p : Int} (hp : 1 ≤ p) (hp2 : p ≤ 1000000000000) (hl : l.length ≤ 40) : urE (nwM l p l.length) p = 0 := by
 unfold urE
 rw [if_pos (inB_true.2 ⟨hp, hp2⟩)]
 have h2 : ((nwM l p l.length).all fun n => inB n 0 (p - 1)) = true := List.all_eq_true.2 fun x hx => by
  obtain ⟨i, hi, e⟩ := List.mem_iff_getElem.1 hx
  simp only [nwM, List.getElem_map, List.getElem_range] at e
  subst e
  have m1 : 0 ≤ nwK l p (i + 1) % p := Int.emod_nonneg _ (by omega)
  have m2 : nwK l p (i + 1) % p < p := Int.emod_lt_of_pos _ (by omega)
  exact inB_true.2 ⟨m1, by omega⟩
 rw [h2, show (nwM l p l.length).length = l.length by simp [nwM], decide_eq_true (show (l.length : Int) ≤ 40 by omega)]; rfl
theorem div_step {a b p : Int} (hp : 1 ≤ p) (hb : 0 ≤ b ∧ b < p) : (a + b) / p = a / p + if (a + b) % p < a % p then 1 else 0 := by
 have h0 : 0 < p := by omega
 have e := Int.emod_add_mul_ediv a p
 have m1 : 0 ≤ a % p := Int.emod_nonneg _ (by omega)
 have m2 : a % p < p := Int.emod_lt_of_pos _ h0
 by_cases c : a % p + b < p
 ·obtain ⟨d1, d2⟩ := (Int.ediv_emod_unique (a := a + b) (r := a % p + b) (q := a / p) h0).2 ⟨by omega, by omega, c⟩
  rw [d1, d2, if_neg (by omega)]; omega
 ·obtain ⟨d1, d2⟩ := (Int.ediv_emod_unique (a := a + b) (r := a % p + b - p) (q := a / p + 1) h0).2 ⟨by rw [Int.mul_add, Int.mul_one]; omega, by omega, by omega⟩
  rw [d1, d2, if_pos (by omega)]
theorem urT_nw {l : List Int} {p : Int} (hp : 1 ≤ p) {n : Nat} : ∀ k, k + 1 ≤ n → urT (nwM l p n) (k + 1) = nwK l p (k + 1) / p := by
 intro k
 induction k with
 | zero =>
  intro h
  have m1 : 0 ≤ l.getD 0 0 % p := Int.emod_nonneg _ (by omega)
  have m2 : l.getD 0 0 % p < p := Int.emod_lt_of_pos _ (by omega)
  show (0 + if 0 < 0 ∧ _ then 1 else 0) = (0 + l.getD 0 0 % p) / p
  rw [if_neg (by omega), Int.zero_add (l.getD 0 0 % p), Int.ediv_eq_zero_of_lt m1 m2]; rfl
 | succ k ih =>
  intro h
  have m1 : 0 ≤ l.getD (k + 1) 0 % p := Int.emod_nonneg _ (by omega)
  have m2 : l.getD (k + 1) 0 % p < p := Int.emod_lt_of_pos _ (by omega)
  have e : nwK l p (k + 1 + 1) = nwK l p (k + 1) + l.getD (k + 1) 0 % p := rfl
  rw [urT, ih (by omega), nwM_at (by omega), nwM_at (by omega), show k + 1 - 1 + 1 = k + 1 by omega, e, div_step hp ⟨m1, m2⟩]
  congr 1
  by_cases c : (nwK l p (k + 1) + l.getD (k + 1) 0 % p) % p < nwK l p (k + 1) % p
  ·rw [if_pos ⟨by omega, c⟩, if_pos c]
  ·rw [if_neg (fun q => c q.2), if_neg c]
theorem ur_nw {l : List Int} {p : Int} (hp : 1 ≤ p) (n : Nat) : ∀ k, k ≤ n → urK (nwM l p n) p k = nwL l p k := by
 intro k
 induction k with
 | zero => intro _; rfl
 | succ k ih =>
  intro h
  rw [urK_succ, nwL_succ, ih (by omega), urT_nw hp k h, nwM_at h]
  have e := Int.emod_add_mul_ediv (nwK l p (k + 1)) p
  rw [Int.mul_comm] at e
  congr 2
  omega
theorem erB_tk {q : List Lp} (h : lpE q = 0) {t : Int} {j : Nat} (hj : j ≤ q.length) (e : erB q t j = true) : 0 ≤ t ∧ t ≤ 1000000000000 := by
 unfold erB at e
 have e := inB_true.1 e
 unfold erF erT at e
 constructor
 ·rcases Nat.eq_zero_or_pos j with c | c
  ·rw [if_pos c] at e; omega
  ·rw [if_neg (by omega)] at e
   have := ((lpE_ok h).2 (j - 1) (by omega)).1
   omega
 ·by_cases c : j < q.length
  ·rw [if_pos c] at e
   have := ((lpE_ok h).2 j c).1
   omega
  ·rw [if_neg c] at e; omega
theorem lab_rg {q : List Lp} (h : lpE q = 0) {t : Int} (ht : 0 ≤ t ∧ t ≤ 1000000000000) : inB (labelI q t) (-2000000000000) 2000000000000 = true := by
 obtain ⟨k, hk, e⟩ := era_ex h ht
 have r := erS_rg (lps_ok h) k hk
 have b := (lpE_ok h).1
 rw [era_lab h ht hk e]
 exact inB_true.2 (by omega)
theorem tf_all {q : List Lp} (h : lpE q = 0) {t : Int} (ht : 0 ≤ t ∧ t ≤ 1000000000000) : (tfV q (labelI q t)).length ≤ q.length + 1 ∧ (tfV q (labelI q t)).contains t = true ∧ ∀ i, i < (tfV q (labelI q t)).length → laE q ((tfV q (labelI q t)).getD i 0) = 0 ∧ laV q ((tfV q (labelI q t)).getD i 0) = labelI q t := by
 have eT : tfE q (labelI q t) = 0 := by unfold tfE; rw [h, lab_rg h ht]; rfl
 have eV : tfV q (labelI q t) = tfK q (labelI q t) (q.length + 1) := if_pos eT
 refine ⟨tfV_len q _, ?_, fun i hi => ?_⟩
 ·obtain ⟨k, hk, e⟩ := era_ex h ht
  have el := era_lab h ht hk e
  rw [eV, List.contains_iff_mem]
  unfold tfK
  rw [List.mem_map]
  refine ⟨k, ?_, by omega⟩
  rw [List.mem_filter]
  exact ⟨List.mem_range.2 (by omega), by rw [show labelI q t - erS q k = t by omega]; exact e⟩
 ·have hm : (tfV q (labelI q t)).getD i 0 ∈ tfK q (labelI q t) (q.length + 1) := by
   rw [← eV, show (tfV q (labelI q t)).getD i 0 = (tfV q (labelI q t))[i] by simp [List.getD, hi]]
   exact List.getElem_mem hi
  unfold tfK at hm
  rw [List.mem_map] at hm
  obtain ⟨j, hj, e⟩ := hm
  rw [List.mem_filter] at hj
  have hj1 := List.mem_range.1 hj.1
  have hj2 := hj.2
  rw [e] at hj2
  have ht2 := erB_tk h (by omega) hj2
  have eA : laE q ((tfV q (labelI q t)).getD i 0) = 0 := by unfold laE; rw [h, tkB_iff.2 ht2]; rfl
  refine ⟨eA, ?_⟩
  rw [show laV q ((tfV q (labelI q t)).getD i 0) = labelI q ((tfV q (labelI q t)).getD i 0) from if_pos eA, era_lab h ht2 (by omega) hj2]
  omega
def mk_law01_ClockRolled_0 (l : List Int) (per : Int) (q : List Lp) (tk : Int) (v0_0 : List Int) (v0_1 : List Int) (v0_2 : Int) (v0_3 : Int) : DS := ⟨[none, some (.t (.c (.sl 2 q.length (lppsC q)))), some (.t (.c (.v (.int .i64 tk)))), some (.t (.c (.p 3 0))), none, none, none, some (.t (.c (.os 7))), some (.t (.c (.os 8))), some (.t (.c (.v (.int .i64 v0_3)))), some (.t (.c (.v (.int .i64 v0_2)))), none, none, none, none, none, none, none, none, none, none, none, none, none, none, none, none, none, none, none, none, none, none, none, none, none, none, none, none, none, none, none, none, none, none, none, none, none, none, none, none, none, none, none, none, none, none, none, none, none, none, none, none, none, none, none, none, none, none, none, none, none, none, none, none, none, none, none, none, none, none, none, none, none, none, none, none, none, none, none, none, none, none, none, none, none, none, none, none, none, none, none, none, none, none, none, none, none, none, none, none, none, none, none, none, none, none, none, none, none, none, none, none, none, none, none, none, none, none, none, none, none, none, none, none, none, none, none, none, none, none, none, none, none, none, none, none], [none, none, none, some (.box 24 [.sl 1 l.length (intsC l), .v (.int .i64 per)]), none, none, none, some (.num 3 .i64 v0_0), some (.num 3 .i64 v0_1), none, none, none, none, none, none, none, none, none, none, none, none, none, none, none, none, none, none, none, none, none, none, none, none, none, none, none, none, none, none, none, none, none, none, none, none, none, none, none, none, none, none, none, none, none, none, none, none, none, none, none, none, none, none, none, none, none, none, none, none, none, none, none, none, none, none, none, none, none, none, none, none, none, none, none, none, none, none, none, none, none, none, none, none, none, none, none, none, none, none, none, none, none, none, none, none, none, none, none, none, none, none, none, none, none, none, none, none, none, none, none, none, none, none, none, none, none, none, none, none, none, none, none, none, none, none, none, none, none, none, none, none, none, none, none, none, none, none]⟩
def mk_law01_ClockRolled_2 (l : List Int) (per : Int) (q : List Lp) (tk : Int) (v2_0 : Int) : DS := ⟨[none, some (.t (.c (.sl 2 q.length (lppsC q)))), none, none, none, none, none, none, none, none, none, none, none, some (.t (.c (.v (.int .i64 (laV (listC ((listC q.length mkLpp (lppsC q)).length) mkLpp (lppsC (listC q.length mkLpp (lppsC q)))) tk))))), none, some (.t (.c (.sl 1 ((tfV (listC ((listC q.length mkLpp (lppsC q)).length) mkLpp (lppsC (listC q.length mkLpp (lppsC q)))) (laV (listC ((listC q.length mkLpp (lppsC q)).length) mkLpp (lppsC (listC q.length mkLpp (lppsC q)))) tk)).length) (intsC (tfV (listC ((listC q.length mkLpp (lppsC q)).length) mkLpp (lppsC (listC q.length mkLpp (lppsC q)))) (laV (listC ((listC q.length mkLpp (lppsC q)).length) mkLpp (lppsC (listC q.length mkLpp (lppsC q)))) tk)))))), none, some (.t (.c (.v (.int .i64 v2_0)))), none, none, none, none, none, none, none, none, none, none, none, none, none, none, none, none, none, none, none, none, none, none, none, none, none, none, none, none, none, none, none, none, none, none, none, none, none, none, none, none, none, none, none, none, none, none, none, none, none, none, none, none, none, none, none, none, none, none, none, none, none, none, none, none, none, none, none, none, none, none, none, none, none, none, none, none, none, none, none, none, none, none, none, none, none, none, none, none, none, none, none, none, none, none, none, none, none, none, none, none, none, none, none, none, none, none, none, none, none, none, none, none, none, none, none, none, none, none, none, none, none, none, none, none, none, none, none, none, none], [none, none, none, none, none, none, none, none, none, none, none, none, none, none, none, none, none, none, none, none, none, none, none, none, none, none, none, none, none, none, none, none, none, none, none, none, none, none, none, none, none, none, none, none, none, none, none, none, none, none, none, none, none, none, none, none, none, none, none, none, none, none, none, none, none, none, none, none, none, none, none, none, none, none, none, none, none, none, none, none, none, none, none, none, none, none, none, none, none, none, none, none, none, none, none, none, none, none, none, none, none, none, none, none, none, none, none, none, none, none, none, none, none, none, none, none, none, none, none, none, none, none, none, none, none, none, none, none, none, none, none, none, none, none, none, none, none, none, none, none, none, none, none, none, none, none, none]⟩
def vc_law01_ClockRolled (J : Inv) (l : List Int) (per : Int) (q : List Lp) (tk : Int) (post : DV → Prop) : Prop := (cond (decide (((l.length : Nat) : Int) > (40 : Int))) ((true = true) ∧ ((true = true) ∧ ((true = true) ∧ (True)))) (cond (!(inB per (1 : Int) (1000000000000 : Int))) ((true = true) ∧ ((true = true) ∧ (True))) ((numsP 2 q.length (lppsC q)) ∧ (cond ((lpE (listC q.length mkLpp (lppsC q))) != (0 : Int)) ((true = true) ∧ (True)) (True))))) ∧ (lt ((bif decide (((l.length : Nat) : Int) > (40 : Int)) then true else (bif (!(inB per (1 : Int) (1000000000000 : Int))) then true else (bif ((lpE (listC q.length mkLpp (lppsC q))) != (0 : Int)) then true else (!(tkB tk)))))) fun x1 => cond x1 (post (.t (.c (.v (.bool true))))) (∃ n, J 0 (n :: []) (mk_law01_ClockRolled_0 l per q tk ([]) ([]) 0 0)))
def ann_law01_ClockRolled : Ann := ⟨fun r => lookA r [(10, ([[], [], [1], [], [1, 2, 3], [1, 2, 3, 4], [], [6], [1, 2, 3, 4, 5, 6, 7], [0, 1, 2, 3, 4, 5, 6, 7, 8], [0, 1, 2, 3, 4, 5, 6, 7, 8, 9]], [[57], [57], [57], [57], [57], [57], [57], [57], [], [], []])), (11, ([[], [], [1], [0, 1, 2], [], [], [], [6], [0, 1, 2, 3, 5, 6, 7], [0, 1, 2, 3, 5, 6, 7, 8], [0, 1, 2, 3, 4, 5, 6, 7, 8, 9], [0, 1, 2, 3, 4, 5, 6, 7, 8, 9, 10], [0, 1, 2, 3, 4, 5, 6, 7, 8, 9, 10, 11]], [[61, 67, 68], [61, 67, 68], [67, 68], [9999, 7, 61, 62], [61, 67, 68], [61, 67, 68], [61, 67, 68], [7, 61, 62, 67, 68], [68], [], [], [], []])), (22, ([[], [0], [], [], [2, 3], [2, 3, 4], [0, 1, 2, 3, 4, 5], [0, 1, 2, 3, 4, 5, 6], [0, 1, 2, 3, 4, 5, 6, 7], [0, 1, 2, 3, 4, 5, 6, 7], [0, 1, 2, 3, 4, 5, 6, 7, 8], [0, 1, 2, 3, 4, 5, 6, 7, 8, 9, 10]], [[132, 137], [137], [132, 137], [132, 137], [132, 137], [132, 137], [], [], [], [], [], []]))], fun b => lookA b [(0, (none, some ⟨[1, 2, 3, 9, 10], [3], [(7, .num 3 .i64 ([])), (8, .num 3 .i64 ([]))]⟩)), (2, (none, some ⟨[1, 13, 15, 17], [], []⟩))], fun _ => [], I1, false, fun r => lookA r [(3, (5, [41])), (14, (3, [100])), (17, (3, [123])), (23, (3, [146]))], fun _ => none⟩
theorem ev_law01_ClockRolled (J : Inv) (l : List Int) (per : Int) (q : List Lp) (tk : Int) (post : DV → Prop) : evFn Try.prog tab Sy101 ann_law01_ClockRolled J Try.f4 [.t (.a [.sl 1 l.length (intsC l), .v (.int .i64 per)]), .t (.c (.sl 2 q.length (lppsC q))), .t (.c (.v (.int .i64 tk)))] post = vc_law01_ClockRolled J l per q tk post := by kernel_rfl
theorem fit_law01_ClockRolled : okFn ann_law01_ClockRolled Try.f4 = true := by kernel_rfl
def rd_law01_ClockRolled_0 (J : Inv) (l : List Int) (per : Int) (q : List Lp) (tk : Int) (v0_0 : List Int) (v0_1 : List Int) (v0_2 : Int) (v0_3 : Int) (nn0 : Nat) (post : DV → Prop) : Prop := cond (decide (v0_2 < ((l.length : Nat) : Int))) ((0 ≤ v0_2 ∧ v0_2 < ((l.length : Nat) : Int)) ∧ ((0 < per ∧ per ≤ 4000000000000000000) ∧ (lt (IntKind.i64.wrap (v0_3 + ((l.getD v0_2.toNat 0) % per))) fun x1 => ((IntKind.i64 = IntKind.i64 ∧ True) ∧ roomP 8 (v0_0.length + ([x1] : List Int).length)) ∧ ((0 < per ∧ per ≤ 4000000000000000000) ∧ (((IntKind.i64 = IntKind.i64 ∧ True) ∧ roomP 8 (v0_1.length + ([(x1 % per)] : List Int).length)) ∧ (lt (IntKind.i64.wrap (v0_2 + (1 : Int))) fun x2 => J 0 (nn0 :: []) (mk_law01_ClockRolled_0 l per q tk (v0_0 ++ ([x1])) (v0_1 ++ ([(x1 % per)])) x2 x1))))))) ((numsP 1 v0_1.length (numsC .i64 v0_1) ∧ ((listC v0_1.length mkInt (numsC .i64 v0_1))).length ≤ 1000000) ∧ ((numsP 2 q.length (lppsC q) ∧ ((listC q.length mkLpp (lppsC q))).length ≤ 1000) ∧ ((numsP 2 ((listC q.length mkLpp (lppsC q)).length) (lppsC (listC q.length mkLpp (lppsC q)))) ∧ ((cond ((urE (listC v0_1.length mkInt (numsC .i64 v0_1)) per) != (0 : Int)) ((true = true) ∧ ((true = true) ∧ ((true = true) ∧ (True)))) ((numsP 1 ((urR (listC v0_1.length mkInt (numsC .i64 v0_1)) per).length) (intsC (urR (listC v0_1.length mkInt (numsC .i64 v0_1)) per)) ∧ numsP 1 v0_0.length (numsC .i64 v0_0) ∧ ((listC ((urR (listC v0_1.length mkInt (numsC .i64 v0_1)) per).length) mkInt (intsC (urR (listC v0_1.length mkInt (numsC .i64 v0_1)) per)))).length ≤ 1000000) ∧ (cond (!(decide ((listC ((urR (listC v0_1.length mkInt (numsC .i64 v0_1)) per).length) mkInt (intsC (urR (listC v0_1.length mkInt (numsC .i64 v0_1)) per))) = (listC v0_0.length mkInt (numsC .i64 v0_0))))) ((true = true) ∧ ((true = true) ∧ (True))) (cond ((laE (listC ((listC q.length mkLpp (lppsC q)).length) mkLpp (lppsC (listC q.length mkLpp (lppsC q)))) tk) != (0 : Int)) ((true = true) ∧ (True)) (True))))) ∧ (lt ((bif ((urE (listC v0_1.length mkInt (numsC .i64 v0_1)) per) != (0 : Int)) then true else (bif (!(decide ((listC ((urR (listC v0_1.length mkInt (numsC .i64 v0_1)) per).length) mkInt (intsC (urR (listC v0_1.length mkInt (numsC .i64 v0_1)) per))) = (listC v0_0.length mkInt (numsC .i64 v0_0))))) then true else (bif ((laE (listC ((listC q.length mkLpp (lppsC q)).length) mkLpp (lppsC (listC q.length mkLpp (lppsC q)))) tk) != (0 : Int)) then true else (!(inB (laV (listC ((listC q.length mkLpp (lppsC q)).length) mkLpp (lppsC (listC q.length mkLpp (lppsC q)))) tk) (-2000000000000 : Int) (2000000000000 : Int))))))) fun x3 => cond x3 (post (.t (.c (.v (.bool false))))) ((numsP 2 q.length (lppsC q) ∧ ((listC q.length mkLpp (lppsC q))).length ≤ 1000) ∧ ((numsP 2 ((listC q.length mkLpp (lppsC q)).length) (lppsC (listC q.length mkLpp (lppsC q)))) ∧ ((cond ((tfE (listC ((listC q.length mkLpp (lppsC q)).length) mkLpp (lppsC (listC q.length mkLpp (lppsC q)))) (laV (listC ((listC q.length mkLpp (lppsC q)).length) mkLpp (lppsC (listC q.length mkLpp (lppsC q)))) tk)) != (0 : Int)) ((true = true) ∧ ((true = true) ∧ (True))) ((numsP 1 ((tfV (listC ((listC q.length mkLpp (lppsC q)).length) mkLpp (lppsC (listC q.length mkLpp (lppsC q)))) (laV (listC ((listC q.length mkLpp (lppsC q)).length) mkLpp (lppsC (listC q.length mkLpp (lppsC q)))) tk)).length) (intsC (tfV (listC ((listC q.length mkLpp (lppsC q)).length) mkLpp (lppsC (listC q.length mkLpp (lppsC q)))) (laV (listC ((listC q.length mkLpp (lppsC q)).length) mkLpp (lppsC (listC q.length mkLpp (lppsC q)))) tk))) ∧ ((listC ((tfV (listC ((listC q.length mkLpp (lppsC q)).length) mkLpp (lppsC (listC q.length mkLpp (lppsC q)))) (laV (listC ((listC q.length mkLpp (lppsC q)).length) mkLpp (lppsC (listC q.length mkLpp (lppsC q)))) tk)).length) mkInt (intsC (tfV (listC ((listC q.length mkLpp (lppsC q)).length) mkLpp (lppsC (listC q.length mkLpp (lppsC q)))) (laV (listC ((listC q.length mkLpp (lppsC q)).length) mkLpp (lppsC (listC q.length mkLpp (lppsC q)))) tk))))).length ≤ 1000000) ∧ (cond (!(((listC ((tfV (listC ((listC q.length mkLpp (lppsC q)).length) mkLpp (lppsC (listC q.length mkLpp (lppsC q)))) (laV (listC ((listC q.length mkLpp (lppsC q)).length) mkLpp (lppsC (listC q.length mkLpp (lppsC q)))) tk)).length) mkInt (intsC (tfV (listC ((listC q.length mkLpp (lppsC q)).length) mkLpp (lppsC (listC q.length mkLpp (lppsC q)))) (laV (listC ((listC q.length mkLpp (lppsC q)).length) mkLpp (lppsC (listC q.length mkLpp (lppsC q)))) tk))))).contains tk)) ((true = true) ∧ (True)) (lt (IntKind.i64.wrap (((q.length : Nat) : Int) + (1 : Int))) fun x6 => True)))) ∧ (lt ((bif ((tfE (listC ((listC q.length mkLpp (lppsC q)).length) mkLpp (lppsC (listC q.length mkLpp (lppsC q)))) (laV (listC ((listC q.length mkLpp (lppsC q)).length) mkLpp (lppsC (listC q.length mkLpp (lppsC q)))) tk)) != (0 : Int)) then true else (bif (!(((listC ((tfV (listC ((listC q.length mkLpp (lppsC q)).length) mkLpp (lppsC (listC q.length mkLpp (lppsC q)))) (laV (listC ((listC q.length mkLpp (lppsC q)).length) mkLpp (lppsC (listC q.length mkLpp (lppsC q)))) tk)).length) mkInt (intsC (tfV (listC ((listC q.length mkLpp (lppsC q)).length) mkLpp (lppsC (listC q.length mkLpp (lppsC q)))) (laV (listC ((listC q.length mkLpp (lppsC q)).length) mkLpp (lppsC (listC q.length mkLpp (lppsC q)))) tk))))).contains tk)) then true else decide ((((tfV (listC ((listC q.length mkLpp (lppsC q)).length) mkLpp (lppsC (listC q.length mkLpp (lppsC q)))) (laV (listC ((listC q.length mkLpp (lppsC q)).length) mkLpp (lppsC (listC q.length mkLpp (lppsC q)))) tk)).length : Nat) : Int) > (IntKind.i64.wrap (((q.length : Nat) : Int) + (1 : Int))))))) fun x7 => cond x7 (post (.t (.c (.v (.bool false))))) (∃ n, J 2 (n :: []) (mk_law01_ClockRolled_2 l per q tk 0)))))))))))
theorem er_law01_ClockRolled_0 (J : Inv) (l : List Int) (per : Int) (q : List Lp) (tk : Int) (v0_0 : List Int) (v0_1 : List Int) (v0_2 : Int) (v0_3 : Int) (nn0 : Nat) (post : DV → Prop) : round Try.prog tab Sy101 ann_law01_ClockRolled J Try.f4 post 0 (nn0 :: []) (mk_law01_ClockRolled_0 l per q tk v0_0 v0_1 v0_2 v0_3) = rd_law01_ClockRolled_0 J l per q tk v0_0 v0_1 v0_2 v0_3 nn0 post := by kernel_rfl
def rd_law01_ClockRolled_2 (J : Inv) (l : List Int) (per : Int) (q : List Lp) (tk : Int) (v2_0 : Int) (nn2 : Nat) (post : DV → Prop) : Prop := cond (decide (v2_0 < (((tfV (listC ((listC q.length mkLpp (lppsC q)).length) mkLpp (lppsC (listC q.length mkLpp (lppsC q)))) (laV (listC ((listC q.length mkLpp (lppsC q)).length) mkLpp (lppsC (listC q.length mkLpp (lppsC q)))) tk)).length : Nat) : Int))) ((numsP 2 q.length (lppsC q) ∧ ((listC q.length mkLpp (lppsC q))).length ≤ 1000) ∧ ((0 ≤ v2_0 ∧ v2_0 < (((tfV (listC ((listC q.length mkLpp (lppsC q)).length) mkLpp (lppsC (listC q.length mkLpp (lppsC q)))) (laV (listC ((listC q.length mkLpp (lppsC q)).length) mkLpp (lppsC (listC q.length mkLpp (lppsC q)))) tk)).length : Nat) : Int)) ∧ ((numsP 2 ((listC q.length mkLpp (lppsC q)).length) (lppsC (listC q.length mkLpp (lppsC q)))) ∧ ((cond ((laE (listC ((listC q.length mkLpp (lppsC q)).length) mkLpp (lppsC (listC q.length mkLpp (lppsC q)))) ((tfV (listC ((listC q.length mkLpp (lppsC q)).length) mkLpp (lppsC (listC q.length mkLpp (lppsC q)))) (laV (listC ((listC q.length mkLpp (lppsC q)).length) mkLpp (lppsC (listC q.length mkLpp (lppsC q)))) tk)).getD v2_0.toNat 0)) != (0 : Int)) ((true = true) ∧ (True)) (True)) ∧ (lt ((bif ((laE (listC ((listC q.length mkLpp (lppsC q)).length) mkLpp (lppsC (listC q.length mkLpp (lppsC q)))) ((tfV (listC ((listC q.length mkLpp (lppsC q)).length) mkLpp (lppsC (listC q.length mkLpp (lppsC q)))) (laV (listC ((listC q.length mkLpp (lppsC q)).length) mkLpp (lppsC (listC q.length mkLpp (lppsC q)))) tk)).getD v2_0.toNat 0)) != (0 : Int)) then true else ((laV (listC ((listC q.length mkLpp (lppsC q)).length) mkLpp (lppsC (listC q.length mkLpp (lppsC q)))) ((tfV (listC ((listC q.length mkLpp (lppsC q)).length) mkLpp (lppsC (listC q.length mkLpp (lppsC q)))) (laV (listC ((listC q.length mkLpp (lppsC q)).length) mkLpp (lppsC (listC q.length mkLpp (lppsC q)))) tk)).getD v2_0.toNat 0)) != (laV (listC ((listC q.length mkLpp (lppsC q)).length) mkLpp (lppsC (listC q.length mkLpp (lppsC q)))) tk)))) fun x1 => cond x1 (post (.t (.c (.v (.bool false))))) (lt (IntKind.i64.wrap (v2_0 + (1 : Int))) fun x2 => J 2 (nn2 :: []) (mk_law01_ClockRolled_2 l per q tk x2))))))) (post (.t (.c (.v (.bool true)))))
theorem er_law01_ClockRolled_2 (J : Inv) (l : List Int) (per : Int) (q : List Lp) (tk : Int) (v2_0 : Int) (nn2 : Nat) (post : DV → Prop) : round Try.prog tab Sy101 ann_law01_ClockRolled J Try.f4 post 1 (nn2 :: []) (mk_law01_ClockRolled_2 l per q tk v2_0) = rd_law01_ClockRolled_2 J l per q tk v2_0 nn2 post := by kernel_rfl
theorem lp_law01_ClockRolled (J : Inv) (post : DV → Prop) : AllG J (loopsFn Try.prog tab Sy101 ann_law01_ClockRolled J Try.f4 post) = (((∀ F s, ¬ J 0 (0 :: F) s) ∧ ∀ n F s, J 0 ((n + 1) :: F) s → round Try.prog tab Sy101 ann_law01_ClockRolled J Try.f4 post 0 (n :: F) s) ∧ ((∀ F s, ¬ J 2 (0 :: F) s) ∧ ∀ n F s, J 2 ((n + 1) :: F) s → round Try.prog tab Sy101 ann_law01_ClockRolled J Try.f4 post 1 (n :: F) s) ∧ True) := by kernel_rfl
def J_law01_ClockRolled (l : List Int) (per : Int) (q : List Lp) (tk : Int) : Inv := fun b F s => match b, F with
 | 0, [nn0] => ∃ (v0_0 : List Int) (v0_1 : List Int) (v0_2 : Int) (v0_3 : Int), s = mk_law01_ClockRolled_0 l per q tk v0_0 v0_1 v0_2 v0_3 ∧ (((l.length ≤ 40 ∧ 1 ≤ per ∧ per ≤ 1000000000000) ∧ lpE q = 0 ∧ tkB tk = true) ∧ 0 ≤ v0_2 ∧ v0_2 ≤ l.length ∧ (nn0 : Int) + v0_2 = l.length + 1 ∧ v0_3 = nwK l per v0_2.toNat ∧ v0_0 = nwL l per v0_2.toNat ∧ v0_1 = nwM l per v0_2.toNat)
 | 2, [nn2] => ∃ (v2_0 : Int), s = mk_law01_ClockRolled_2 l per q tk v2_0 ∧ (((l.length ≤ 40 ∧ 1 ≤ per ∧ per ≤ 1000000000000) ∧ lpE q = 0 ∧ tkB tk = true) ∧ 0 ≤ v2_0 ∧ v2_0 ≤ (tfV q (labelI q tk)).length ∧ (nn2 : Int) + v2_0 = (tfV q (labelI q tk)).length + 1)
 | _, _ => False
set_option maxHeartbeats 8000000 in
set_option maxRecDepth 100000 in
theorem rnd_law01_ClockRolled_0 (l : List Int) (per : Int) (q : List Lp) (tk : Int) (v0_0 : List Int) (v0_1 : List Int) (v0_2 : Int) (v0_3 : Int) (nn0 : Nat) (hi : ((l.length ≤ 40 ∧ 1 ≤ per ∧ per ≤ 1000000000000) ∧ lpE q = 0 ∧ tkB tk = true) ∧ 0 ≤ v0_2 ∧ v0_2 ≤ l.length ∧ ((nn0 + 1) : Int) + v0_2 = l.length + 1 ∧ v0_3 = nwK l per v0_2.toNat ∧ v0_0 = nwL l per v0_2.toNat ∧ v0_1 = nwM l per v0_2.toNat) : rd_law01_ClockRolled_0 (J_law01_ClockRolled l per q tk) l per q tk v0_0 v0_1 v0_2 v0_3 nn0 (fun r => LeD r (.t (.c (.v (.bool true))))) := by
 obtain ⟨q0, i1, i2, i3, i4, i5, i6⟩ := hi
 obtain ⟨k, rfl⟩ : ∃ k : Nat, v0_2 = k := ⟨v0_2.toNat, by omega⟩
 have hk : (k : Int).toNat = k := rfl
 rw [hk] at i4 i5 i6
 obtain ⟨⟨q1, q2, q3⟩, q4, q5⟩ := id q0
 have n2 := numsP_lpps q
 unfold rd_law01_ClockRolled_0
 simp only [ints_listC, lpps_listC, pngs_listC, rgs_listC, nums_ints]
 rw [hk]
 refine cond_i (fun h => ?_) (fun h => ?_)
 ·have hlt : k < l.length := by have := of_decide_eq_true h; omega
  have m1 : 0 ≤ l.getD k 0 % per := Int.emod_nonneg _ (by omega)
  have m2 : l.getD k 0 % per < per := Int.emod_lt_of_pos _ (by omega)
  have r := nwK_rg (l := l) (p := per) q2 k
  have mm : (k : Int) * per ≤ 40 * 1000000000000 := by
   have a1 : (k : Int) * per ≤ 40 * per := Int.mul_le_mul_of_nonneg_right (by omega) (by omega)
   omega
  have l1 : v0_0.length = k := by rw [i5]; simp [nwL]
  have l2 : v0_1.length = k := by rw [i6]; simp [nwM]
  refine ⟨by omega, by omega, lt_i fun x1 h1 => ⟨⟨by trivial, ?_⟩, by omega, ⟨by trivial, ?_⟩, lt_i fun x2 h2 => ?_⟩⟩
  ·unfold roomP maxLen; simp; omega
  ·unfold roomP maxLen; simp; omega
  ·rw [i4, wi (by omega)] at h1
   rw [wi (by omega)] at h2
   subst h1 h2
   refine ⟨_, _, _, _, rfl, q0, by omega, by omega, by omega, ?_, ?_, ?_⟩
   ·rw [show ((k : Int) + 1).toNat = k + 1 by omega]; rfl
   ·rw [show ((k : Int) + 1).toNat = k + 1 by omega, nwL_succ, i5]; rfl
   ·rw [show ((k : Int) + 1).toNat = k + 1 by omega, nwM_succ, i6]; rfl
 ·have h := of_decide_eq_false h
  have e : k = l.length := by omega
  subst e
  have l2 : v0_1.length = l.length := by rw [i6]; simp [nwM]
  have l1 : v0_0.length = l.length := by rw [i5]; simp [nwL]
  have eU : urE v0_1 per = 0 := by rw [i6]; exact nwM_ur q2 q3 q1
  have eR : urR v0_1 per = v0_0 := by
   rw [show urR v0_1 per = urV v0_1 per from if_pos eU, i6, i5]
   unfold urV
   rw [show (nwM l per l.length).length = l.length by simp [nwM]]
   exact ur_nw q2 _ l.length (Nat.le_refl _)
  have t := tkB_iff.1 q5
  have eA : laE q tk = 0 := by unfold laE; rw [q4, q5]; rfl
  have eV : laV q tk = labelI q tk := if_pos eA
  have eB := lab_rg q4 t
  have eT : tfE q (labelI q tk) = 0 := by unfold tfE; rw [q4, eB]; rfl
  obtain ⟨e1, e2, _⟩ := tf_all q4 t
  have n0 := numsP_ints v0_0
  have n1 := numsP_ints v0_1
  have n3 := numsP_ints (tfV q (labelI q tk))
  have b := (lpE_ok q4).1
  have w1 : IntKind.i64.wrap (((q.length : Nat) : Int) + 1) = ((q.length : Nat) : Int) + 1 := wi (by omega)
  have d1 : decide ((((tfV q (labelI q tk)).length : Nat) : Int) > ((q.length : Nat) : Int) + 1) = false := decide_eq_false (by omega)
  simp only [eU, eR, eA, eV, eB, eT, e2, w1, d1, n00, beq_self_eq_true, bne_self_eq_false, Bool.not_true, Bool.not_false, _root_.cond_true, _root_.cond_false, decide_true, eq_self_iff_true, List.length_nil, lt_v, q2a, q2b, q12a, q12b, q13a, q13b, wr00, nums_ints]
  refine ⟨⟨n1, by omega⟩, ⟨n2, by omega⟩, n2, ⟨⟨n0, n0, by omega⟩, trivial⟩, ⟨n2, by omega⟩, n2, ⟨⟨n3, by omega⟩, trivial⟩, (tfV q (labelI q tk)).length + 1, 0, rfl, q0, by omega, by omega, by omega⟩
theorem zero_law01_ClockRolled_0 (l : List Int) (per : Int) (q : List Lp) (tk : Int) (v0_0 : List Int) (v0_1 : List Int) (v0_2 : Int) (v0_3 : Int)  (hi : ((l.length ≤ 40 ∧ 1 ≤ per ∧ per ≤ 1000000000000) ∧ lpE q = 0 ∧ tkB tk = true) ∧ 0 ≤ v0_2 ∧ v0_2 ≤ l.length ∧ (0 : Int) + v0_2 = l.length + 1 ∧ v0_3 = nwK l per v0_2.toNat ∧ v0_0 = nwL l per v0_2.toNat ∧ v0_1 = nwM l per v0_2.toNat) : False := by
 omega
set_option maxHeartbeats 8000000 in
set_option maxRecDepth 100000 in
theorem rnd_law01_ClockRolled_2 (l : List Int) (per : Int) (q : List Lp) (tk : Int) (v2_0 : Int) (nn2 : Nat) (hi : ((l.length ≤ 40 ∧ 1 ≤ per ∧ per ≤ 1000000000000) ∧ lpE q = 0 ∧ tkB tk = true) ∧ 0 ≤ v2_0 ∧ v2_0 ≤ (tfV q (labelI q tk)).length ∧ ((nn2 + 1) : Int) + v2_0 = (tfV q (labelI q tk)).length + 1) : rd_law01_ClockRolled_2 (J_law01_ClockRolled l per q tk) l per q tk v2_0 nn2 (fun r => LeD r (.t (.c (.v (.bool true))))) := by
 obtain ⟨q0, i1, i2, i3⟩ := hi
 obtain ⟨k, rfl⟩ : ∃ k : Nat, v2_0 = k := ⟨v2_0.toNat, by omega⟩
 have hk : (k : Int).toNat = k := rfl
 obtain ⟨⟨q1, q2, q3⟩, q4, q5⟩ := id q0
 have n2 := numsP_lpps q
 have t := tkB_iff.1 q5
 have eA : laE q tk = 0 := by unfold laE; rw [q4, q5]; rfl
 have eV : laV q tk = labelI q tk := if_pos eA
 have b := (lpE_ok q4).1
 obtain ⟨e1, e2, e3⟩ := tf_all q4 t
 unfold rd_law01_ClockRolled_2
 simp only [ints_listC, lpps_listC, pngs_listC, rgs_listC, eV]
 rw [hk]
 refine cond_i (fun h => ?_) (fun h => LeD.refl _)
 have hlt : k < (tfV q (labelI q tk)).length := by have := of_decide_eq_true h; omega
 obtain ⟨f1, f2⟩ := e3 k hlt
 have w1 : IntKind.i64.wrap ((k : Int) + 1) = (k : Int) + 1 := wi (by omega)
 simp only [f1, f2, w1, n00, beq_self_eq_true, bne_self_eq_false, Bool.not_true, Bool.not_false, _root_.cond_true, _root_.cond_false, decide_true, eq_self_iff_true, List.length_nil, lt_v, q2a, q2b, q12a, q12b, q13a, q13b, wr00, nums_ints]
 exact ⟨⟨n2, by omega⟩, ⟨by omega, by omega⟩, n2, trivial, _, rfl, q0, by omega, by omega, by omega⟩
theorem zero_law01_ClockRolled_2 (l : List Int) (per : Int) (q : List Lp) (tk : Int) (v2_0 : Int)  (hi : ((l.length ≤ 40 ∧ 1 ≤ per ∧ per ≤ 1000000000000) ∧ lpE q = 0 ∧ tkB tk = true) ∧ 0 ≤ v2_0 ∧ v2_0 ≤ (tfV q (labelI q tk)).length ∧ (0 : Int) + v2_0 = (tfV q (labelI q tk)).length + 1) : False := by
 omega
set_option maxHeartbeats 8000000 in
set_option maxRecDepth 100000 in
theorem spec_law01_ClockRolled (l : List Int) (per : Int) (q : List Lp) (tk : Int) : vc_law01_ClockRolled (J_law01_ClockRolled l per q tk) l per q tk (fun r => LeD r (.t (.c (.v (.bool true))))) := by
 unfold vc_law01_ClockRolled
 simp only [ints_listC, lpps_listC, pngs_listC, rgs_listC]
 have n2 := numsP_lpps q
 refine ⟨cond_i (fun _ => ⟨trivial, trivial, trivial, trivial⟩) (fun _ => cond_i (fun _ => ⟨trivial, trivial, trivial⟩) (fun _ => ⟨n2, cond_i (fun _ => ⟨trivial, trivial⟩) (fun _ => trivial)⟩)), lt_i fun x1 h1 => cond_i (fun _ => LeD.refl _) (fun g => ?_)⟩
 rw [← h1] at g
 have hq : (l.length ≤ 40 ∧ 1 ≤ per ∧ per ≤ 1000000000000) ∧ lpE q = 0 ∧ tkB tk = true := by
  cases e1 : decide (((l.length : Nat) : Int) > 40) with
  | true => rw [e1] at g; cases g
  | false =>
   cases e2 : inB per 1 1000000000000 with
   | false => rw [e1, e2] at g; cases g
   | true =>
    cases e3 : (lpE q != 0) with
    | true => rw [e1, e2, e3] at g; cases g
    | false =>
     cases e4 : tkB tk with
     | false => rw [e1, e2, e3, e4] at g; cases g
     | true =>
      have e1 := of_decide_eq_false e1
      have e2 := inB_true.1 e2
      exact ⟨by omega, by simpa using e3, rfl⟩
 exact ⟨l.length + 1, _, _, _, _, rfl, hq, by omega, by omega, by omega, rfl, rfl, rfl⟩
theorem all_law01_ClockRolled (l : List Int) (per : Int) (q : List Lp) (tk : Int) : AllG (J_law01_ClockRolled l per q tk) (loopsFn Try.prog tab Sy101 ann_law01_ClockRolled (J_law01_ClockRolled l per q tk) Try.f4 (fun r => LeD r (.t (.c (.v (.bool true)))))) := by
 rw [lp_law01_ClockRolled]
 refine ⟨⟨?_, ?_⟩, ⟨?_, ?_⟩, trivial⟩
 ·intro F s h
  obtain _ | ⟨g, F⟩ := F
  case cons => exact h.elim
  obtain ⟨w0, w1, w2, w3, rfl, hi⟩ := h
  exact zero_law01_ClockRolled_0 l per q tk w0 w1 w2 w3 hi
 ·intro n F s h
  obtain _ | ⟨g, F⟩ := F
  case cons => exact h.elim
  obtain ⟨w0, w1, w2, w3, rfl, hi⟩ := h
  rw [er_law01_ClockRolled_0]
  exact rnd_law01_ClockRolled_0 l per q tk _ _ _ _ _ hi
 ·intro F s h
  obtain _ | ⟨g, F⟩ := F
  case cons => exact h.elim
  obtain ⟨w0, rfl, hi⟩ := h
  exact zero_law01_ClockRolled_2 l per q tk w0 hi
 ·intro n F s h
  obtain _ | ⟨g, F⟩ := F
  case cons => exact h.elim
  obtain ⟨w0, rfl, hi⟩ := h
  rw [er_law01_ClockRolled_2]
  exact rnd_law01_ClockRolled_2 l per q tk _ _ hi
theorem law_law01_ClockRolled (l : List Int) (per : Int) (q : List Lp) (tk : Int) (W : World) (N : Nat → Prop) (vs : List Value) (h : All2 (RelD (RelF W N)) [.t (.a [.sl 1 l.length (intsC l), .v (.int .i64 per)]), .t (.c (.sl 2 q.length (lppsC q))), .t (.c (.v (.int .i64 tk)))] vs) : Calls Try.prog 4 vs.toArray W fun e w' => e = .returned (.bool true) ∧ Below W.heap.size W w' :=
 law_end (fn_sound mixed tabOK VSy101 (ann := ann_law01_ClockRolled) VI1 (fn := Try.f4) (J := J_law01_ClockRolled l per q tk) (by kernel_rfl) fit_law01_ClockRolled (args := [.t (.a [.sl 1 l.length (intsC l), .v (.int .i64 per)]), .t (.c (.sl 2 q.length (lppsC q))), .t (.c (.v (.int .i64 tk)))]) (post := (fun r => LeD r (.t (.c (.v (.bool true)))))) (by rw [ev_law01_ClockRolled]; exact spec_law01_ClockRolled l per q tk) (all_law01_ClockRolled l per q tk) (Nat.le_of_ble_eq_true (by kernel_rfl)) W N vs trivial h)
end Go.Proofs.Ytkifmfmenobhnaa