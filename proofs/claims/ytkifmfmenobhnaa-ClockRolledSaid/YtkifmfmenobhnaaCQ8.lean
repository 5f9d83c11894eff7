/- Texts of this claim, together. -/
import Derived.Test.YtkifmfmenobhnaaCQ7
import Derived.RangeFuncLeaves
import Derived.OwnWalkIn
import Derived.TacticsInMore
import Derived.LoopNIn
import Derived.LoopIn
import Derived.RegionIn
import Derived.Test.YtkifmfmenobhnaaCQ5

set_option linter.unusedVariables false
set_option linter.unusedSimpArgs false
namespace Go.Proofs.Ytkifmfmenobhnaa
open Go.RowKit Ev
def urR (l : List Int) (p : Int) : List Int := if urE l p = 0 then urV l p else []
theorem all_at {f : Int → Bool} {l : List Int} (h : l.all f = true) {i : Nat} (hi : i < l.length) : f (l.getD i 0) = true := List.all_eq_true.1 h _ (getD_mem' hi)
theorem urE_ok {l : List Int} {p : Int} (h : urE l p = 0) : (1 ≤ p ∧ p ≤ 1000000000000) ∧ l.length ≤ 40 ∧ ∀ i, i < l.length → 0 ≤ l.getD i 0 ∧ l.getD i 0 ≤ p - 1 := by
 unfold urE at h
 split at h
 ·rename_i q
  obtain ⟨h1, h2⟩ := fn2 h
  rw [unl_0 (by decide)] at h1 h2
  have h1 := of_decide_eq_true h1
  exact ⟨inB_true.1 q, by omega, fun i hi => inB_true.1 (all_at h2 hi)⟩
 ·cases h
theorem mod_of {a p q r : Int} (e : a = q * p + r) (h1 : 0 ≤ r) (h2 : r < p) : a % p = r := by
 rw [e, Int.add_comm, Int.add_mul_emod_self_right, Int.emod_eq_of_lt h1 h2]
theorem lpE_ok {l : List Lp} (h : lpE l = 0) : l.length ≤ 10 ∧ ∀ i, i < l.length → (0 ≤ (lppAt l i).tick ∧ (lppAt l i).tick ≤ 1000000000000) ∧ (-1000000 ≤ (lppAt l i).step ∧ (lppAt l i).step ≤ 1000000) ∧ (0 < i → (lppAt l (i - 1)).tick < (lppAt l i).tick) := by
 unfold lpE at h
 split at h
 ·cases h
 ·rename_i q
  refine ⟨by omega, fun i hi => ?_⟩
  have z := scan_zero h i hi
  unfold lpS1 at z
  obtain ⟨z1, z2, z3⟩ := fn3 z
  rw [unl_0 (by decide)] at z1 z3
  rw [Bool.and_eq_true, tkB_iff, inB_true] at z1
  refine ⟨z1.1, z1.2, fun h0 => ?_⟩
  rw [decide_eq_false (by omega), Bool.false_or, decide_eq_true_eq] at z3
  exact z3
theorem lpSum_rg {l : List Lp} (h : lpE l = 0) (t : Int) : ∀ k, k ≤ l.length → -1000000 * (k : Int) ≤ lpSum t (l.take k) ∧ lpSum t (l.take k) ≤ 1000000 * k := by
 intro k
 induction k with
 | zero => intro _; simp [lpSum]
 | succ k ih =>
  intro hk
  have a := ih (by omega)
  have b := ((lpE_ok h).2 k hk).2.1
  rw [lppAt_take hk, lpSum_app]
  simp only [lpSum]
  split <;> omega
theorem smE_ok {l : List Int} (h : smE l = 0) : (0 < l.length ∧ l.length ≤ 24) ∧ ∀ i, i < l.length → -10000 ≤ l.getD i 0 ∧ l.getD i 0 ≤ 10000 := by
 obtain ⟨h1, h2, h3⟩ := fn3 (show firstNZ [_, _, _] = 0 from h)
 rw [unl_0 (by decide)] at h1 h2 h3
 have h1 := of_decide_eq_true h1
 have h2 := of_decide_eq_true h2
 exact ⟨⟨by omega, by omega⟩, fun i hi => inB_true.1 (all_at h3 hi)⟩
def dsR (a c : List Int) (i : Nat) : Nat → List Int → List Int
 | 0, L => L
 | k + 1, L => (dsR a c i k L).set (i + k) ((dsR a c i k L).getD (i + k) 0 + a.getD i 0 * c.getD k 0)
def dsA (a c : List Int) : Nat → List Int
 | 0 => List.replicate (a.length + c.length - 1) 0
 | i + 1 => dsR a c i c.length (dsA a c i)
def dsK (a c : List Int) (i k : Nat) : List Int := dsR a c i k (dsA a c i)
def dsV (a c : List Int) : List Int := dsA a c a.length
theorem dsR_len (a c : List Int) (i : Nat) (L : List Int) : ∀ k, (dsR a c i k L).length = L.length := by
 intro k
 induction k with
 | zero => rfl
 | succ k ih => unfold dsR; rw [List.length_set, ih]
theorem dsA_len (a c : List Int) : ∀ i, (dsA a c i).length = a.length + c.length - 1 := by
 intro i
 induction i with
 | zero => simp [dsA]
 | succ i ih => unfold dsA; rw [dsR_len, ih]
theorem dsK_len (a c : List Int) (i k : Nat) : (dsK a c i k).length = a.length + c.length - 1 := by unfold dsK; rw [dsR_len, dsA_len]
theorem dsR_rg {a c : List Int} (ha : smE a = 0) (hc : smE c = 0) {i : Nat} (hi : i < a.length) {L : List Int} {B : Int} (hB : 0 ≤ B) (h : ∀ j, -B ≤ L.getD j 0 ∧ L.getD j 0 ≤ B) : ∀ k, k ≤ c.length → ∀ j, -(B + 100000000 * k) ≤ (dsR a c i k L).getD j 0 ∧ (dsR a c i k L).getD j 0 ≤ B + 100000000 * k := by
 intro k
 induction k with
 | zero => intro _ j; have := h j; show -(B + 100000000 * 0) ≤ L.getD j 0 ∧ L.getD j 0 ≤ B + 100000000 * 0; omega
 | succ k ih =>
  intro hk j
  have g := ih (by omega)
  have p := mul_rg (x := a.getD i 0) (y := c.getD k 0) (A := 10000) (B := 10000) (C := 100000000) ((smE_ok ha).2 i hi) ((smE_ok hc).2 k hk) (by decide)
  unfold dsR
  have e := g j
  have e2 := g (i + k)
  rw [List.getD_eq_getElem?_getD, List.getElem?_set]
  push_cast
  split
  ·split
   ·rename_i e3 e4
    show -(B + 100000000 * ((k : Int) + 1)) ≤ (dsR a c i k L).getD (i + k) 0 + a.getD i 0 * c.getD k 0 ∧ (dsR a c i k L).getD (i + k) 0 + a.getD i 0 * c.getD k 0 ≤ _
    omega
   ·show -(B + 100000000 * ((k : Int) + 1)) ≤ 0 ∧ (0 : Int) ≤ _
    omega
  ·rw [← List.getD_eq_getElem?_getD]
   omega
theorem dsA_rg {a c : List Int} (ha : smE a = 0) (hc : smE c = 0) : ∀ i, i ≤ a.length → ∀ j, -(2400000000 * (i : Int)) ≤ (dsA a c i).getD j 0 ∧ (dsA a c i).getD j 0 ≤ 2400000000 * i := by
 intro i
 induction i with
 | zero =>
  intro _ j
  have e : (List.replicate (a.length + c.length - 1) (0 : Int)).getD j 0 = 0 := by
   rw [List.getD_eq_getElem?_getD, List.getElem?_replicate]; split <;> rfl
  unfold dsA
  rw [e]
  omega
 | succ i ih =>
  intro hi j
  have := dsR_rg ha hc (i := i) hi (B := 2400000000 * i) (by omega) (ih (by omega)) c.length (Nat.le_refl _) j
  have h := (smE_ok hc).1
  unfold dsA
  push_cast
  omega
theorem dsK_rg {a c : List Int} (ha : smE a = 0) (hc : smE c = 0) (i : Nat) (hi : i < a.length) (k : Nat) (hk : k ≤ c.length) (j : Nat) : -1000000000000 ≤ (dsK a c i k).getD j 0 ∧ (dsK a c i k).getD j 0 ≤ 1000000000000 := by
 have := dsR_rg ha hc hi (B := 2400000000 * i) (by omega) (dsA_rg ha hc i (by omega)) k hk j
 have h := (smE_ok hc).1
 have h2 := (smE_ok ha).1
 unfold dsK
 omega
def dsE (a c : List Int) : Int := firstNZ [smE a, smE c]
def dsW (a c : List Int) : List Int := if dsE a c = 0 then dsV a c else []
theorem avE_ok {a c : List Int} (h : avE a c = 0) : smE a = 0 ∧ smE c = 0 ∧ c.length ≤ a.length := by
 obtain ⟨h1, h2, h3⟩ := fn3 (show firstNZ [_, _, _] = 0 from h)
 rw [unl_0 (by decide)] at h3
 have h3 := of_decide_eq_true h3
 exact ⟨h1, h2, by omega⟩
theorem avE_of {a c : List Int} (h : smE a = 0 ∧ smE c = 0 ∧ c.length ≤ a.length) : avE a c = 0 := by
 unfold avE
 rw [h.1, h.2.1, decide_eq_true (by have := h.2.2; omega)]
 rfl
theorem sqK_rg {a c : List Int} (q : smE a = 0 ∧ smE c = 0 ∧ c.length ≤ a.length) (k : Nat) : ∀ m, m ≤ c.length → 0 ≤ sqK a c k m ∧ sqK a c k m ≤ 1600000000 * m := by
 intro m
 induction m with
 | zero => intro _; simp [sqK]
 | succ m ih =>
  intro hm
  have i := ih (by omega)
  have c2 := (smE_ok q.2.1).2 m hm
  have a2 : -10000 ≤ a.getD (k + m) 0 ∧ a.getD (k + m) 0 ≤ 10000 := by
   by_cases h : k + m < a.length
   ·exact (smE_ok q.1).2 _ h
   ·rw [List.getD_eq_getElem?_getD, List.getElem?_eq_none (by omega)]; simp
  have p := mul_rg (x := a.getD (k + m) 0 - c.getD m 0) (y := a.getD (k + m) 0 - c.getD m 0) (A := 20000) (B := 20000) (C := 400000000) (by omega) (by omega) (by decide)
  have p0 := sq_nn' (a.getD (k + m) 0 - c.getD m 0)
  unfold sqK
  push_cast
  omega
def arS (b t : Int) : Option (Int × Int) := if t < 0 then none else some (t, b)
def arP (a c : List Int) (k : Nat) : Option (Int × Int) := if k = 0 then none else some (arK a c k)
theorem arK_nn (a c : List Int) (h : ∀ k, 0 ≤ sqK a c k c.length) : ∀ k, 0 < k → 0 ≤ (arK a c k).2 ∧ 0 ≤ (arK a c k).1 := by
 intro k
 induction k with
 | zero => intro h; omega
 | succ k ih =>
  intro _
  have := h k
  unfold arK
  split
  ·exact ⟨this, by simp only; omega⟩
  ·rename_i g
   rcases Nat.eq_zero_or_pos k with e | e
   ·exact (g (Or.inl (by subst e; show (-1 : Int) < 0; decide))).elim
   ·exact ih e
theorem arP_end {a c : List Int} {k : Nat} {b t : Int} (hk : 0 < k) (h : arS b t = arP a c k) : t = (arK a c k).1 := by
 unfold arS arP at h
 rw [if_neg (show ¬ k = 0 by omega)] at h
 split at h
 ·cases h
 ·have := Option.some.inj h; rw [← this]
theorem arP_step {a c : List Int} {k : Nat} {b t : Int} (hall : ∀ k, 0 ≤ sqK a c k c.length) (h : arS b t = arP a c k) : (if t < 0 ∨ sqK a c k c.length < b then arS (sqK a c k c.length) k else arS b t) = arP a c (k + 1) := by
 have e : arP a c (k + 1) = some (if (arK a c k).2 < 0 ∨ sqK a c k c.length < (arK a c k).2 then ((k : Int), sqK a c k c.length) else arK a c k) := rfl
 have hs := hall k
 have e2 : arS (sqK a c k c.length) (k : Int) = some ((k : Int), sqK a c k c.length) := if_neg (by omega)
 rw [e, e2]
 unfold arS arP at h
 split at h
 ·rename_i g
  rw [if_pos (Or.inl g)]
  split at h
  ·rename_i g2
   subst g2
   rw [if_pos (Or.inl (show (arK a c 0).2 < 0 by show (-1 : Int) < 0; decide))]
  ·cases h
 ·rename_i g
  split at h
  ·cases h
  ·have h := Option.some.inj h
   have h1 : b = (arK a c k).2 := by rw [← h]
   rw [← h1]
   by_cases g3 : sqK a c k c.length < b
   ·rw [if_pos (Or.inr g3), if_pos (Or.inr g3)]
   ·rw [if_neg (fun q => q.elim g g3)]
    have hb : ¬ b < 0 := by
     have := (arK_nn a c hall k (by omega)).1
     omega
    rw [if_neg (fun q => q.elim hb g3), ← h]
    unfold arS
    rw [if_neg g]
def mk_clock_Unrolled_0 (l : List Int) (per : Int) (v0_0 : List Int) (v0_1 : Int) (v0_2 : Int) : DS := ⟨[some (.t (.c (.sl 1 l.length (intsC l)))), none, none, some (.t (.c (.p 3 0))), none, none, none, none, some (.t (.c (.os 8))), some (.t (.c (.v (.int .i64 v0_2)))), none, none, none, none, none, none, none, none, none, none, none, none, none, none, none, none, none, none, none, none, some (.t (.c (.sl 1 l.length (intsC l)))), some (.t (.c (.v (.int .i64 ((l.length : Nat) : Int))))), some (.t (.c (.v (.int .i64 v0_1)))), none, none, none, none, none, none, none, none, none, none, none, none, none, none, none, none, none, none, none, none, none, none, none, none, none, none, none], [none, none, none, some (.box 3 [.v (.int .i64 per)]), none, none, none, none, some (.num 3 .i64 v0_0), none, none, none, none, none, none, none, none, none, none, none, none, none, none, none, none, none, none, none, none, none, none, none, none, none, none, none, none, none, none, none, none, none, none, none, none, none, none, none, none, none, none, none, none, none, none, none, none, none, none, none]⟩
def vc_clock_Unrolled (J : Inv) (l : List Int) (per : Int) (post : DV → Prop) : Prop := cond (!(inB per (1 : Int) (1000000000000 : Int))) (post (.tu [.c (.v (.slice none 0 0)), .c (.v (.int .i64 2))])) ((numsP 1 l.length (intsC l) ∧ intsB [0] (boxC [.v (.int .i64 per)]) = true ∧ ((listC l.length mkInt (intsC l))).length ≤ 1000000 ∧ 1 ≤ per ∧ per ≤ 1000000000000) ∧ ((numsP 1 2 (genC [[.v (.int .i64 (unl (decide (((l.length : Nat) : Int) ≤ (40 : Int))) (8 : Int)))], [.v (.int .i64 (unl (!(((listC l.length mkInt (intsC l))).any fun n => !inB n 0 (per - 1))) (2 : Int)))]]) ∧ (([(unl (decide (((l.length : Nat) : Int) ≤ (40 : Int))) (8 : Int)), (unl (!(((listC l.length mkInt (intsC l))).any fun n => !inB n 0 (per - 1))) (2 : Int))] : List Int)).length ≤ 100) ∧ (cond ((firstNZ ([(unl (decide (((l.length : Nat) : Int) ≤ (40 : Int))) (8 : Int)), (unl (!(((listC l.length mkInt (intsC l))).any fun n => !inB n 0 (per - 1))) (2 : Int))] : List Int)) != (0 : Int)) (post (.tu [.c (.v (.slice none 0 0)), .c (.v (.int .i64 (firstNZ ([(unl (decide (((l.length : Nat) : Int) ≤ (40 : Int))) (8 : Int)), (unl (!(((listC l.length mkInt (intsC l))).any fun n => !inB n 0 (per - 1))) (2 : Int))] : List Int))))])) (∃ n, J 0 (n :: []) (mk_clock_Unrolled_0 l per ([]) 0 0)))))
def ann_clock_Unrolled : Ann := ⟨fun _ => none, fun b => lookA b [(0, (none, some ⟨[0, 3, 9, 30, 31, 32], [3], [(8, .num 3 .i64 ([]))]⟩))], fun _ => [], noIt, true, fun r => lookA r [(12, (3, [47]))], fun r => lookA r [(13, [9])]⟩
theorem ev_clock_Unrolled (J : Inv) (l : List Int) (per : Int) (post : DV → Prop) : evFn Try.prog tab Sd68 ann_clock_Unrolled J Try.f16 [.t (.c (.sl 1 l.length (intsC l))), .t (.c (.v (.int .i64 per)))] post = vc_clock_Unrolled J l per post := by kernel_rfl
theorem fit_clock_Unrolled : okFn ann_clock_Unrolled Try.f16 = true := by kernel_rfl
def rd_clock_Unrolled_0 (J : Inv) (l : List Int) (per : Int) (v0_0 : List Int) (v0_1 : Int) (v0_2 : Int) (nn0 : Nat) (post : DV → Prop) : Prop := cond (decide (v0_1 < ((l.length : Nat) : Int))) ((0 ≤ v0_1 ∧ v0_1 < ((l.length : Nat) : Int)) ∧ ((cond (decide (v0_1 > (0 : Int))) (lt (IntKind.i64.wrap (v0_1 - (1 : Int))) fun x2 => (0 ≤ x2 ∧ x2 < ((l.length : Nat) : Int)) ∧ (True)) ((false = false) ∧ (True))) ∧ (lt ((bif decide (v0_1 > (0 : Int)) then decide ((l.getD v0_1.toNat 0) < (l.getD ((IntKind.i64.wrap (v0_1 - (1 : Int))).toNat) 0)) else false)) fun x3 => (cond x3 (lt (IntKind.i64.wrap (v0_2 + (1 : Int))) fun x5 => True) (True)) ∧ (lt ((bif x3 then (IntKind.i64.wrap (v0_2 + (1 : Int))) else v0_2)) fun x6 => lt (IntKind.i64.wrap (x6 * per)) fun x7 => lt (IntKind.i64.wrap (x7 + (l.getD v0_1.toNat 0))) fun x8 => ((IntKind.i64 = IntKind.i64 ∧ True) ∧ roomP 8 (v0_0.length + ([x8] : List Int).length)) ∧ (lt (IntKind.i64.wrap (v0_1 + (1 : Int))) fun x9 => J 0 (nn0 :: []) (mk_clock_Unrolled_0 l per (v0_0 ++ ([x8])) x9 x6)))))) (post (.tu [.c (.sl 1 v0_0.length (numsC .i64 v0_0)), .c (.v (.int .i64 0))]))
theorem er_clock_Unrolled_0 (J : Inv) (l : List Int) (per : Int) (v0_0 : List Int) (v0_1 : Int) (v0_2 : Int) (nn0 : Nat) (post : DV → Prop) : round Try.prog tab Sd68 ann_clock_Unrolled J Try.f16 post 0 (nn0 :: []) (mk_clock_Unrolled_0 l per v0_0 v0_1 v0_2) = rd_clock_Unrolled_0 J l per v0_0 v0_1 v0_2 nn0 post := by kernel_rfl
theorem lp_clock_Unrolled (J : Inv) (post : DV → Prop) : AllG J (loopsFn Try.prog tab Sd68 ann_clock_Unrolled J Try.f16 post) = (((∀ F s, ¬ J 0 (0 :: F) s) ∧ ∀ n F s, J 0 ((n + 1) :: F) s → round Try.prog tab Sd68 ann_clock_Unrolled J Try.f16 post 0 (n :: F) s) ∧ True) := by kernel_rfl
def J_clock_Unrolled (l : List Int) (per : Int) : Inv := fun b F s => match b, F with
 | 0, [nn0] => ∃ (v0_0 : List Int) (v0_1 : Int) (v0_2 : Int), s = mk_clock_Unrolled_0 l per v0_0 v0_1 v0_2 ∧ (urE l per = 0 ∧ 0 ≤ v0_1 ∧ v0_1 ≤ l.length ∧ (nn0 : Int) + v0_1 = l.length + 1 ∧ v0_0 = urK l per v0_1.toNat ∧ v0_2 = urT l v0_1.toNat)
 | _, _ => False
theorem rnd_clock_Unrolled_0 (l : List Int) (per : Int) (v0_0 : List Int) (v0_1 : Int) (v0_2 : Int) (nn0 : Nat) (hp : (l).length ≤ 1000000) (hi : urE l per = 0 ∧ 0 ≤ v0_1 ∧ v0_1 ≤ l.length ∧ ((nn0 + 1) : Int) + v0_1 = l.length + 1 ∧ v0_0 = urK l per v0_1.toNat ∧ v0_2 = urT l v0_1.toNat) : rd_clock_Unrolled_0 (J_clock_Unrolled l per) l per v0_0 v0_1 v0_2 nn0 (fun r => LeD r (.tu [.c (.sl 1 ((urR l per).length) (intsC (urR l per))), .c (.v (.int .i64 (urE l per)))])) := by
 obtain ⟨q, i1, i2, i3, i4, i5⟩ := hi
 obtain ⟨k, rfl⟩ : ∃ k : Nat, v0_1 = k := ⟨v0_1.toNat, by omega⟩
 have hk : (k : Int).toNat = k := rfl
 have hw : (IntKind.i64.wrap ((k : Int) - 1)).toNat = k - 1 := by rw [wi (by omega)]; omega
 rw [hk] at i4 i5
 obtain ⟨z1, z2, z3⟩ := urE_ok q
 unfold rd_clock_Unrolled_0
 rw [hk, hw]
 refine cond_i (fun h => ?_) (fun h => ?_)
 ·have hlt : k < l.length := by have := of_decide_eq_true h; omega
  have b := z3 k hlt
  have r := urT_rg l (k + 1)
  have r0 := urT_rg l k
  have m := mul_rg (x := urT l (k + 1)) (y := per) (A := 40) (B := 1000000000000) (C := 40000000000000) (by omega) (by omega) (by decide)
  refine ⟨by omega, cond_i (fun g => lt_i fun x2 h2 => ⟨?_, trivial⟩) (fun _ => ⟨rfl, trivial⟩), lt_i fun x3 h3 => ⟨cond_i (fun _ => lt_i fun _ _ => trivial) (fun _ => trivial), lt_i fun x6 h6 => lt_i fun x7 h7 => lt_i fun x8 h8 => ⟨⟨by trivial, ?_⟩, lt_i fun x9 h9 => ?_⟩⟩⟩
  ·have g := of_decide_eq_true g
   rw [wi (by omega)] at h2
   omega
  all_goals
   rw [i4]
  ·unfold roomP maxLen urK; simp; omega
  ·have e6 : x6 = urT l (k + 1) := by
    have ec : x3 = decide (0 < k ∧ l.getD k 0 < l.getD (k - 1) 0) := by
     rw [← h3]
     rcases Nat.eq_zero_or_pos k with c | c
     ·subst c; rfl
     ·rw [decide_eq_true (show (k : Int) > 0 by omega)]
      by_cases a : l.getD k 0 < l.getD (k - 1) 0
      ·rw [decide_eq_true a, decide_eq_true ⟨c, a⟩]; rfl
      ·rw [decide_eq_false a, decide_eq_false (fun q => a q.2)]; rfl
    rw [← h6, ec, i5, wi (by omega)]
    show (bif decide (0 < k ∧ l.getD k 0 < l.getD (k - 1) 0) then urT l k + 1 else urT l k) = urT l k + if 0 < k ∧ l.getD k 0 < l.getD (k - 1) 0 then 1 else 0
    by_cases a : 0 < k ∧ l.getD k 0 < l.getD (k - 1) 0
    ·rw [decide_eq_true a, if_pos a]; rfl
    ·rw [decide_eq_false a, if_neg a, Int.add_zero]; rfl
   rw [e6, wi (by omega)] at h7
   rw [← h7, wi (by omega)] at h8
   rw [wi (by omega)] at h9
   subst h9
   refine ⟨_, _, _, rfl, q, by omega, by omega, by omega, ?_, ?_⟩
   ·rw [show ((k : Int) + 1).toNat = k + 1 by omega, urK_succ, ← h8]
   ·rw [show ((k : Int) + 1).toNat = k + 1 by omega]; exact e6
 ·have h := of_decide_eq_false h
  have e : k = l.length := by omega
  rw [show urR l per = urV l per from if_pos q, q, i4, e]
  exact LeD.refl _
theorem zero_clock_Unrolled_0 (l : List Int) (per : Int) (v0_0 : List Int) (v0_1 : Int) (v0_2 : Int)  (hi : urE l per = 0 ∧ 0 ≤ v0_1 ∧ v0_1 ≤ l.length ∧ (0 : Int) + v0_1 = l.length + 1 ∧ v0_0 = urK l per v0_1.toNat ∧ v0_2 = urT l v0_1.toNat) : False := by
 omega
theorem spec_clock_Unrolled (l : List Int) (per : Int) (hp : (l).length ≤ 1000000) : vc_clock_Unrolled (J_clock_Unrolled l per) l per (fun r => LeD r (.tu [.c (.sl 1 ((urR l per).length) (intsC (urR l per))), .c (.v (.int .i64 (urE l per)))])) := by
 unfold vc_clock_Unrolled
 simp only [ints_listC, List.not_any_eq_all_not, Bool.not_not]
 refine cond_i (fun h => ?_) (fun h => ?_)
 ·have h : inB per 1 1000000000000 = false := by simpa using h
  have e : urE l per = 2 := by unfold urE; rw [h]; rfl
  rw [show urR l per = [] from if_neg (by rw [e]; decide), e]
  exact le_tu le_nil (LeD.refl _)
 ·have h : inB per 1 1000000000000 = true := by simpa using h
  have h2 := h
  rw [inB_true] at h2
  have e : urE l per = firstNZ [unl (decide ((l.length : Int) ≤ 40)) 8, unl (l.all fun n => inB n 0 (per - 1)) 2] := if_pos h
  refine ⟨⟨numsP_ints l, rfl, hp, h2⟩, ⟨numsP_gen [_, _], Nat.le_of_ble_eq_true rfl⟩, cond_i (fun g => ?_) (fun g => ?_)⟩
  ·have g : urE l per ≠ 0 := by rw [e]; simpa using g
   rw [show urR l per = [] from if_neg g, e]
   exact le_tu le_nil (LeD.refl _)
  ·have g : urE l per = 0 := by rw [e]; simpa using g
   exact ⟨l.length + 1, [], 0, 0, rfl, g, by omega, by omega, by omega, rfl, rfl⟩
theorem all_clock_Unrolled (l : List Int) (per : Int) (hp : (l).length ≤ 1000000) : AllG (J_clock_Unrolled l per) (loopsFn Try.prog tab Sd68 ann_clock_Unrolled (J_clock_Unrolled l per) Try.f16 (fun r => LeD r (.tu [.c (.sl 1 ((urR l per).length) (intsC (urR l per))), .c (.v (.int .i64 (urE l per)))]))) := by
 rw [lp_clock_Unrolled]
 refine ⟨⟨?_, ?_⟩, trivial⟩
 ·intro F s h
  obtain _ | ⟨g, F⟩ := F
  case cons => exact h.elim
  obtain ⟨w0, w1, w2, rfl, hi⟩ := h
  exact zero_clock_Unrolled_0 l per w0 w1 w2 hi
 ·intro n F s h
  obtain _ | ⟨g, F⟩ := F
  case cons => exact h.elim
  obtain ⟨w0, w1, w2, rfl, hi⟩ := h
  rw [er_clock_Unrolled_0]
  exact rnd_clock_Unrolled_0 l per _ _ _ _ hp hi
def con_clock_Unrolled : Con := fun args => match args with
 | [.t (.c (.sl 1 n_l c_l)), .t (.c (.v (.int .i64 per)))] => some (.tu [.c (.sl 1 ((urR (listC n_l mkInt c_l) per).length) (intsC (urR (listC n_l mkInt c_l) per))), .c (.v (.int .i64 (urE (listC n_l mkInt c_l) per)))], some (numsP 1 n_l c_l ∧ ((listC n_l mkInt c_l)).length ≤ 1000000), true)
 | _ => none
theorem ok_clock_Unrolled : Ok Try.prog 16 con_clock_Unrolled := by
 refine Ok.fnFr (ann := ann_clock_Unrolled) mixed tabOK VSd68 ValidIt.no rfl (fn := Try.f16) (by kernel_rfl) (by kernel_rfl) fit_clock_Unrolled fun args r pre fresh h hp => ?_
 unfold con_clock_Unrolled at h
 split at h
 ·rename_i n_l c_l per
  cases h
  obtain ⟨hp0, hp⟩ := hp
  refine ⟨rfl, (by intro x hx; simp only [List.mem_cons, List.not_mem_nil, or_false] at hx; rcases hx with rfl | rfl; exact (fun i j _ hj => plain_int _ i j); exact trivial), J_clock_Unrolled (listC n_l mkInt c_l) per, [.t (.c (.sl 1 ((listC n_l mkInt c_l).length) (intsC (listC n_l mkInt c_l)))), .t (.c (.v (.int .i64 per)))], ?_, Nat.le_of_ble_eq_true (by kernel_rfl), ?_, ?_⟩
  ·exact (LeA_cons (leT_c ((leL_int hp0))) (LeA_cons (LeD.refl _) LeA_nil))
  ·rw [ev_clock_Unrolled]; exact spec_clock_Unrolled (listC n_l mkInt c_l) per hp
  ·exact all_clock_Unrolled (listC n_l mkInt c_l) per hp
 ·cases h
def Se69 : Sum := addS Sd68 16 con_clock_Unrolled
theorem VSe69 : Valid Try.prog Se69 := Valid.add VSd68 ok_clock_Unrolled
def mk_ref01_Unrolled_0 (l : List Int) (per : Int) (v0_0 : List Int) (v0_1 : Int) : DS := ⟨[some (.t (.c (.sl 1 l.length (intsC l)))), some (.t (.c (.v (.int .i64 per)))), none, none, none, some (.t (.c (.os 5))), some (.t (.c (.v (.int .i64 v0_1)))), none, none, none, none, none, none, none, none, none, none, none, none, none, none, none, none, none, none, none, none, none, none, none, none, none, none, none, none, none, none, none, none, none, none, none, none], [none, none, none, none, none, some (.num 3 .i64 v0_0), none, none, none, none, none, none, none, none, none, none, none, none, none, none, none, none, none, none, none, none, none, none, none, none, none, none, none, none, none, none, none, none, none, none, none, none, none]⟩
def vc_ref01_Unrolled (J : Inv) (l : List Int) (per : Int) (post : DV → Prop) : Prop := ∃ n, J 0 (n :: []) (mk_ref01_Unrolled_0 l per ([]) 0)
def ann_ref01_Unrolled : Ann := ⟨fun r => lookA r [(7, ([[], [], [1], [0, 1, 2], [0, 1, 2, 3], [], [], [5, 6], [5, 6, 7], [], [], [10], [9, 10, 11], [9, 10, 11, 12], [5, 6, 7, 8, 9, 10, 11, 12, 13], [], [5, 6, 7, 8, 9, 10, 11, 12, 13, 14, 15], [0, 1, 2, 3, 4, 5, 6, 7, 8, 9, 10, 11, 12, 13, 14, 15, 16], [0, 1, 2, 3, 4, 5, 6, 7, 8, 9, 10, 11, 12, 13, 14, 15, 16, 17]], [[36], [36], [36], [36], [36], [36], [36], [36], [36], [36], [36], [36], [36], [36], [36], [36], [], [], []]))], fun b => lookA b [(0, (none, some ⟨[0, 1, 6], [], [(5, .num 3 .i64 ([]))]⟩))], fun _ => [], noIt, false, fun _ => none, fun r => lookA r [(7, [7])]⟩
theorem ev_ref01_Unrolled (J : Inv) (l : List Int) (per : Int) (post : DV → Prop) : evFn Try.prog tab Se69 ann_ref01_Unrolled J Try.f23 [.t (.c (.sl 1 l.length (intsC l))), .t (.c (.v (.int .i64 per)))] post = vc_ref01_Unrolled J l per post := by kernel_rfl
theorem fit_ref01_Unrolled : okFn ann_ref01_Unrolled Try.f23 = true := by kernel_rfl
def rd_ref01_Unrolled_0 (J : Inv) (l : List Int) (per : Int) (v0_0 : List Int) (v0_1 : Int) (nn0 : Nat) (post : DV → Prop) : Prop := cond (decide (v0_1 < ((l.length : Nat) : Int))) ((0 ≤ v0_1 ∧ v0_1 < ((l.length : Nat) : Int)) ∧ ((cond (decide (v0_1 > (0 : Int))) (lt (IntKind.i64.wrap (v0_1 - (1 : Int))) fun x5 => (0 ≤ x5 ∧ x5 < ((v0_0.length : Nat) : Int)) ∧ (((x5).toNat < v0_0.length) ∧ ((0 ≤ v0_1 ∧ v0_1 < ((l.length : Nat) : Int)) ∧ (lt (IntKind.i64.wrap (v0_1 - (1 : Int))) fun x6 => (0 ≤ x6 ∧ x6 < ((v0_0.length : Nat) : Int)) ∧ (((x6).toNat < v0_0.length) ∧ (lt (IntKind.i64.wrap ((l.getD v0_1.toNat 0) - (v0_0.getD (x6).toNat 0))) fun x7 => (0 < per ∧ per ≤ 4000000000000000000) ∧ (lt (IntKind.i64.wrap ((v0_0.getD (x5).toNat 0) + (x7 % per))) fun x8 => True))))))) (True)) ∧ (lt ((bif decide (v0_1 > (0 : Int)) then (IntKind.i64.wrap ((v0_0.getD ((IntKind.i64.wrap (v0_1 - (1 : Int)))).toNat 0) + ((IntKind.i64.wrap ((l.getD v0_1.toNat 0) - (v0_0.getD ((IntKind.i64.wrap (v0_1 - (1 : Int)))).toNat 0))) % per))) else (l.getD v0_1.toNat 0))) fun x9 => ((IntKind.i64 = IntKind.i64 ∧ True) ∧ roomP 8 (v0_0.length + ([x9] : List Int).length)) ∧ (lt (IntKind.i64.wrap (v0_1 + (1 : Int))) fun x10 => J 0 (nn0 :: []) (mk_ref01_Unrolled_0 l per (v0_0 ++ ([x9])) x10))))) (post (.t (.c (.sl 1 v0_0.length (numsC .i64 v0_0)))))
theorem er_ref01_Unrolled_0 (J : Inv) (l : List Int) (per : Int) (v0_0 : List Int) (v0_1 : Int) (nn0 : Nat) (post : DV → Prop) : round Try.prog tab Se69 ann_ref01_Unrolled J Try.f23 post 0 (nn0 :: []) (mk_ref01_Unrolled_0 l per v0_0 v0_1) = rd_ref01_Unrolled_0 J l per v0_0 v0_1 nn0 post := by kernel_rfl
theorem lp_ref01_Unrolled (J : Inv) (post : DV → Prop) : AllG J (loopsFn Try.prog tab Se69 ann_ref01_Unrolled J Try.f23 post) = (((∀ F s, ¬ J 0 (0 :: F) s) ∧ ∀ n F s, J 0 ((n + 1) :: F) s → round Try.prog tab Se69 ann_ref01_Unrolled J Try.f23 post 0 (n :: F) s) ∧ True) := by kernel_rfl
def J_ref01_Unrolled (l : List Int) (per : Int) : Inv := fun b F s => match b, F with
 | 0, [nn0] => ∃ (v0_0 : List Int) (v0_1 : Int), s = mk_ref01_Unrolled_0 l per v0_0 v0_1 ∧ (urE l per = 0 ∧ 0 ≤ v0_1 ∧ v0_1 ≤ l.length ∧ (nn0 : Int) + v0_1 = l.length + 1 ∧ v0_0 = urK l per v0_1.toNat)
 | _, _ => False
theorem rnd_ref01_Unrolled_0 (l : List Int) (per : Int) (v0_0 : List Int) (v0_1 : Int) (nn0 : Nat) (hp : urE l per = 0) (hi : urE l per = 0 ∧ 0 ≤ v0_1 ∧ v0_1 ≤ l.length ∧ ((nn0 + 1) : Int) + v0_1 = l.length + 1 ∧ v0_0 = urK l per v0_1.toNat) : rd_ref01_Unrolled_0 (J_ref01_Unrolled l per) l per v0_0 v0_1 nn0 (fun r => LeD r (.t (.c (.sl 1 ((urV l per).length) (intsC (urV l per)))))) := by
 obtain ⟨q, i1, i2, i3, i4⟩ := hi
 obtain ⟨k, rfl⟩ : ∃ k : Nat, v0_1 = k := ⟨v0_1.toNat, by omega⟩
 have hk : (k : Int).toNat = k := rfl
 rw [hk] at i4
 obtain ⟨z1, z2, z3⟩ := urE_ok q
 have hw : (IntKind.i64.wrap ((k : Int) - 1)).toNat = k - 1 := by rw [wi (by omega)]; omega
 have hl : v0_0.length = k := by rw [i4]; simp [urK]
 unfold rd_ref01_Unrolled_0
 rw [hk, hw]
 refine cond_i (fun h => ?_) (fun h => ?_)
 ·have hlt : k < l.length := by have := of_decide_eq_true h; omega
  have b := z3 k hlt
  have r := urT_rg l (k + 1)
  have r0 := urT_rg l k
  have m0 := mul_rg (x := urT l k) (y := per) (A := 40) (B := 1000000000000) (C := 40000000000000) (by omega) (by omega) (by decide)
  refine ⟨by omega, cond_i (fun g => ?_) (fun _ => trivial), lt_i fun x9 h9 => ⟨⟨by trivial, ?_⟩, lt_i fun x hx => ?_⟩⟩
  ·have g := of_decide_eq_true g
   refine lt_i fun x5 h5 => ?_
   rw [wi (by omega)] at h5
   subst h5
   refine ⟨by omega, by omega, by omega, lt_i fun x6 h6 => ?_⟩
   rw [wi (by omega)] at h6
   subst h6
   exact ⟨by omega, by omega, lt_i fun x7 _ => ⟨by omega, lt_i fun _ _ => trivial⟩⟩
  ·unfold roomP maxLen; simp; omega
  ·rw [wi (by omega)] at hx
   subst hx
   refine ⟨_, _, rfl, q, by omega, by omega, by omega, ?_⟩
   rw [show ((k : Int) + 1).toNat = k + 1 by omega, urK_succ, i4]
   congr 1
   congr 1
   rw [← h9]
   rcases Nat.eq_zero_or_pos k with c | c
   ·subst c
    show l.getD 0 0 = (0 + if 0 < 0 ∧ l.getD 0 0 < l.getD (0 - 1) 0 then 1 else 0) * per + l.getD 0 0
    rw [if_neg (by omega)]; omega
   ·rw [decide_eq_true (show (k : Int) > 0 by omega)]
    show IntKind.i64.wrap ((v0_0.getD (k - 1) 0) + ((IntKind.i64.wrap ((l.getD k 0) - (v0_0.getD (k - 1) 0))) % per)) = (urT l k + if 0 < k ∧ l.getD k 0 < l.getD (k - 1) 0 then 1 else 0) * per + l.getD k 0
    have b1 := z3 (k - 1) (by omega)
    have ev : v0_0.getD (k - 1) 0 = urT l k * per + l.getD (k - 1) 0 := by
     rw [i4]
     simp [urK, List.getD, show k - 1 < k by omega, show k - 1 + 1 = k by omega]
    rw [ev, show IntKind.i64.wrap (l.getD k 0 - (urT l k * per + l.getD (k - 1) 0)) = l.getD k 0 - (urT l k * per + l.getD (k - 1) 0) from wi (by omega)]
    by_cases a : l.getD k 0 < l.getD (k - 1) 0
    ·rw [if_pos ⟨c, a⟩, mod_of (q := -urT l k - 1) (r := l.getD k 0 - l.getD (k - 1) 0 + per) (by rw [Int.sub_mul, Int.neg_mul]; omega) (by omega) (by omega), Int.add_mul, wi (by omega)]
     omega
    ·rw [if_neg (fun q => a q.2), mod_of (q := -urT l k) (r := l.getD k 0 - l.getD (k - 1) 0) (by rw [Int.neg_mul]; omega) (by omega) (by omega), wi (by omega), Int.add_zero]
     omega
 ·have h := of_decide_eq_false h
  have e : k = l.length := by omega
  rw [i4, e]
  exact LeD.refl _
theorem zero_ref01_Unrolled_0 (l : List Int) (per : Int) (v0_0 : List Int) (v0_1 : Int)  (hi : urE l per = 0 ∧ 0 ≤ v0_1 ∧ v0_1 ≤ l.length ∧ (0 : Int) + v0_1 = l.length + 1 ∧ v0_0 = urK l per v0_1.toNat) : False := by
 omega
theorem spec_ref01_Unrolled (l : List Int) (per : Int) (hp : urE l per = 0) : vc_ref01_Unrolled (J_ref01_Unrolled l per) l per (fun r => LeD r (.t (.c (.sl 1 ((urV l per).length) (intsC (urV l per)))))) := by
 unfold vc_ref01_Unrolled
 exact ⟨l.length + 1, [], 0, rfl, hp, by omega, by omega, by omega, rfl⟩
theorem all_ref01_Unrolled (l : List Int) (per : Int) (hp : urE l per = 0) : AllG (J_ref01_Unrolled l per) (loopsFn Try.prog tab Se69 ann_ref01_Unrolled (J_ref01_Unrolled l per) Try.f23 (fun r => LeD r (.t (.c (.sl 1 ((urV l per).length) (intsC (urV l per))))))) := by
 rw [lp_ref01_Unrolled]
 refine ⟨⟨?_, ?_⟩, trivial⟩
 ·intro F s h
  obtain _ | ⟨g, F⟩ := F
  case cons => exact h.elim
  obtain ⟨w0, w1, rfl, hi⟩ := h
  exact zero_ref01_Unrolled_0 l per w0 w1 hi
 ·intro n F s h
  obtain _ | ⟨g, F⟩ := F
  case cons => exact h.elim
  obtain ⟨w0, w1, rfl, hi⟩ := h
  rw [er_ref01_Unrolled_0]
  exact rnd_ref01_Unrolled_0 l per _ _ _ hp hi
def con_ref01_Unrolled : Con := fun args => match args with
 | [.t (.c (.sl 1 n_l c_l)), .t (.c (.v (.int .i64 per)))] => some (.t (.c (.sl 1 ((urV (listC n_l mkInt c_l) per).length) (intsC (urV (listC n_l mkInt c_l) per)))), some (numsP 1 n_l c_l ∧ urE (listC n_l mkInt c_l) per = 0), false)
 | _ => none
theorem ok_ref01_Unrolled : Ok Try.prog 23 con_ref01_Unrolled := by
 refine Ok.fn (ann := ann_ref01_Unrolled) mixed tabOK VSe69 ValidIt.no (fn := Try.f23) (by kernel_rfl) (by kernel_rfl) fit_ref01_Unrolled fun args r pre fresh h hp => ?_
 unfold con_ref01_Unrolled at h
 split at h
 ·rename_i n_l c_l per
  cases h
  obtain ⟨hp0, hp⟩ := hp
  refine ⟨rfl, J_ref01_Unrolled (listC n_l mkInt c_l) per, [.t (.c (.sl 1 ((listC n_l mkInt c_l).length) (intsC (listC n_l mkInt c_l)))), .t (.c (.v (.int .i64 per)))], ?_, Nat.le_of_ble_eq_true (by kernel_rfl), ?_, ?_⟩
  ·exact (LeA_cons (leT_c ((leL_int hp0))) (LeA_cons (LeD.refl _) LeA_nil))
  ·rw [ev_ref01_Unrolled]; exact spec_ref01_Unrolled (listC n_l mkInt c_l) per hp
  ·exact all_ref01_Unrolled (listC n_l mkInt c_l) per hp
 ·cases h
def Se70 : Sum := addS Se69 23 con_ref01_Unrolled
theorem VSe70 : Valid Try.prog Se70 := Valid.add VSe69 ok_ref01_Unrolled
def mk_ref01_Label_0 (l : List Lp) (tk : Int) (v0_0 : Int) (v0_1 : Int) : DS := ⟨[some (.t (.c (.sl 2 l.length (lppsC l)))), some (.t (.c (.v (.int .i64 tk)))), none, none, none, some (.t (.c (.v (.int .i64 v0_0)))), some (.t (.c (.v (.int .i64 v0_1)))), none, none, none, none, none, none, none, none, none, none, none, none, none, none, none, none, none, none, none, none, none, none], [none, none, none, none, none, none, none, none, none, none, none, none, none, none, none, none, none, none, none, none, none, none, none, none, none, none, none, none, none]⟩
def vc_ref01_Label (J : Inv) (l : List Lp) (tk : Int) (post : DV → Prop) : Prop := ∃ n, J 0 (n :: []) (mk_ref01_Label_0 l tk tk 0)
def ann_ref01_Label : Ann := ⟨fun _ => none, fun b => lookA b [(0, (none, some ⟨[0, 1, 5, 6], [], []⟩))], fun _ => [], noIt, false, fun _ => none, fun r => lookA r [(6, [5])]⟩
theorem ev_ref01_Label (J : Inv) (l : List Lp) (tk : Int) (post : DV → Prop) : evFn Try.prog tab Se70 ann_ref01_Label J Try.f27 [.t (.c (.sl 2 l.length (lppsC l))), .t (.c (.v (.int .i64 tk)))] post = vc_ref01_Label J l tk post := by kernel_rfl
theorem fit_ref01_Label : okFn ann_ref01_Label Try.f27 = true := by kernel_rfl
def rd_ref01_Label_0 (J : Inv) (l : List Lp) (tk : Int) (v0_0 : Int) (v0_1 : Int) (nn0 : Nat) (post : DV → Prop) : Prop := cond (decide (v0_1 < ((l.length : Nat) : Int))) ((0 ≤ v0_1 ∧ v0_1 < ((l.length : Nat) : Int)) ∧ ((cond (decide (((lppAt l v0_1.toNat).tick) ≤ tk)) ((0 ≤ v0_1 ∧ v0_1 < ((l.length : Nat) : Int)) ∧ (lt (IntKind.i64.wrap (v0_0 + ((lppAt l v0_1.toNat).step))) fun x2 => True)) (True)) ∧ (lt ((bif decide (((lppAt l v0_1.toNat).tick) ≤ tk) then (IntKind.i64.wrap (v0_0 + ((lppAt l v0_1.toNat).step))) else v0_0)) fun x3 => lt (IntKind.i64.wrap (v0_1 + (1 : Int))) fun x4 => J 0 (nn0 :: []) (mk_ref01_Label_0 l tk x3 x4)))) (post (.t (.c (.v (.int .i64 v0_0)))))
theorem er_ref01_Label_0 (J : Inv) (l : List Lp) (tk : Int) (v0_0 : Int) (v0_1 : Int) (nn0 : Nat) (post : DV → Prop) : round Try.prog tab Se70 ann_ref01_Label J Try.f27 post 0 (nn0 :: []) (mk_ref01_Label_0 l tk v0_0 v0_1) = rd_ref01_Label_0 J l tk v0_0 v0_1 nn0 post := by kernel_rfl
theorem lp_ref01_Label (J : Inv) (post : DV → Prop) : AllG J (loopsFn Try.prog tab Se70 ann_ref01_Label J Try.f27 post) = (((∀ F s, ¬ J 0 (0 :: F) s) ∧ ∀ n F s, J 0 ((n + 1) :: F) s → round Try.prog tab Se70 ann_ref01_Label J Try.f27 post 0 (n :: F) s) ∧ True) := by kernel_rfl
def J_ref01_Label (l : List Lp) (tk : Int) : Inv := fun b F s => match b, F with
 | 0, [nn0] => ∃ (v0_0 : Int) (v0_1 : Int), s = mk_ref01_Label_0 l tk v0_0 v0_1 ∧ ((lpE l = 0 ∧ tkB tk = true) ∧ 0 ≤ v0_1 ∧ v0_1 ≤ l.length ∧ (nn0 : Int) + v0_1 = l.length + 1 ∧ v0_0 = tk + lpSum tk (l.take v0_1.toNat))
 | _, _ => False
theorem rnd_ref01_Label_0 (l : List Lp) (tk : Int) (v0_0 : Int) (v0_1 : Int) (nn0 : Nat) (hp : lpE l = 0 ∧ tkB tk = true) (hi : (lpE l = 0 ∧ tkB tk = true) ∧ 0 ≤ v0_1 ∧ v0_1 ≤ l.length ∧ ((nn0 + 1) : Int) + v0_1 = l.length + 1 ∧ v0_0 = tk + lpSum tk (l.take v0_1.toNat)) : rd_ref01_Label_0 (J_ref01_Label l tk) l tk v0_0 v0_1 nn0 (fun r => LeD r (.t (.c (.v (.int .i64 (labelI l tk)))))) := by
 obtain ⟨q, i1, i2, i3, i4⟩ := hi
 obtain ⟨k, rfl⟩ : ∃ k : Nat, v0_1 = k := ⟨v0_1.toNat, by omega⟩
 have hk : (k : Int).toNat = k := rfl
 rw [hk] at i4
 obtain ⟨z1, z2⟩ := lpE_ok q.1
 have t := tkB_iff.1 q.2
 unfold rd_ref01_Label_0
 rw [hk]
 refine cond_i (fun h => ?_) (fun h => ?_)
 ·have hlt : k < l.length := by have := of_decide_eq_true h; omega
  have b := (z2 k hlt).2.1
  have r := lpSum_rg q.1 tk k (by omega)
  have es : lpSum tk (l.take (k + 1)) = lpSum tk (l.take k) + if (lppAt l k).tick ≤ tk then (lppAt l k).step else 0 := by
   rw [lppAt_take hlt, lpSum_app]; simp [lpSum]
  refine ⟨by omega, cond_i (fun _ => ⟨by omega, lt_i fun _ _ => trivial⟩) (fun _ => trivial), lt_i fun x3 h3 => lt_i fun x4 h4 => ?_⟩
  rw [wi (by omega)] at h4
  subst h4
  refine ⟨_, _, rfl, q, by omega, by omega, by omega, ?_⟩
  rw [show ((k : Int) + 1).toNat = k + 1 by omega, es, ← h3, wi (by omega)]
  by_cases a : (lppAt l k).tick ≤ tk
  ·rw [decide_eq_true a, if_pos a, i4]; show _ + _ = _; omega
  ·rw [decide_eq_false a, if_neg a, i4]; show _ + _ = _; omega
 ·have h := of_decide_eq_false h
  have e : k = l.length := by omega
  rw [i4, e, List.take_length]
  exact LeD.refl _
theorem zero_ref01_Label_0 (l : List Lp) (tk : Int) (v0_0 : Int) (v0_1 : Int)  (hi : (lpE l = 0 ∧ tkB tk = true) ∧ 0 ≤ v0_1 ∧ v0_1 ≤ l.length ∧ (0 : Int) + v0_1 = l.length + 1 ∧ v0_0 = tk + lpSum tk (l.take v0_1.toNat)) : False := by
 omega
theorem spec_ref01_Label (l : List Lp) (tk : Int) (hp : lpE l = 0 ∧ tkB tk = true) : vc_ref01_Label (J_ref01_Label l tk) l tk (fun r => LeD r (.t (.c (.v (.int .i64 (labelI l tk)))))) := by
 unfold vc_ref01_Label
 exact ⟨l.length + 1, _, 0, rfl, hp, by omega, by omega, by omega, by simp [lpSum]⟩
theorem all_ref01_Label (l : List Lp) (tk : Int) (hp : lpE l = 0 ∧ tkB tk = true) : AllG (J_ref01_Label l tk) (loopsFn Try.prog tab Se70 ann_ref01_Label (J_ref01_Label l tk) Try.f27 (fun r => LeD r (.t (.c (.v (.int .i64 (labelI l tk))))))) := by
 rw [lp_ref01_Label]
 refine ⟨⟨?_, ?_⟩, trivial⟩
 ·intro F s h
  obtain _ | ⟨g, F⟩ := F
  case cons => exact h.elim
  obtain ⟨w0, w1, rfl, hi⟩ := h
  exact zero_ref01_Label_0 l tk w0 w1 hi
 ·intro n F s h
  obtain _ | ⟨g, F⟩ := F
  case cons => exact h.elim
  obtain ⟨w0, w1, rfl, hi⟩ := h
  rw [er_ref01_Label_0]
  exact rnd_ref01_Label_0 l tk _ _ _ hp hi
def con_ref01_Label : Con := fun args => match args with
 | [.t (.c (.sl 2 n_l c_l)), .t (.c (.v (.int .i64 tk)))] => some (.t (.c (.v (.int .i64 (labelI (listC n_l mkLpp c_l) tk)))), some (numsP 2 n_l c_l ∧ lpE (listC n_l mkLpp c_l) = 0 ∧ tkB tk = true), false)
 | _ => none
theorem ok_ref01_Label : Ok Try.prog 27 con_ref01_Label := by
 refine Ok.fn (ann := ann_ref01_Label) mixed tabOK VSe70 ValidIt.no (fn := Try.f27) (by kernel_rfl) (by kernel_rfl) fit_ref01_Label fun args r pre fresh h hp => ?_
 unfold con_ref01_Label at h
 split at h
 ·rename_i n_l c_l tk
  cases h
  obtain ⟨hp0, hp⟩ := hp
  refine ⟨rfl, J_ref01_Label (listC n_l mkLpp c_l) tk, [.t (.c (.sl 2 ((listC n_l mkLpp c_l).length) (lppsC (listC n_l mkLpp c_l)))), .t (.c (.v (.int .i64 tk)))], ?_, Nat.le_of_ble_eq_true (by kernel_rfl), ?_, ?_⟩
  ·exact (LeA_cons (leT_c ((leL_Lp hp0))) (LeA_cons (LeD.refl _) LeA_nil))
  ·rw [ev_ref01_Label]; exact spec_ref01_Label (listC n_l mkLpp c_l) tk hp
  ·exact all_ref01_Label (listC n_l mkLpp c_l) tk hp
 ·cases h
def Se71 : Sum := addS Se70 27 con_ref01_Label
theorem VSe71 : Valid Try.prog Se71 := Valid.add VSe70 ok_ref01_Label
def mk_ref01_Distorted_0 (a : List Int) (c : List Int) (v0_0 : List Int) (v0_1 : Int) : DS := ⟨[some (.t (.c (.sl 1 a.length (intsC a)))), some (.t (.c (.sl 1 c.length (intsC c)))), none, none, none, some (.t (.c (.os 5))), some (.t (.c (.v (.int .i64 v0_1)))), none, none, none, none, none, none, none, none, none, none, none, none, none, none, none, none, none, none, none, none, none, none, none, none, none, none, none, none, none, none, none, none, none, none, none, none, none, none, none, none, none, none], [none, none, none, none, none, some (.num 3 .i64 v0_0), none, none, none, none, none, none, none, none, none, none, none, none, none, none, none, none, none, none, none, none, none, none, none, none, none, none, none, none, none, none, none, none, none, none, none, none, none, none, none, none, none, none, none]⟩
def mk_ref01_Distorted_2 (a : List Int) (c : List Int) (v2_0 : List Int) (v2_1 : Int) (v2_2 : Int) : DS := ⟨[some (.t (.c (.sl 1 a.length (intsC a)))), some (.t (.c (.sl 1 c.length (intsC c)))), none, none, none, some (.t (.c (.os 5))), some (.t (.c (.v (.int .i64 v2_1)))), some (.t (.c (.v (.int .i64 v2_2)))), none, none, none, none, none, none, none, none, none, none, none, none, none, none, none, none, none, none, none, none, none, none, none, none, none, none, none, none, none, none, none, none, none, none, none, none, none, none, none, none, none], [none, none, none, none, none, some (.num 3 .i64 v2_0), none, none, none, none, none, none, none, none, none, none, none, none, none, none, none, none, none, none, none, none, none, none, none, none, none, none, none, none, none, none, none, none, none, none, none, none, none, none, none, none, none, none, none]⟩
def vc_ref01_Distorted (J : Inv) (a : List Int) (c : List Int) (post : DV → Prop) : Prop := lt (IntKind.i64.wrap (((a.length : Nat) : Int) + ((c.length : Nat) : Int))) fun x1 => lt (IntKind.i64.wrap (x1 - (1 : Int))) fun x2 => (x2 = x2 ∧ 0 ≤ x2 ∧ roomP 8 x2.toNat) ∧ (∃ n, J 0 (n :: []) (mk_ref01_Distorted_0 a c (List.replicate x2.toNat 0) 0))
def ann_ref01_Distorted : Ann := ⟨fun r => lookA r [(8, ([[], [], [], [1, 2], [], [], [], [5, 6], [4, 5, 6, 7], [4, 5, 6, 7, 8], [], [], [10, 11], [10, 11, 12], [], [], [14, 15], [14, 15, 16], [10, 11, 12, 13, 14, 15, 16, 17], [4, 5, 6, 7, 8, 9, 10, 11, 12, 13, 14, 15, 16, 17, 18], [0, 1, 2, 3, 4, 5, 6, 7, 8, 9, 10, 11, 12, 13, 14, 15, 16, 17, 18, 19], [0, 1, 2, 3, 4, 5, 6, 7, 8, 9, 10, 11, 12, 13, 14, 15, 16, 17, 18, 19, 20]], [[], [], [], [], [], [], [], [], [], [], [], [], [], [], [], [], [], [], [], [], [], []]))], fun b => lookA b [(0, (none, some ⟨[0, 1, 6], [], [(5, .num 3 .i64 ([]))]⟩)), (2, (none, some ⟨[0, 1, 6, 7], [], [(5, .num 3 .i64 ([]))]⟩))], fun _ => [], noIt, false, fun _ => none, fun _ => none⟩
theorem ev_ref01_Distorted (J : Inv) (a : List Int) (c : List Int) (post : DV → Prop) : evFn Try.prog tab Se71 ann_ref01_Distorted J Try.f34 [.t (.c (.sl 1 a.length (intsC a))), .t (.c (.sl 1 c.length (intsC c)))] post = vc_ref01_Distorted J a c post := by kernel_rfl
theorem fit_ref01_Distorted : okFn ann_ref01_Distorted Try.f34 = true := by kernel_rfl
def rd_ref01_Distorted_0 (J : Inv) (a : List Int) (c : List Int) (v0_0 : List Int) (v0_1 : Int) (nn0 : Nat) (post : DV → Prop) : Prop := cond (decide (v0_1 < ((a.length : Nat) : Int))) (∃ n, J 2 (n :: nn0 :: []) (mk_ref01_Distorted_2 a c v0_0 v0_1 0)) (post (.t (.c (.sl 1 v0_0.length (numsC .i64 v0_0)))))
theorem er_ref01_Distorted_0 (J : Inv) (a : List Int) (c : List Int) (v0_0 : List Int) (v0_1 : Int) (nn0 : Nat) (post : DV → Prop) : round Try.prog tab Se71 ann_ref01_Distorted J Try.f34 post 0 (nn0 :: []) (mk_ref01_Distorted_0 a c v0_0 v0_1) = rd_ref01_Distorted_0 J a c v0_0 v0_1 nn0 post := by kernel_rfl
def rd_ref01_Distorted_2 (J : Inv) (a : List Int) (c : List Int) (v2_0 : List Int) (v2_1 : Int) (v2_2 : Int) (nn2 nn0 : Nat) (post : DV → Prop) : Prop := cond (decide (v2_2 < ((c.length : Nat) : Int))) (lt (IntKind.i64.wrap (v2_1 + v2_2)) fun x1 => lt (IntKind.i64.wrap (v2_1 + v2_2)) fun x2 => (0 ≤ x2 ∧ x2 < ((v2_0.length : Nat) : Int)) ∧ (((x2).toNat < v2_0.length) ∧ ((0 ≤ v2_1 ∧ v2_1 < ((a.length : Nat) : Int)) ∧ ((0 ≤ v2_2 ∧ v2_2 < ((c.length : Nat) : Int)) ∧ (lt (IntKind.i64.wrap ((a.getD v2_1.toNat 0) * (c.getD v2_2.toNat 0))) fun x3 => lt (IntKind.i64.wrap ((v2_0.getD (x2).toNat 0) + x3)) fun x4 => (0 ≤ x1 ∧ x1 < ((v2_0.length : Nat) : Int)) ∧ (((x1).toNat < v2_0.length ∧ IntKind.i64 = IntKind.i64) ∧ (lt (IntKind.i64.wrap (v2_2 + (1 : Int))) fun x5 => J 2 (nn2 :: nn0 :: []) (mk_ref01_Distorted_2 a c (v2_0.set (x1).toNat x4) v2_1 x5)))))))) (lt (IntKind.i64.wrap (v2_1 + (1 : Int))) fun x6 => J 0 (nn0 :: []) (mk_ref01_Distorted_0 a c v2_0 x6))
theorem er_ref01_Distorted_2 (J : Inv) (a : List Int) (c : List Int) (v2_0 : List Int) (v2_1 : Int) (v2_2 : Int) (nn2 nn0 : Nat) (post : DV → Prop) : round Try.prog tab Se71 ann_ref01_Distorted J Try.f34 post 1 (nn2 :: nn0 :: []) (mk_ref01_Distorted_2 a c v2_0 v2_1 v2_2) = rd_ref01_Distorted_2 J a c v2_0 v2_1 v2_2 nn2 nn0 post := by kernel_rfl
theorem lp_ref01_Distorted (J : Inv) (post : DV → Prop) : AllG J (loopsFn Try.prog tab Se71 ann_ref01_Distorted J Try.f34 post) = (((∀ F s, ¬ J 0 (0 :: F) s) ∧ ∀ n F s, J 0 ((n + 1) :: F) s → round Try.prog tab Se71 ann_ref01_Distorted J Try.f34 post 0 (n :: F) s) ∧ ((∀ F s, ¬ J 2 (0 :: F) s) ∧ ∀ n F s, J 2 ((n + 1) :: F) s → round Try.prog tab Se71 ann_ref01_Distorted J Try.f34 post 1 (n :: F) s) ∧ True) := by kernel_rfl
def J_ref01_Distorted (a : List Int) (c : List Int) : Inv := fun b F s => match b, F with
 | 0, [nn0] => ∃ (v0_0 : List Int) (v0_1 : Int), s = mk_ref01_Distorted_0 a c v0_0 v0_1 ∧ ((smE a = 0 ∧ smE c = 0) ∧ 0 ≤ v0_1 ∧ v0_1 ≤ a.length ∧ (nn0 : Int) + v0_1 = a.length + 1 ∧ v0_0 = dsA a c v0_1.toNat)
 | 2, [nn2, nn0] => ∃ (v2_0 : List Int) (v2_1 : Int) (v2_2 : Int), s = mk_ref01_Distorted_2 a c v2_0 v2_1 v2_2 ∧ ((smE a = 0 ∧ smE c = 0) ∧ (0 ≤ v2_1 ∧ v2_1 < a.length ∧ (nn0 : Int) + v2_1 = a.length) ∧ (0 ≤ v2_2 ∧ v2_2 ≤ c.length ∧ (nn2 : Int) + v2_2 = c.length + 1) ∧ v2_0 = dsK a c v2_1.toNat v2_2.toNat)
 | _, _ => False
set_option maxHeartbeats 8000000 in
set_option maxRecDepth 100000 in
theorem rnd_ref01_Distorted_0 (a : List Int) (c : List Int) (v0_0 : List Int) (v0_1 : Int) (nn0 : Nat) (hp : smE a = 0 ∧ smE c = 0) (hi : (smE a = 0 ∧ smE c = 0) ∧ 0 ≤ v0_1 ∧ v0_1 ≤ a.length ∧ ((nn0 + 1) : Int) + v0_1 = a.length + 1 ∧ v0_0 = dsA a c v0_1.toNat) : rd_ref01_Distorted_0 (J_ref01_Distorted a c) a c v0_0 v0_1 nn0 (fun r => LeD r (.t (.c (.sl 1 ((dsV a c).length) (intsC (dsV a c)))))) := by
 obtain ⟨q, i1, i2, i3, i4⟩ := hi
 obtain ⟨k, rfl⟩ : ∃ k : Nat, v0_1 = k := ⟨v0_1.toNat, by omega⟩
 have hk : (k : Int).toNat = k := rfl
 rw [hk] at i4
 unfold rd_ref01_Distorted_0
 refine cond_i (fun h => ?_) (fun h => ?_)
 ·have hlt : k < a.length := by have := of_decide_eq_true h; omega
  exact ⟨c.length + 1, _, _, 0, rfl, q, ⟨by omega, by omega, by omega⟩, ⟨by omega, by omega, by omega⟩, by rw [hk, i4]; rfl⟩
 ·have h := of_decide_eq_false h
  rw [i4, show k = a.length by omega]
  exact LeD.refl _
theorem zero_ref01_Distorted_0 (a : List Int) (c : List Int) (v0_0 : List Int) (v0_1 : Int)  (hi : (smE a = 0 ∧ smE c = 0) ∧ 0 ≤ v0_1 ∧ v0_1 ≤ a.length ∧ (0 : Int) + v0_1 = a.length + 1 ∧ v0_0 = dsA a c v0_1.toNat) : False := by
 omega
set_option maxHeartbeats 8000000 in
set_option maxRecDepth 100000 in
theorem rnd_ref01_Distorted_2 (a : List Int) (c : List Int) (v2_0 : List Int) (v2_1 : Int) (v2_2 : Int) (nn2 nn0 : Nat) (hp : smE a = 0 ∧ smE c = 0) (hi : (smE a = 0 ∧ smE c = 0) ∧ (0 ≤ v2_1 ∧ v2_1 < a.length ∧ (nn0 : Int) + v2_1 = a.length) ∧ (0 ≤ v2_2 ∧ v2_2 ≤ c.length ∧ ((nn2 + 1) : Int) + v2_2 = c.length + 1) ∧ v2_0 = dsK a c v2_1.toNat v2_2.toNat) : rd_ref01_Distorted_2 (J_ref01_Distorted a c) a c v2_0 v2_1 v2_2 nn2 nn0 (fun r => LeD r (.t (.c (.sl 1 ((dsV a c).length) (intsC (dsV a c)))))) := by
 obtain ⟨q, i1, i2, i4⟩ := hi
 obtain ⟨k, rfl⟩ : ∃ k : Nat, v2_1 = k := ⟨v2_1.toNat, by omega⟩
 have hk : (k : Int).toNat = k := rfl
 obtain ⟨m, rfl⟩ : ∃ m : Nat, v2_2 = m := ⟨v2_2.toNat, by omega⟩
 have hm : (m : Int).toNat = m := rfl
 rw [hk, hm] at i4
 obtain ⟨a1, a2⟩ := smE_ok q.1
 obtain ⟨c1, c2⟩ := smE_ok q.2
 have hl : v2_0.length = a.length + c.length - 1 := by rw [i4]; exact dsK_len a c k m
 unfold rd_ref01_Distorted_2
 rw [hk, hm]
 refine cond_i (fun h => ?_) (fun h => lt_i fun x hx => ?_)
 ·have hlt : m < c.length := by have := of_decide_eq_true h; omega
  have r := dsK_rg q.1 q.2 k (by omega) m (by omega) (k + m)
  have b1 := a2 k (by omega)
  have b2 := c2 m hlt
  have p := mul_rg (x := a.getD k 0) (y := c.getD m 0) (A := 10000) (B := 10000) (C := 100000000) (by omega) (by omega) (by decide)
  rw [← i4] at r
  refine lt_i fun x1 h1 => lt_i fun x2 h2 => ?_
  rw [wi (by omega)] at h1 h2
  subst h1
  subst h2
  rw [show ((k : Int) + (m : Int)).toNat = k + m by omega]
  refine ⟨by omega, by omega, by omega, by omega, lt_i fun x3 h3 => lt_i fun x4 h4 => ⟨by omega, ⟨by omega, by trivial⟩, lt_i fun x5 h5 => ?_⟩⟩
  rw [wi (by omega)] at h3
  subst h3
  rw [wi (by omega)] at h4 h5
  subst h5
  refine ⟨_, _, _, rfl, q, i1, by omega, ?_⟩
  rw [show ((m : Int) + 1).toNat = m + 1 by omega, hk, ← h4, i4]
  rfl
 ·have h := of_decide_eq_false h
  rw [wi (by omega)] at hx
  subst hx
  refine ⟨_, _, rfl, q, by omega, by omega, by omega, ?_⟩
  rw [show ((k : Int) + 1).toNat = k + 1 by omega, i4, show m = c.length by omega]
  rfl
theorem zero_ref01_Distorted_2 (a : List Int) (c : List Int) (v2_0 : List Int) (v2_1 : Int) (v2_2 : Int) (nn0 : Nat) (hi : (smE a = 0 ∧ smE c = 0) ∧ (0 ≤ v2_1 ∧ v2_1 < a.length ∧ (nn0 : Int) + v2_1 = a.length) ∧ (0 ≤ v2_2 ∧ v2_2 ≤ c.length ∧ (0 : Int) + v2_2 = c.length + 1) ∧ v2_0 = dsK a c v2_1.toNat v2_2.toNat) : False := by
 omega
set_option maxHeartbeats 8000000 in
set_option maxRecDepth 100000 in
theorem spec_ref01_Distorted (a : List Int) (c : List Int) (hp : smE a = 0 ∧ smE c = 0) : vc_ref01_Distorted (J_ref01_Distorted a c) a c (fun r => LeD r (.t (.c (.sl 1 ((dsV a c).length) (intsC (dsV a c)))))) := by
 unfold vc_ref01_Distorted
 obtain ⟨a1, a2⟩ := smE_ok hp.1
 obtain ⟨c1, c2⟩ := smE_ok hp.2
 refine lt_i fun x1 h1 => lt_i fun x2 h2 => ?_
 rw [wi (by omega)] at h1
 subst h1
 rw [wi (by omega)] at h2
 have e : x2.toNat = a.length + c.length - 1 := by omega
 rw [e]
 exact ⟨⟨rfl, by omega, by unfold roomP maxLen; omega⟩, a.length + 1, _, 0, rfl, hp, by omega, by omega, by omega, rfl⟩
theorem all_ref01_Distorted (a : List Int) (c : List Int) (hp : smE a = 0 ∧ smE c = 0) : AllG (J_ref01_Distorted a c) (loopsFn Try.prog tab Se71 ann_ref01_Distorted (J_ref01_Distorted a c) Try.f34 (fun r => LeD r (.t (.c (.sl 1 ((dsV a c).length) (intsC (dsV a c))))))) := by
 rw [lp_ref01_Distorted]
 refine ⟨⟨?_, ?_⟩, ⟨?_, ?_⟩, trivial⟩
 ·intro F s h
  obtain _ | ⟨g, F⟩ := F
  case cons => exact h.elim
  obtain ⟨w0, w1, rfl, hi⟩ := h
  exact zero_ref01_Distorted_0 a c w0 w1 hi
 ·intro n F s h
  obtain _ | ⟨g, F⟩ := F
  case cons => exact h.elim
  obtain ⟨w0, w1, rfl, hi⟩ := h
  rw [er_ref01_Distorted_0]
  exact rnd_ref01_Distorted_0 a c _ _ _ hp hi
 ·intro F s h
  obtain _ | ⟨f0, F⟩ := F
  ·exact h.elim
  obtain _ | ⟨g, F⟩ := F
  case cons => exact h.elim
  obtain ⟨w0, w1, w2, rfl, hi⟩ := h
  exact zero_ref01_Distorted_2 a c w0 w1 w2 _ hi
 ·intro n F s h
  obtain _ | ⟨f0, F⟩ := F
  ·exact h.elim
  obtain _ | ⟨g, F⟩ := F
  case cons => exact h.elim
  obtain ⟨w0, w1, w2, rfl, hi⟩ := h
  rw [er_ref01_Distorted_2]
  exact rnd_ref01_Distorted_2 a c _ _ _ _ _ hp hi
def con_ref01_Distorted : Con := fun args => match args with
 | [.t (.c (.sl 1 n_a c_a)), .t (.c (.sl 1 n_c c_c))] => some (.t (.c (.sl 1 ((dsV (listC n_a mkInt c_a) (listC n_c mkInt c_c)).length) (intsC (dsV (listC n_a mkInt c_a) (listC n_c mkInt c_c))))), some (numsP 1 n_a c_a ∧ numsP 1 n_c c_c ∧ smE (listC n_a mkInt c_a) = 0 ∧ smE (listC n_c mkInt c_c) = 0), false)
 | _ => none
theorem ok_ref01_Distorted : Ok Try.prog 34 con_ref01_Distorted := by
 refine Ok.fn (ann := ann_ref01_Distorted) mixed tabOK VSe71 ValidIt.no (fn := Try.f34) (by kernel_rfl) (by kernel_rfl) fit_ref01_Distorted fun args r pre fresh h hp => ?_
 unfold con_ref01_Distorted at h
 split at h
 ·rename_i n_a c_a n_c c_c
  cases h
  obtain ⟨hp0, hp1, hp⟩ := hp
  refine ⟨rfl, J_ref01_Distorted (listC n_a mkInt c_a) (listC n_c mkInt c_c), [.t (.c (.sl 1 ((listC n_a mkInt c_a).length) (intsC (listC n_a mkInt c_a)))), .t (.c (.sl 1 ((listC n_c mkInt c_c).length) (intsC (listC n_c mkInt c_c))))], ?_, Nat.le_of_ble_eq_true (by kernel_rfl), ?_, ?_⟩
  ·exact (LeA_cons (leT_c ((leL_int hp0))) (LeA_cons (leT_c ((leL_int hp1))) LeA_nil))
  ·rw [ev_ref01_Distorted]; exact spec_ref01_Distorted (listC n_a mkInt c_a) (listC n_c mkInt c_c) hp
  ·exact all_ref01_Distorted (listC n_a mkInt c_a) (listC n_c mkInt c_c) hp
 ·cases h
def Se72 : Sum := addS Se71 34 con_ref01_Distorted
theorem VSe72 : Valid Try.prog Se72 := Valid.add VSe71 ok_ref01_Distorted
def mk_clock_Distorted_0 (a : List Int) (c : List Int) (v0_0 : List Int) (v0_1 : Int) : DS := ⟨[none, some (.t (.c (.sl 1 c.length (intsC c)))), none, none, none, none, none, some (.t (.c (.os 7))), none, none, none, none, none, none, none, none, none, none, none, none, none, none, none, none, none, none, none, none, some (.t (.c (.sl 1 a.length (intsC a)))), some (.t (.c (.v (.int .i64 ((a.length : Nat) : Int))))), some (.t (.c (.v (.int .i64 v0_1)))), none, none, none, none, none, none, none, none, none, none, none, none, none, none, none, none, none, none, none, none, none, none, none, none, none], [none, none, none, none, none, none, none, some (.num 3 .i64 v0_0), none, none, none, none, none, none, none, none, none, none, none, none, none, none, none, none, none, none, none, none, none, none, none, none, none, none, none, none, none, none, none, none, none, none, none, none, none, none, none, none, none, none, none, none, none, none, none, none]⟩
def mk_clock_Distorted_2 (a : List Int) (c : List Int) (v2_0 : List Int) (v2_1 : Int) (v2_2 : Int) (v2_3 : Int) (v2_4 : Int) : DS := ⟨[none, some (.t (.c (.sl 1 c.length (intsC c)))), none, none, none, none, none, some (.t (.c (.os 7))), some (.t (.c (.v (.int .i64 v2_3)))), some (.t (.c (.v (.int .i64 v2_4)))), none, none, none, none, none, none, none, none, none, none, none, none, none, none, none, none, none, none, some (.t (.c (.sl 1 a.length (intsC a)))), some (.t (.c (.v (.int .i64 ((a.length : Nat) : Int))))), some (.t (.c (.v (.int .i64 v2_1)))), none, none, none, none, some (.t (.c (.sl 1 c.length (intsC c)))), some (.t (.c (.v (.int .i64 ((c.length : Nat) : Int))))), some (.t (.c (.v (.int .i64 v2_2)))), none, none, none, none, none, none, none, none, none, none, none, none, none, none, none, none, none, none], [none, none, none, none, none, none, none, some (.num 3 .i64 v2_0), none, none, none, none, none, none, none, none, none, none, none, none, none, none, none, none, none, none, none, none, none, none, none, none, none, none, none, none, none, none, none, none, none, none, none, none, none, none, none, none, none, none, none, none, none, none, none, none]⟩
def vc_clock_Distorted (J : Inv) (a : List Int) (c : List Int) (post : DV → Prop) : Prop := (numsP 1 a.length (intsC a) ∧ ((listC a.length mkInt (intsC a))).length ≤ 1000000) ∧ ((numsP 1 c.length (intsC c) ∧ ((listC c.length mkInt (intsC c))).length ≤ 1000000) ∧ ((numsP 1 2 (genC [[.v (.int .i64 (smE (listC a.length mkInt (intsC a))))], [.v (.int .i64 (smE (listC c.length mkInt (intsC c))))]]) ∧ (([(smE (listC a.length mkInt (intsC a))), (smE (listC c.length mkInt (intsC c)))] : List Int)).length ≤ 100) ∧ (cond ((firstNZ ([(smE (listC a.length mkInt (intsC a))), (smE (listC c.length mkInt (intsC c)))] : List Int)) != (0 : Int)) (post (.tu [.c (.v (.slice none 0 0)), .c (.v (.int .i64 (firstNZ ([(smE (listC a.length mkInt (intsC a))), (smE (listC c.length mkInt (intsC c)))] : List Int))))])) (lt (IntKind.i64.wrap (((a.length : Nat) : Int) + ((c.length : Nat) : Int))) fun x1 => lt (IntKind.i64.wrap (x1 - (1 : Int))) fun x2 => (x2 = x2 ∧ 0 ≤ x2 ∧ roomP 8 x2.toNat) ∧ (∃ n, J 0 (n :: []) (mk_clock_Distorted_0 a c (List.replicate x2.toNat 0) 0))))))
def ann_clock_Distorted : Ann := ⟨fun _ => none, fun b => lookA b [(0, (none, some ⟨[1, 28, 29, 30], [], [(7, .num 3 .i64 ([]))]⟩)), (2, (none, some ⟨[1, 8, 9, 28, 29, 30, 35, 36, 37], [], [(7, .num 3 .i64 ([]))]⟩))], fun _ => [], noIt, false, fun _ => none, fun _ => none⟩
theorem ev_clock_Distorted (J : Inv) (a : List Int) (c : List Int) (post : DV → Prop) : evFn Try.prog tab Se72 ann_clock_Distorted J Try.f31 [.t (.c (.sl 1 a.length (intsC a))), .t (.c (.sl 1 c.length (intsC c)))] post = vc_clock_Distorted J a c post := by kernel_rfl
theorem fit_clock_Distorted : okFn ann_clock_Distorted Try.f31 = true := by kernel_rfl
def rd_clock_Distorted_0 (J : Inv) (a : List Int) (c : List Int) (v0_0 : List Int) (v0_1 : Int) (nn0 : Nat) (post : DV → Prop) : Prop := cond (decide (v0_1 < ((a.length : Nat) : Int))) ((0 ≤ v0_1 ∧ v0_1 < ((a.length : Nat) : Int)) ∧ (∃ n, J 2 (n :: nn0 :: []) (mk_clock_Distorted_2 a c v0_0 v0_1 0 v0_1 (a.getD v0_1.toNat 0)))) (post (.tu [.c (.sl 1 v0_0.length (numsC .i64 v0_0)), .c (.v (.int .i64 0))]))
theorem er_clock_Distorted_0 (J : Inv) (a : List Int) (c : List Int) (v0_0 : List Int) (v0_1 : Int) (nn0 : Nat) (post : DV → Prop) : round Try.prog tab Se72 ann_clock_Distorted J Try.f31 post 0 (nn0 :: []) (mk_clock_Distorted_0 a c v0_0 v0_1) = rd_clock_Distorted_0 J a c v0_0 v0_1 nn0 post := by kernel_rfl
def rd_clock_Distorted_2 (J : Inv) (a : List Int) (c : List Int) (v2_0 : List Int) (v2_1 : Int) (v2_2 : Int) (v2_3 : Int) (v2_4 : Int) (nn2 nn0 : Nat) (post : DV → Prop) : Prop := cond (decide (v2_2 < ((c.length : Nat) : Int))) ((0 ≤ v2_2 ∧ v2_2 < ((c.length : Nat) : Int)) ∧ (lt (IntKind.i64.wrap (v2_3 + v2_2)) fun x1 => (0 ≤ x1 ∧ x1 < ((v2_0.length : Nat) : Int)) ∧ (((x1).toNat < v2_0.length) ∧ (lt (IntKind.i64.wrap (v2_4 * (c.getD v2_2.toNat 0))) fun x2 => lt (IntKind.i64.wrap ((v2_0.getD (x1).toNat 0) + x2)) fun x3 => (0 ≤ x1 ∧ x1 < ((v2_0.length : Nat) : Int)) ∧ (((x1).toNat < v2_0.length ∧ IntKind.i64 = IntKind.i64) ∧ (lt (IntKind.i64.wrap (v2_2 + (1 : Int))) fun x4 => J 2 (nn2 :: nn0 :: []) (mk_clock_Distorted_2 a c (v2_0.set (x1).toNat x3) v2_1 x4 v2_3 v2_4))))))) (lt (IntKind.i64.wrap (v2_1 + (1 : Int))) fun x5 => J 0 (nn0 :: []) (mk_clock_Distorted_0 a c v2_0 x5))
theorem er_clock_Distorted_2 (J : Inv) (a : List Int) (c : List Int) (v2_0 : List Int) (v2_1 : Int) (v2_2 : Int) (v2_3 : Int) (v2_4 : Int) (nn2 nn0 : Nat) (post : DV → Prop) : round Try.prog tab Se72 ann_clock_Distorted J Try.f31 post 1 (nn2 :: nn0 :: []) (mk_clock_Distorted_2 a c v2_0 v2_1 v2_2 v2_3 v2_4) = rd_clock_Distorted_2 J a c v2_0 v2_1 v2_2 v2_3 v2_4 nn2 nn0 post := by kernel_rfl
theorem lp_clock_Distorted (J : Inv) (post : DV → Prop) : AllG J (loopsFn Try.prog tab Se72 ann_clock_Distorted J Try.f31 post) = (((∀ F s, ¬ J 0 (0 :: F) s) ∧ ∀ n F s, J 0 ((n + 1) :: F) s → round Try.prog tab Se72 ann_clock_Distorted J Try.f31 post 0 (n :: F) s) ∧ ((∀ F s, ¬ J 2 (0 :: F) s) ∧ ∀ n F s, J 2 ((n + 1) :: F) s → round Try.prog tab Se72 ann_clock_Distorted J Try.f31 post 1 (n :: F) s) ∧ True) := by kernel_rfl
def J_clock_Distorted (a : List Int) (c : List Int) : Inv := fun b F s => match b, F with
 | 0, [nn0] => ∃ (v0_0 : List Int) (v0_1 : Int), s = mk_clock_Distorted_0 a c v0_0 v0_1 ∧ ((smE a = 0 ∧ smE c = 0) ∧ 0 ≤ v0_1 ∧ v0_1 ≤ a.length ∧ (nn0 : Int) + v0_1 = a.length + 1 ∧ v0_0 = dsA a c v0_1.toNat)
 | 2, [nn2, nn0] => ∃ (v2_0 : List Int) (v2_1 : Int) (v2_2 : Int) (v2_3 : Int) (v2_4 : Int), s = mk_clock_Distorted_2 a c v2_0 v2_1 v2_2 v2_3 v2_4 ∧ ((smE a = 0 ∧ smE c = 0) ∧ (0 ≤ v2_1 ∧ v2_1 < a.length ∧ (nn0 : Int) + v2_1 = a.length) ∧ (0 ≤ v2_2 ∧ v2_2 ≤ c.length ∧ (nn2 : Int) + v2_2 = c.length + 1) ∧ (v2_3 = v2_1 ∧ v2_4 = a.getD v2_1.toNat 0) ∧ v2_0 = dsK a c v2_1.toNat v2_2.toNat)
 | _, _ => False
set_option maxHeartbeats 8000000 in
set_option maxRecDepth 100000 in
theorem rnd_clock_Distorted_0 (a : List Int) (c : List Int) (v0_0 : List Int) (v0_1 : Int) (nn0 : Nat) (hp : (a).length ≤ 1000000 ∧ (c).length ≤ 1000000) (hi : (smE a = 0 ∧ smE c = 0) ∧ 0 ≤ v0_1 ∧ v0_1 ≤ a.length ∧ ((nn0 + 1) : Int) + v0_1 = a.length + 1 ∧ v0_0 = dsA a c v0_1.toNat) : rd_clock_Distorted_0 (J_clock_Distorted a c) a c v0_0 v0_1 nn0 (fun r => LeD r (.tu [.c (.sl 1 ((dsW a c).length) (intsC (dsW a c))), .c (.v (.int .i64 (dsE a c)))])) := by
 obtain ⟨q, i1, i2, i3, i4⟩ := hi
 obtain ⟨k, rfl⟩ : ∃ k : Nat, v0_1 = k := ⟨v0_1.toNat, by omega⟩
 have hk : (k : Int).toNat = k := rfl
 rw [hk] at i4
 unfold rd_clock_Distorted_0
 refine cond_i (fun h => ?_) (fun h => ?_)
 ·have hlt : k < a.length := by have := of_decide_eq_true h; omega
  exact ⟨by omega, c.length + 1, _, _, 0, _, _, rfl, q, ⟨by omega, by omega, by omega⟩, ⟨by omega, by omega, by omega⟩, ⟨rfl, rfl⟩, by rw [hk, i4]; rfl⟩
 ·have h := of_decide_eq_false h
  have e : dsE a c = 0 := by unfold dsE; rw [q.1, q.2]; rfl
  rw [i4, show k = a.length by omega, show dsW a c = dsV a c from if_pos e, e]
  exact LeD.refl _
theorem zero_clock_Distorted_0 (a : List Int) (c : List Int) (v0_0 : List Int) (v0_1 : Int)  (hi : (smE a = 0 ∧ smE c = 0) ∧ 0 ≤ v0_1 ∧ v0_1 ≤ a.length ∧ (0 : Int) + v0_1 = a.length + 1 ∧ v0_0 = dsA a c v0_1.toNat) : False := by
 omega
set_option maxHeartbeats 8000000 in
set_option maxRecDepth 100000 in
theorem rnd_clock_Distorted_2 (a : List Int) (c : List Int) (v2_0 : List Int) (v2_1 : Int) (v2_2 : Int) (v2_3 : Int) (v2_4 : Int) (nn2 nn0 : Nat) (hp : (a).length ≤ 1000000 ∧ (c).length ≤ 1000000) (hi : (smE a = 0 ∧ smE c = 0) ∧ (0 ≤ v2_1 ∧ v2_1 < a.length ∧ (nn0 : Int) + v2_1 = a.length) ∧ (0 ≤ v2_2 ∧ v2_2 ≤ c.length ∧ ((nn2 + 1) : Int) + v2_2 = c.length + 1) ∧ (v2_3 = v2_1 ∧ v2_4 = a.getD v2_1.toNat 0) ∧ v2_0 = dsK a c v2_1.toNat v2_2.toNat) : rd_clock_Distorted_2 (J_clock_Distorted a c) a c v2_0 v2_1 v2_2 v2_3 v2_4 nn2 nn0 (fun r => LeD r (.tu [.c (.sl 1 ((dsW a c).length) (intsC (dsW a c))), .c (.v (.int .i64 (dsE a c)))])) := by
 obtain ⟨q, i1, i2, ⟨e3, e4⟩, i4⟩ := hi
 obtain ⟨k, rfl⟩ : ∃ k : Nat, v2_1 = k := ⟨v2_1.toNat, by omega⟩
 have hk : (k : Int).toNat = k := rfl
 obtain ⟨m, rfl⟩ : ∃ m : Nat, v2_2 = m := ⟨v2_2.toNat, by omega⟩
 have hm : (m : Int).toNat = m := rfl
 rw [hk, hm] at i4
 rw [hk] at e4
 subst e3
 obtain ⟨a1, a2⟩ := smE_ok q.1
 obtain ⟨c1, c2⟩ := smE_ok q.2
 have hl : v2_0.length = a.length + c.length - 1 := by rw [i4]; exact dsK_len a c k m
 unfold rd_clock_Distorted_2
 rw [hm]
 refine cond_i (fun h => ?_) (fun h => lt_i fun x hx => ?_)
 ·have hlt : m < c.length := by have := of_decide_eq_true h; omega
  have r := dsK_rg q.1 q.2 k (by omega) m (by omega) (k + m)
  have b1 := a2 k (by omega)
  have b2 := c2 m hlt
  have p := mul_rg (x := a.getD k 0) (y := c.getD m 0) (A := 10000) (B := 10000) (C := 100000000) (by omega) (by omega) (by decide)
  rw [← i4] at r
  refine ⟨by omega, lt_i fun x1 h1 => ?_⟩
  rw [wi (by omega)] at h1
  subst h1
  rw [show ((k : Int) + (m : Int)).toNat = k + m by omega]
  refine ⟨by omega, by omega, lt_i fun x3 h3 => lt_i fun x4 h4 => ⟨by omega, ⟨by omega, by trivial⟩, lt_i fun x5 h5 => ?_⟩⟩
  rw [e4, wi (by omega)] at h3
  subst h3
  rw [wi (by omega)] at h4 h5
  subst h5
  refine ⟨_, _, _, _, _, rfl, q, i1, by omega, ⟨rfl, by rw [hk]; exact e4⟩, ?_⟩
  rw [show ((m : Int) + 1).toNat = m + 1 by omega, hk, ← h4, i4]
  rfl
 ·have h := of_decide_eq_false h
  rw [wi (by omega)] at hx
  subst hx
  refine ⟨_, _, rfl, q, by omega, by omega, by omega, ?_⟩
  rw [show ((k : Int) + 1).toNat = k + 1 by omega, i4, show m = c.length by omega]
  rfl
theorem zero_clock_Distorted_2 (a : List Int) (c : List Int) (v2_0 : List Int) (v2_1 : Int) (v2_2 : Int) (v2_3 : Int) (v2_4 : Int) (nn0 : Nat) (hi : (smE a = 0 ∧ smE c = 0) ∧ (0 ≤ v2_1 ∧ v2_1 < a.length ∧ (nn0 : Int) + v2_1 = a.length) ∧ (0 ≤ v2_2 ∧ v2_2 ≤ c.length ∧ (0 : Int) + v2_2 = c.length + 1) ∧ (v2_3 = v2_1 ∧ v2_4 = a.getD v2_1.toNat 0) ∧ v2_0 = dsK a c v2_1.toNat v2_2.toNat) : False := by
 omega
set_option maxHeartbeats 8000000 in
set_option maxRecDepth 100000 in
theorem spec_clock_Distorted (a : List Int) (c : List Int) (hp : (a).length ≤ 1000000 ∧ (c).length ≤ 1000000) : vc_clock_Distorted (J_clock_Distorted a c) a c (fun r => LeD r (.tu [.c (.sl 1 ((dsW a c).length) (intsC (dsW a c))), .c (.v (.int .i64 (dsE a c)))])) := by
 unfold vc_clock_Distorted
 simp only [ints_listC]
 refine ⟨⟨numsP_ints a, hp.1⟩, ⟨numsP_ints c, hp.2⟩, ⟨numsP_gen [_, _], Nat.le_of_ble_eq_true rfl⟩, cond_i (fun h => ?_) (fun h => lt_i fun x1 h1 => lt_i fun x2 h2 => ?_)⟩
 ·have h : dsE a c ≠ 0 := by unfold dsE; simpa using h
  rw [show dsW a c = [] from if_neg h]
  exact le_tu le_nil (LeD.refl _)
 ·have h : dsE a c = 0 := by unfold dsE; simpa using h
  have h0 := fn2 (show firstNZ [_, _] = 0 from h)
  obtain ⟨a1, a2⟩ := smE_ok h0.1
  obtain ⟨c1, c2⟩ := smE_ok h0.2
  rw [wi (by omega)] at h1
  subst h1
  rw [wi (by omega)] at h2
  have e : x2.toNat = a.length + c.length - 1 := by omega
  rw [e]
  exact ⟨⟨by trivial, by omega, by unfold roomP maxLen; omega⟩, a.length + 1, _, 0, rfl, h0, by omega, by omega, by omega, rfl⟩
theorem all_clock_Distorted (a : List Int) (c : List Int) (hp : (a).length ≤ 1000000 ∧ (c).length ≤ 1000000) : AllG (J_clock_Distorted a c) (loopsFn Try.prog tab Se72 ann_clock_Distorted (J_clock_Distorted a c) Try.f31 (fun r => LeD r (.tu [.c (.sl 1 ((dsW a c).length) (intsC (dsW a c))), .c (.v (.int .i64 (dsE a c)))]))) := by
 rw [lp_clock_Distorted]
 refine ⟨⟨?_, ?_⟩, ⟨?_, ?_⟩, trivial⟩
 ·intro F s h
  obtain _ | ⟨g, F⟩ := F
  case cons => exact h.elim
  obtain ⟨w0, w1, rfl, hi⟩ := h
  exact zero_clock_Distorted_0 a c w0 w1 hi
 ·intro n F s h
  obtain _ | ⟨g, F⟩ := F
  case cons => exact h.elim
  obtain ⟨w0, w1, rfl, hi⟩ := h
  rw [er_clock_Distorted_0]
  exact rnd_clock_Distorted_0 a c _ _ _ hp hi
 ·intro F s h
  obtain _ | ⟨f0, F⟩ := F
  ·exact h.elim
  obtain _ | ⟨g, F⟩ := F
  case cons => exact h.elim
  obtain ⟨w0, w1, w2, w3, w4, rfl, hi⟩ := h
  exact zero_clock_Distorted_2 a c w0 w1 w2 w3 w4 _ hi
 ·intro n F s h
  obtain _ | ⟨f0, F⟩ := F
  ·exact h.elim
  obtain _ | ⟨g, F⟩ := F
  case cons => exact h.elim
  obtain ⟨w0, w1, w2, w3, w4, rfl, hi⟩ := h
  rw [er_clock_Distorted_2]
  exact rnd_clock_Distorted_2 a c _ _ _ _ _ _ _ hp hi
def con_clock_Distorted : Con := fun args => match args with
 | [.t (.c (.sl 1 n_a c_a)), .t (.c (.sl 1 n_c c_c))] => some (.tu [.c (.sl 1 ((dsW (listC n_a mkInt c_a) (listC n_c mkInt c_c)).length) (intsC (dsW (listC n_a mkInt c_a) (listC n_c mkInt c_c)))), .c (.v (.int .i64 (dsE (listC n_a mkInt c_a) (listC n_c mkInt c_c))))], some (numsP 1 n_a c_a ∧ numsP 1 n_c c_c ∧ ((listC n_a mkInt c_a)).length ≤ 1000000 ∧ ((listC n_c mkInt c_c)).length ≤ 1000000), false)
 | _ => none
theorem ok_clock_Distorted : Ok Try.prog 31 con_clock_Distorted := by
 refine Ok.fn (ann := ann_clock_Distorted) mixed tabOK VSe72 ValidIt.no (fn := Try.f31) (by kernel_rfl) (by kernel_rfl) fit_clock_Distorted fun args r pre fresh h hp => ?_
 unfold con_clock_Distorted at h
 split at h
 ·rename_i n_a c_a n_c c_c
  cases h
  obtain ⟨hp0, hp1, hp⟩ := hp
  refine ⟨rfl, J_clock_Distorted (listC n_a mkInt c_a) (listC n_c mkInt c_c), [.t (.c (.sl 1 ((listC n_a mkInt c_a).length) (intsC (listC n_a mkInt c_a)))), .t (.c (.sl 1 ((listC n_c mkInt c_c).length) (intsC (listC n_c mkInt c_c))))], ?_, Nat.le_of_ble_eq_true (by kernel_rfl), ?_, ?_⟩
  ·exact (LeA_cons (leT_c ((leL_int hp0))) (LeA_cons (leT_c ((leL_int hp1))) LeA_nil))
  ·rw [ev_clock_Distorted]; exact spec_clock_Distorted (listC n_a mkInt c_a) (listC n_c mkInt c_c) hp
  ·exact all_clock_Distorted (listC n_a mkInt c_a) (listC n_c mkInt c_c) hp
 ·cases h
def Se73 : Sum := addS Se72 31 con_clock_Distorted
theorem VSe73 : Valid Try.prog Se73 := Valid.add VSe72 ok_clock_Distorted
def mk_clock_ArrivalOf_0 (a : List Int) (c : List Int) (v0_0 : Int) (v0_1 : Int) (v0_2 : Int) (v0_3 : Int) : DS := ⟨[some (.t (.c (.sl 1 a.length (intsC a)))), some (.t (.c (.sl 1 c.length (intsC c)))), none, none, none, none, none, some (.t (.c (.v (.int .i64 v0_2)))), some (.t (.c (.v (.int .i64 v0_3)))), none, none, none, none, none, none, none, none, none, none, none, none, none, none, none, none, none, none, none, none, none, none, none, none, some (.t (.c (.v (.int .i64 v0_0)))), some (.t (.c (.v (.int .i64 v0_1)))), none, none, none, none, none, none, none, none, none, none, none, none, none, none, none, none, none, none, none, none, none, none, none, none, none, none, none, none, none, none, none, none, none, none, none, none, none, none, none, none], [none, none, none, none, none, none, none, none, none, none, none, none, none, none, none, none, none, none, none, none, none, none, none, none, none, none, none, none, none, none, none, none, none, none, none, none, none, none, none, none, none, none, none, none, none, none, none, none, none, none, none, none, none, none, none, none, none, none, none, none, none, none, none, none, none, none, none, none, none, none, none, none, none, none, none]⟩
def mk_clock_ArrivalOf_2 (a : List Int) (c : List Int) (v2_0 : Int) (v2_1 : Int) (v2_2 : Int) (v2_3 : Int) (v2_4 : Int) (v2_5 : Int) (v2_6 : Int) : DS := ⟨[some (.t (.c (.sl 1 a.length (intsC a)))), some (.t (.c (.sl 1 c.length (intsC c)))), none, none, none, none, none, some (.t (.c (.v (.int .i64 v2_4)))), some (.t (.c (.v (.int .i64 v2_5)))), some (.t (.c (.v (.int .i64 v2_6)))), some (.t (.c (.v (.int .i64 v2_0)))), none, none, none, none, none, none, none, none, none, none, none, none, none, none, none, none, none, none, none, none, none, none, some (.t (.c (.v (.int .i64 v2_1)))), some (.t (.c (.v (.int .i64 v2_2)))), none, none, some (.t (.c (.sl 1 c.length (intsC c)))), some (.t (.c (.v (.int .i64 ((c.length : Nat) : Int))))), some (.t (.c (.v (.int .i64 v2_3)))), none, none, none, none, none, none, none, none, none, none, none, none, none, none, none, none, none, none, none, none, none, none, none, none, none, none, none, none, none, none, none, none, none, none, none], [none, none, none, none, none, none, none, none, none, none, none, none, none, none, none, none, none, none, none, none, none, none, none, none, none, none, none, none, none, none, none, none, none, none, none, none, none, none, none, none, none, none, none, none, none, none, none, none, none, none, none, none, none, none, none, none, none, none, none, none, none, none, none, none, none, none, none, none, none, none, none, none, none, none, none]⟩
def vc_clock_ArrivalOf (J : Inv) (a : List Int) (c : List Int) (post : DV → Prop) : Prop := (numsP 1 a.length (intsC a) ∧ ((listC a.length mkInt (intsC a))).length ≤ 1000000) ∧ ((numsP 1 c.length (intsC c) ∧ ((listC c.length mkInt (intsC c))).length ≤ 1000000) ∧ ((numsP 1 3 (genC [[.v (.int .i64 (smE (listC a.length mkInt (intsC a))))], [.v (.int .i64 (smE (listC c.length mkInt (intsC c))))], [.v (.int .i64 (unl (decide (((c.length : Nat) : Int) ≤ ((a.length : Nat) : Int))) (12 : Int)))]]) ∧ (([(smE (listC a.length mkInt (intsC a))), (smE (listC c.length mkInt (intsC c))), (unl (decide (((c.length : Nat) : Int) ≤ ((a.length : Nat) : Int))) (12 : Int))] : List Int)).length ≤ 100) ∧ (cond ((firstNZ ([(smE (listC a.length mkInt (intsC a))), (smE (listC c.length mkInt (intsC c))), (unl (decide (((c.length : Nat) : Int) ≤ ((a.length : Nat) : Int))) (12 : Int))] : List Int)) != (0 : Int)) (post (.tu [.c (.v (.int .i64 0)), .c (.v (.int .i64 (firstNZ ([(smE (listC a.length mkInt (intsC a))), (smE (listC c.length mkInt (intsC c))), (unl (decide (((c.length : Nat) : Int) ≤ ((a.length : Nat) : Int))) (12 : Int))] : List Int))))])) (lt (IntKind.i64.wrap (((a.length : Nat) : Int) - ((c.length : Nat) : Int))) fun x1 => lt (IntKind.i64.wrap (x1 + (1 : Int))) fun x2 => ∃ n, J 0 (n :: []) (mk_clock_ArrivalOf_0 a c x2 0 0 (-1))))))
def ann_clock_ArrivalOf : Ann := ⟨fun r => lookA r [(12, ([[], [], [], [], [2, 3], [1, 2, 3, 4], [1, 2, 3, 4, 5], [], [1, 2, 3, 4, 5, 6, 7], [], [], [], [10, 11], [9, 10, 11, 12], [9, 10, 11, 12, 13], [], [9, 10, 11, 12, 13, 14, 15], [1, 2, 3, 4, 5, 6, 7, 8, 9, 10, 11, 12, 13, 14, 15, 16], [0, 1, 2, 3, 4, 5, 6, 7, 8, 9, 10, 11, 12, 13, 14, 15, 16, 17], [0, 1, 2, 3, 4, 5, 6, 7, 8, 9, 10, 11, 12, 13, 14, 15, 16, 17, 18]], [[], [], [], [], [], [], [], [], [], [], [], [], [], [], [], [], [], [], [], []]))], fun b => lookA b [(0, (none, some ⟨[0, 1, 7, 8, 33, 34], [], []⟩)), (2, (none, some ⟨[0, 1, 7, 8, 9, 10, 33, 34, 37, 38, 39], [], []⟩))], fun _ => [], noIt, false, fun r => lookA r [(14, (3, [70]))], fun r => lookA r [(15, [7, 8])]⟩
theorem ev_clock_ArrivalOf (J : Inv) (a : List Int) (c : List Int) (post : DV → Prop) : evFn Try.prog tab Se73 ann_clock_ArrivalOf J Try.f32 [.t (.c (.sl 1 a.length (intsC a))), .t (.c (.sl 1 c.length (intsC c)))] post = vc_clock_ArrivalOf J a c post := by kernel_rfl
theorem fit_clock_ArrivalOf : okFn ann_clock_ArrivalOf Try.f32 = true := by kernel_rfl
def rd_clock_ArrivalOf_0 (J : Inv) (a : List Int) (c : List Int) (v0_0 : Int) (v0_1 : Int) (v0_2 : Int) (v0_3 : Int) (nn0 : Nat) (post : DV → Prop) : Prop := cond (decide (v0_1 < v0_0)) (∃ n, J 2 (n :: nn0 :: []) (mk_clock_ArrivalOf_2 a c 0 v0_0 v0_1 0 v0_2 v0_3 v0_1)) (post (.tu [.c (.v (.int .i64 v0_2)), .c (.v (.int .i64 0))]))
theorem er_clock_ArrivalOf_0 (J : Inv) (a : List Int) (c : List Int) (v0_0 : Int) (v0_1 : Int) (v0_2 : Int) (v0_3 : Int) (nn0 : Nat) (post : DV → Prop) : round Try.prog tab Se73 ann_clock_ArrivalOf J Try.f32 post 0 (nn0 :: []) (mk_clock_ArrivalOf_0 a c v0_0 v0_1 v0_2 v0_3) = rd_clock_ArrivalOf_0 J a c v0_0 v0_1 v0_2 v0_3 nn0 post := by kernel_rfl
def rd_clock_ArrivalOf_2 (J : Inv) (a : List Int) (c : List Int) (v2_0 : Int) (v2_1 : Int) (v2_2 : Int) (v2_3 : Int) (v2_4 : Int) (v2_5 : Int) (v2_6 : Int) (nn2 nn0 : Nat) (post : DV → Prop) : Prop := cond (decide (v2_3 < ((c.length : Nat) : Int))) ((0 ≤ v2_3 ∧ v2_3 < ((c.length : Nat) : Int)) ∧ (lt (IntKind.i64.wrap (v2_6 + v2_3)) fun x1 => (0 ≤ x1 ∧ x1 < ((a.length : Nat) : Int)) ∧ (lt (IntKind.i64.wrap ((a.getD x1.toNat 0) - (c.getD v2_3.toNat 0))) fun x2 => lt (IntKind.i64.wrap (v2_6 + v2_3)) fun x3 => (0 ≤ x3 ∧ x3 < ((a.length : Nat) : Int)) ∧ (lt (IntKind.i64.wrap ((a.getD x3.toNat 0) - (c.getD v2_3.toNat 0))) fun x4 => lt (IntKind.i64.wrap (x2 * x4)) fun x5 => lt (IntKind.i64.wrap (v2_0 + x5)) fun x6 => lt (IntKind.i64.wrap (v2_3 + (1 : Int))) fun x7 => J 2 (nn2 :: nn0 :: []) (mk_clock_ArrivalOf_2 a c x6 v2_1 v2_2 x7 v2_4 v2_5 v2_6))))) ((cond (decide (v2_5 < (0 : Int))) ((true = true) ∧ (True)) (True)) ∧ (lt ((bif decide (v2_5 < (0 : Int)) then true else decide (v2_0 < v2_5))) fun x8 => (cond x8 (True) (True)) ∧ (lt ((bif x8 then v2_6 else v2_4)) fun x9 => lt ((bif x8 then v2_0 else v2_5)) fun x10 => lt (IntKind.i64.wrap (v2_2 + (1 : Int))) fun x11 => J 0 (nn0 :: []) (mk_clock_ArrivalOf_0 a c v2_1 x11 x9 x10))))
theorem er_clock_ArrivalOf_2 (J : Inv) (a : List Int) (c : List Int) (v2_0 : Int) (v2_1 : Int) (v2_2 : Int) (v2_3 : Int) (v2_4 : Int) (v2_5 : Int) (v2_6 : Int) (nn2 nn0 : Nat) (post : DV → Prop) : round Try.prog tab Se73 ann_clock_ArrivalOf J Try.f32 post 1 (nn2 :: nn0 :: []) (mk_clock_ArrivalOf_2 a c v2_0 v2_1 v2_2 v2_3 v2_4 v2_5 v2_6) = rd_clock_ArrivalOf_2 J a c v2_0 v2_1 v2_2 v2_3 v2_4 v2_5 v2_6 nn2 nn0 post := by kernel_rfl
theorem lp_clock_ArrivalOf (J : Inv) (post : DV → Prop) : AllG J (loopsFn Try.prog tab Se73 ann_clock_ArrivalOf J Try.f32 post) = (((∀ F s, ¬ J 0 (0 :: F) s) ∧ ∀ n F s, J 0 ((n + 1) :: F) s → round Try.prog tab Se73 ann_clock_ArrivalOf J Try.f32 post 0 (n :: F) s) ∧ ((∀ F s, ¬ J 2 (0 :: F) s) ∧ ∀ n F s, J 2 ((n + 1) :: F) s → round Try.prog tab Se73 ann_clock_ArrivalOf J Try.f32 post 1 (n :: F) s) ∧ True) := by kernel_rfl
def J_clock_ArrivalOf (a : List Int) (c : List Int) : Inv := fun b F s => match b, F with
 | 0, [nn0] => ∃ (v0_0 : Int) (v0_1 : Int) (v0_2 : Int) (v0_3 : Int), s = mk_clock_ArrivalOf_0 a c v0_0 v0_1 v0_2 v0_3 ∧ ((smE a = 0 ∧ smE c = 0 ∧ c.length ≤ a.length) ∧ v0_0 = a.length - c.length + 1 ∧ 0 ≤ v0_1 ∧ v0_1 ≤ v0_0 ∧ v0_0 < (nn0 : Int) + v0_1 ∧ (v0_2, v0_3) = arK a c v0_1.toNat)
 | 2, [nn2, nn0] => ∃ (v2_0 : Int) (v2_1 : Int) (v2_2 : Int) (v2_3 : Int) (v2_4 : Int) (v2_5 : Int) (v2_6 : Int), s = mk_clock_ArrivalOf_2 a c v2_0 v2_1 v2_2 v2_3 v2_4 v2_5 v2_6 ∧ ((smE a = 0 ∧ smE c = 0 ∧ c.length ≤ a.length) ∧ (v2_1 = a.length - c.length + 1 ∧ 0 ≤ v2_2 ∧ v2_2 < v2_1 ∧ v2_1 < (nn0 : Int) + 1 + v2_2 ∧ v2_6 = v2_2) ∧ (0 ≤ v2_3 ∧ v2_3 ≤ c.length ∧ (nn2 : Int) + v2_3 = c.length + 1) ∧ (v2_4, v2_5) = arK a c v2_2.toNat ∧ v2_0 = sqK a c v2_2.toNat v2_3.toNat)
 | _, _ => False
set_option maxHeartbeats 8000000 in
set_option maxRecDepth 100000 in
theorem rnd_clock_ArrivalOf_0 (a : List Int) (c : List Int) (v0_0 : Int) (v0_1 : Int) (v0_2 : Int) (v0_3 : Int) (nn0 : Nat) (hp : (a).length ≤ 1000000 ∧ (c).length ≤ 1000000) (hi : (smE a = 0 ∧ smE c = 0 ∧ c.length ≤ a.length) ∧ v0_0 = a.length - c.length + 1 ∧ 0 ≤ v0_1 ∧ v0_1 ≤ v0_0 ∧ v0_0 < ((nn0 + 1) : Int) + v0_1 ∧ (v0_2, v0_3) = arK a c v0_1.toNat) : rd_clock_ArrivalOf_0 (J_clock_ArrivalOf a c) a c v0_0 v0_1 v0_2 v0_3 nn0 (fun r => LeD r (.tu [.c (.v (.int .i64 (avV a c))), .c (.v (.int .i64 (avE a c)))])) := by
 obtain ⟨q, e0, i1, i2, i3, i4⟩ := hi
 obtain ⟨k, rfl⟩ : ∃ k : Nat, v0_1 = k := ⟨v0_1.toNat, by omega⟩
 have hk : (k : Int).toNat = k := rfl
 rw [hk] at i4
 unfold rd_clock_ArrivalOf_0
 refine cond_i (fun h => ?_) (fun h => ?_)
 ·have h := of_decide_eq_true h
  exact ⟨c.length + 1, 0, _, _, 0, _, _, _, rfl, q, ⟨e0, by omega, by omega, by omega, rfl⟩, ⟨by omega, by omega, by omega⟩, by rw [hk]; exact i4, rfl⟩
 ·have h := of_decide_eq_false h
  have e : avE a c = 0 := avE_of q
  refine le2 ?_ e.symm
  rw [show avV a c = (arK a c (a.length - c.length + 1)).1 from if_pos e, show a.length - c.length + 1 = k by omega, ← i4]
theorem zero_clock_ArrivalOf_0 (a : List Int) (c : List Int) (v0_0 : Int) (v0_1 : Int) (v0_2 : Int) (v0_3 : Int)  (hi : (smE a = 0 ∧ smE c = 0 ∧ c.length ≤ a.length) ∧ v0_0 = a.length - c.length + 1 ∧ 0 ≤ v0_1 ∧ v0_1 ≤ v0_0 ∧ v0_0 < (0 : Int) + v0_1 ∧ (v0_2, v0_3) = arK a c v0_1.toNat) : False := by
 omega
set_option maxHeartbeats 8000000 in
set_option maxRecDepth 100000 in
theorem rnd_clock_ArrivalOf_2 (a : List Int) (c : List Int) (v2_0 : Int) (v2_1 : Int) (v2_2 : Int) (v2_3 : Int) (v2_4 : Int) (v2_5 : Int) (v2_6 : Int) (nn2 nn0 : Nat) (hp : (a).length ≤ 1000000 ∧ (c).length ≤ 1000000) (hi : (smE a = 0 ∧ smE c = 0 ∧ c.length ≤ a.length) ∧ (v2_1 = a.length - c.length + 1 ∧ 0 ≤ v2_2 ∧ v2_2 < v2_1 ∧ v2_1 < (nn0 : Int) + 1 + v2_2 ∧ v2_6 = v2_2) ∧ (0 ≤ v2_3 ∧ v2_3 ≤ c.length ∧ ((nn2 + 1) : Int) + v2_3 = c.length + 1) ∧ (v2_4, v2_5) = arK a c v2_2.toNat ∧ v2_0 = sqK a c v2_2.toNat v2_3.toNat) : rd_clock_ArrivalOf_2 (J_clock_ArrivalOf a c) a c v2_0 v2_1 v2_2 v2_3 v2_4 v2_5 v2_6 nn2 nn0 (fun r => LeD r (.tu [.c (.v (.int .i64 (avV a c))), .c (.v (.int .i64 (avE a c)))])) := by
 obtain ⟨q, ⟨e0, i1, i2, i3, e6⟩, i4, i5, i6⟩ := hi
 obtain ⟨k, rfl⟩ : ∃ k : Nat, v2_2 = k := ⟨v2_2.toNat, by omega⟩
 have hk : (k : Int).toNat = k := rfl
 obtain ⟨m, rfl⟩ : ∃ m : Nat, v2_3 = m := ⟨v2_3.toNat, by omega⟩
 have hm : (m : Int).toNat = m := rfl
 rw [hk] at i5
 rw [hk, hm] at i6
 subst e6
 obtain ⟨a1, a2⟩ := smE_ok q.1
 obtain ⟨c1, c2⟩ := smE_ok q.2.1
 have q2 := q.2.2
 unfold rd_clock_ArrivalOf_2
 rw [hm]
 refine cond_i (fun h => ?_) (fun h => ?_)
 ·have hlt : m < c.length := by have := of_decide_eq_true h; omega
  have b1 := a2 (k + m) (by omega)
  have b2 := c2 m hlt
  have p := mul_rg (x := a.getD (k + m) 0 - c.getD m 0) (y := a.getD (k + m) 0 - c.getD m 0) (A := 20000) (B := 20000) (C := 400000000) (by omega) (by omega) (by decide)
  have r := sqK_rg q k m (by omega)
  refine ⟨by omega, lt_i fun x1 h1 => ?_⟩
  rw [wi (by omega)] at h1
  subst h1
  rw [show ((k : Int) + (m : Int)).toNat = k + m by omega]
  refine ⟨by omega, lt_i fun x2 h2 => lt_i fun x3 h3 => ?_⟩
  rw [wi (by omega)] at h2 h3
  subst h2 h3
  rw [show ((k : Int) + (m : Int)).toNat = k + m by omega]
  refine ⟨by omega, lt_i fun x4 h4 => lt_i fun x5 h5 => lt_i fun x6 h6 => lt_i fun x7 h7 => ?_⟩
  rw [wi (by omega)] at h4
  subst h4
  rw [wi (by omega)] at h5
  subst h5
  rw [i6, wi (by omega)] at h6
  rw [wi (by omega)] at h7
  subst h7
  refine ⟨_, _, _, _, _, _, _, rfl, q, ⟨e0, i1, i2, i3, rfl⟩, by omega, by rw [hk]; exact i5, ?_⟩
  rw [show ((m : Int) + 1).toNat = m + 1 by omega, hk, ← h6]
  rfl
 ·have h := of_decide_eq_false h
  have em : m = c.length := by omega
  rw [em] at i6
  refine ⟨cond_i (fun _ => ⟨rfl, trivial⟩) (fun _ => trivial), lt_i fun x8 h8 => ⟨cond_i (fun _ => trivial) (fun _ => trivial), lt_i fun x9 h9 => lt_i fun x10 h10 => lt_i fun x11 h11 => ?_⟩⟩
  rw [wi (by omega)] at h11
  subst h11
  refine ⟨_, _, _, _, rfl, q, e0, by omega, by omega, by omega, ?_⟩
  rw [show ((k : Int) + 1).toNat = k + 1 by omega]
  show _ = if (arK a c k).2 < 0 ∨ sqK a c k c.length < (arK a c k).2 then ((k : Int), sqK a c k c.length) else arK a c k
  rw [← i5, ← i6, ← h9, ← h10, ← h8]
  by_cases g1 : v2_5 < 0
  ·rw [decide_eq_true g1, if_pos (Or.inl g1)]; rfl
  ·rw [decide_eq_false g1]
   by_cases g2 : v2_0 < v2_5
   ·rw [decide_eq_true g2, if_pos (Or.inr g2)]; rfl
   ·rw [decide_eq_false g2, if_neg (fun q => q.elim g1 g2)]; rfl
theorem zero_clock_ArrivalOf_2 (a : List Int) (c : List Int) (v2_0 : Int) (v2_1 : Int) (v2_2 : Int) (v2_3 : Int) (v2_4 : Int) (v2_5 : Int) (v2_6 : Int) (nn0 : Nat) (hi : (smE a = 0 ∧ smE c = 0 ∧ c.length ≤ a.length) ∧ (v2_1 = a.length - c.length + 1 ∧ 0 ≤ v2_2 ∧ v2_2 < v2_1 ∧ v2_1 < (nn0 : Int) + 1 + v2_2 ∧ v2_6 = v2_2) ∧ (0 ≤ v2_3 ∧ v2_3 ≤ c.length ∧ (0 : Int) + v2_3 = c.length + 1) ∧ (v2_4, v2_5) = arK a c v2_2.toNat ∧ v2_0 = sqK a c v2_2.toNat v2_3.toNat) : False := by
 omega
set_option maxHeartbeats 8000000 in
set_option maxRecDepth 100000 in
theorem spec_clock_ArrivalOf (a : List Int) (c : List Int) (hp : (a).length ≤ 1000000 ∧ (c).length ≤ 1000000) : vc_clock_ArrivalOf (J_clock_ArrivalOf a c) a c (fun r => LeD r (.tu [.c (.v (.int .i64 (avV a c))), .c (.v (.int .i64 (avE a c)))])) := by
 unfold vc_clock_ArrivalOf
 simp only [ints_listC]
 refine ⟨⟨numsP_ints a, hp.1⟩, ⟨numsP_ints c, hp.2⟩, ⟨numsP_gen [_, _, _], Nat.le_of_ble_eq_true rfl⟩, cond_i (fun h => ?_) (fun h => lt_i fun x1 h1 => lt_i fun x2 h2 => ?_)⟩
 ·have h : avE a c ≠ 0 := by unfold avE; simpa using h
  exact le2 (if_neg h).symm rfl
 ·have h : avE a c = 0 := by unfold avE; simpa using h
  have h0 := avE_ok h
  obtain ⟨a1, a2⟩ := smE_ok h0.1
  obtain ⟨c1, c2⟩ := smE_ok h0.2.1
  rw [wi (by omega)] at h1
  subst h1
  rw [wi (by omega)] at h2
  subst h2
  exact ⟨a.length + 2, _, 0, _, _, rfl, h0, rfl, by omega, by omega, by omega, rfl⟩
theorem all_clock_ArrivalOf (a : List Int) (c : List Int) (hp : (a).length ≤ 1000000 ∧ (c).length ≤ 1000000) : AllG (J_clock_ArrivalOf a c) (loopsFn Try.prog tab Se73 ann_clock_ArrivalOf (J_clock_ArrivalOf a c) Try.f32 (fun r => LeD r (.tu [.c (.v (.int .i64 (avV a c))), .c (.v (.int .i64 (avE a c)))]))) := by
 rw [lp_clock_ArrivalOf]
 refine ⟨⟨?_, ?_⟩, ⟨?_, ?_⟩, trivial⟩
 ·intro F s h
  obtain _ | ⟨g, F⟩ := F
  case cons => exact h.elim
  obtain ⟨w0, w1, w2, w3, rfl, hi⟩ := h
  exact zero_clock_ArrivalOf_0 a c w0 w1 w2 w3 hi
 ·intro n F s h
  obtain _ | ⟨g, F⟩ := F
  case cons => exact h.elim
  obtain ⟨w0, w1, w2, w3, rfl, hi⟩ := h
  rw [er_clock_ArrivalOf_0]
  exact rnd_clock_ArrivalOf_0 a c _ _ _ _ _ hp hi
 ·intro F s h
  obtain _ | ⟨f0, F⟩ := F
  ·exact h.elim
  obtain _ | ⟨g, F⟩ := F
  case cons => exact h.elim
  obtain ⟨w0, w1, w2, w3, w4, w5, w6, rfl, hi⟩ := h
  exact zero_clock_ArrivalOf_2 a c w0 w1 w2 w3 w4 w5 w6 _ hi
 ·intro n F s h
  obtain _ | ⟨f0, F⟩ := F
  ·exact h.elim
  obtain _ | ⟨g, F⟩ := F
  case cons => exact h.elim
  obtain ⟨w0, w1, w2, w3, w4, w5, w6, rfl, hi⟩ := h
  rw [er_clock_ArrivalOf_2]
  exact rnd_clock_ArrivalOf_2 a c _ _ _ _ _ _ _ _ _ hp hi
def con_clock_ArrivalOf : Con := fun args => match args with
 | [.t (.c (.sl 1 n_a c_a)), .t (.c (.sl 1 n_c c_c))] => some (.tu [.c (.v (.int .i64 (avV (listC n_a mkInt c_a) (listC n_c mkInt c_c)))), .c (.v (.int .i64 (avE (listC n_a mkInt c_a) (listC n_c mkInt c_c))))], some (numsP 1 n_a c_a ∧ numsP 1 n_c c_c ∧ ((listC n_a mkInt c_a)).length ≤ 1000000 ∧ ((listC n_c mkInt c_c)).length ≤ 1000000), false)
 | _ => none
theorem ok_clock_ArrivalOf : Ok Try.prog 32 con_clock_ArrivalOf := by
 refine Ok.fn (ann := ann_clock_ArrivalOf) mixed tabOK VSe73 ValidIt.no (fn := Try.f32) (by kernel_rfl) (by kernel_rfl) fit_clock_ArrivalOf fun args r pre fresh h hp => ?_
 unfold con_clock_ArrivalOf at h
 split at h
 ·rename_i n_a c_a n_c c_c
  cases h
  obtain ⟨hp0, hp1, hp⟩ := hp
  refine ⟨rfl, J_clock_ArrivalOf (listC n_a mkInt c_a) (listC n_c mkInt c_c), [.t (.c (.sl 1 ((listC n_a mkInt c_a).length) (intsC (listC n_a mkInt c_a)))), .t (.c (.sl 1 ((listC n_c mkInt c_c).length) (intsC (listC n_c mkInt c_c))))], ?_, Nat.le_of_ble_eq_true (by kernel_rfl), ?_, ?_⟩
  ·exact (LeA_cons (leT_c ((leL_int hp0))) (LeA_cons (leT_c ((leL_int hp1))) LeA_nil))
  ·rw [ev_clock_ArrivalOf]; exact spec_clock_ArrivalOf (listC n_a mkInt c_a) (listC n_c mkInt c_c) hp
  ·exact all_clock_ArrivalOf (listC n_a mkInt c_a) (listC n_c mkInt c_c) hp
 ·cases h
def Se74 : Sum := addS Se73 32 con_clock_ArrivalOf
theorem VSe74 : Valid Try.prog Se74 := Valid.add VSe73 ok_clock_ArrivalOf
def mk_ref01_Arrival_0 (a : List Int) (c : List Int) (v0_0 : Int) (v0_1 : Int) (v0_2 : Int) : DS := ⟨[some (.t (.c (.sl 1 a.length (intsC a)))), some (.t (.c (.sl 1 c.length (intsC c)))), none, none, none, some (.t (.c (.v (.int .i64 v0_0)))), some (.t (.c (.v (.int .i64 v0_1)))), some (.t (.c (.v (.int .i64 v0_2)))), none, none, none, none, none, none, none, none, none, none, none, none, none, none, none, none, none, none, none, none, none, none, none, none, none, none, none, none, none, none, none, none, none, none, none, none, none, none, none, none, none, none, none, none, none, none, none, none, none, none, none, none], [none, none, none, none, none, none, none, none, none, none, none, none, none, none, none, none, none, none, none, none, none, none, none, none, none, none, none, none, none, none, none, none, none, none, none, none, none, none, none, none, none, none, none, none, none, none, none, none, none, none, none, none, none, none, none, none, none, none, none, none]⟩
def mk_ref01_Arrival_2 (a : List Int) (c : List Int) (v2_0 : Int) (v2_1 : Int) (v2_2 : Int) (v2_3 : Int) (v2_4 : Int) : DS := ⟨[some (.t (.c (.sl 1 a.length (intsC a)))), some (.t (.c (.sl 1 c.length (intsC c)))), none, none, none, some (.t (.c (.v (.int .i64 v2_0)))), some (.t (.c (.v (.int .i64 v2_1)))), some (.t (.c (.v (.int .i64 v2_2)))), some (.t (.c (.v (.int .i64 v2_3)))), some (.t (.c (.v (.int .i64 v2_4)))), none, none, none, none, none, none, none, none, none, none, none, none, none, none, none, none, none, none, none, none, none, none, none, none, none, none, none, none, none, none, none, none, none, none, none, none, none, none, none, none, none, none, none, none, none, none, none, none, none, none], [none, none, none, none, none, none, none, none, none, none, none, none, none, none, none, none, none, none, none, none, none, none, none, none, none, none, none, none, none, none, none, none, none, none, none, none, none, none, none, none, none, none, none, none, none, none, none, none, none, none, none, none, none, none, none, none, none, none, none, none]⟩
def vc_ref01_Arrival (J : Inv) (a : List Int) (c : List Int) (post : DV → Prop) : Prop := ∃ n, J 0 (n :: []) (mk_ref01_Arrival_0 a c 0 (-1) 0)
def ann_ref01_Arrival : Ann := ⟨fun r => lookA r [(9, ([[], [], [], [], [2, 3], [1, 2, 3, 4], [1, 2, 3, 4, 5], [], [], [7, 8], [7, 8, 9], [1, 2, 3, 4, 5, 6, 7, 8, 9, 10], [], [], [], [13, 14], [12, 13, 14, 15], [12, 13, 14, 15, 16], [], [], [18, 19], [18, 19, 20], [12, 13, 14, 15, 16, 17, 18, 19, 20, 21], [1, 2, 3, 4, 5, 6, 7, 8, 9, 10, 11, 12, 13, 14, 15, 16, 17, 18, 19, 20, 21, 22], [0, 1, 2, 3, 4, 5, 6, 7, 8, 9, 10, 11, 12, 13, 14, 15, 16, 17, 18, 19, 20, 21, 22, 23], [0, 1, 2, 3, 4, 5, 6, 7, 8, 9, 10, 11, 12, 13, 14, 15, 16, 17, 18, 19, 20, 21, 22, 23, 24]], [[], [], [], [], [], [], [], [], [], [], [], [], [], [], [], [], [], [], [], [], [], [], [], [], [], []]))], fun b => lookA b [(0, (none, some ⟨[0, 1, 5, 6, 7], [], []⟩)), (2, (none, some ⟨[0, 1, 5, 6, 7, 8, 9], [], []⟩))], fun _ => [], noIt, false, fun r => lookA r [(10, (3, [56]))], fun r => lookA r [(11, [5, 6])]⟩
theorem ev_ref01_Arrival (J : Inv) (a : List Int) (c : List Int) (post : DV → Prop) : evFn Try.prog tab Se74 ann_ref01_Arrival J Try.f35 [.t (.c (.sl 1 a.length (intsC a))), .t (.c (.sl 1 c.length (intsC c)))] post = vc_ref01_Arrival J a c post := by kernel_rfl
theorem fit_ref01_Arrival : okFn ann_ref01_Arrival Try.f35 = true := by kernel_rfl
def rd_ref01_Arrival_0 (J : Inv) (a : List Int) (c : List Int) (v0_0 : Int) (v0_1 : Int) (v0_2 : Int) (nn0 : Nat) (post : DV → Prop) : Prop := lt (IntKind.i64.wrap (v0_2 + ((c.length : Nat) : Int))) fun x1 => cond (decide (x1 ≤ ((a.length : Nat) : Int))) (∃ n, J 2 (n :: nn0 :: []) (mk_ref01_Arrival_2 a c v0_0 v0_1 v0_2 0 0)) (post (.t (.c (.v (.int .i64 v0_1)))))
theorem er_ref01_Arrival_0 (J : Inv) (a : List Int) (c : List Int) (v0_0 : Int) (v0_1 : Int) (v0_2 : Int) (nn0 : Nat) (post : DV → Prop) : round Try.prog tab Se74 ann_ref01_Arrival J Try.f35 post 0 (nn0 :: []) (mk_ref01_Arrival_0 a c v0_0 v0_1 v0_2) = rd_ref01_Arrival_0 J a c v0_0 v0_1 v0_2 nn0 post := by kernel_rfl
def rd_ref01_Arrival_2 (J : Inv) (a : List Int) (c : List Int) (v2_0 : Int) (v2_1 : Int) (v2_2 : Int) (v2_3 : Int) (v2_4 : Int) (nn2 nn0 : Nat) (post : DV → Prop) : Prop := cond (decide (v2_4 < ((c.length : Nat) : Int))) (lt (IntKind.i64.wrap (v2_2 + v2_4)) fun x1 => (0 ≤ x1 ∧ x1 < ((a.length : Nat) : Int)) ∧ ((0 ≤ v2_4 ∧ v2_4 < ((c.length : Nat) : Int)) ∧ (lt (IntKind.i64.wrap ((a.getD x1.toNat 0) - (c.getD v2_4.toNat 0))) fun x2 => lt (IntKind.i64.wrap (v2_2 + v2_4)) fun x3 => (0 ≤ x3 ∧ x3 < ((a.length : Nat) : Int)) ∧ ((0 ≤ v2_4 ∧ v2_4 < ((c.length : Nat) : Int)) ∧ (lt (IntKind.i64.wrap ((a.getD x3.toNat 0) - (c.getD v2_4.toNat 0))) fun x4 => lt (IntKind.i64.wrap (x2 * x4)) fun x5 => lt (IntKind.i64.wrap (v2_3 + x5)) fun x6 => lt (IntKind.i64.wrap (v2_4 + (1 : Int))) fun x7 => J 2 (nn2 :: nn0 :: []) (mk_ref01_Arrival_2 a c v2_0 v2_1 v2_2 x6 x7)))))) ((cond (decide (v2_1 < (0 : Int))) ((true = true) ∧ (True)) (True)) ∧ (lt ((bif decide (v2_1 < (0 : Int)) then true else decide (v2_3 < v2_0))) fun x8 => (cond x8 (True) (True)) ∧ (lt ((bif x8 then v2_3 else v2_0)) fun x9 => lt ((bif x8 then v2_2 else v2_1)) fun x10 => lt (IntKind.i64.wrap (v2_2 + (1 : Int))) fun x11 => J 0 (nn0 :: []) (mk_ref01_Arrival_0 a c x9 x10 x11))))
theorem er_ref01_Arrival_2 (J : Inv) (a : List Int) (c : List Int) (v2_0 : Int) (v2_1 : Int) (v2_2 : Int) (v2_3 : Int) (v2_4 : Int) (nn2 nn0 : Nat) (post : DV → Prop) : round Try.prog tab Se74 ann_ref01_Arrival J Try.f35 post 1 (nn2 :: nn0 :: []) (mk_ref01_Arrival_2 a c v2_0 v2_1 v2_2 v2_3 v2_4) = rd_ref01_Arrival_2 J a c v2_0 v2_1 v2_2 v2_3 v2_4 nn2 nn0 post := by kernel_rfl
theorem lp_ref01_Arrival (J : Inv) (post : DV → Prop) : AllG J (loopsFn Try.prog tab Se74 ann_ref01_Arrival J Try.f35 post) = (((∀ F s, ¬ J 0 (0 :: F) s) ∧ ∀ n F s, J 0 ((n + 1) :: F) s → round Try.prog tab Se74 ann_ref01_Arrival J Try.f35 post 0 (n :: F) s) ∧ ((∀ F s, ¬ J 2 (0 :: F) s) ∧ ∀ n F s, J 2 ((n + 1) :: F) s → round Try.prog tab Se74 ann_ref01_Arrival J Try.f35 post 1 (n :: F) s) ∧ True) := by kernel_rfl
def J_ref01_Arrival (a : List Int) (c : List Int) : Inv := fun b F s => match b, F with
 | 0, [nn0] => ∃ (v0_0 : Int) (v0_1 : Int) (v0_2 : Int), s = mk_ref01_Arrival_0 a c v0_0 v0_1 v0_2 ∧ ((smE a = 0 ∧ smE c = 0 ∧ c.length ≤ a.length) ∧ 0 ≤ v0_2 ∧ v0_2 ≤ a.length - c.length + 1 ∧ a.length - c.length + 1 < (nn0 : Int) + v0_2 ∧ arS v0_0 v0_1 = arP a c v0_2.toNat)
 | 2, [nn2, nn0] => ∃ (v2_0 : Int) (v2_1 : Int) (v2_2 : Int) (v2_3 : Int) (v2_4 : Int), s = mk_ref01_Arrival_2 a c v2_0 v2_1 v2_2 v2_3 v2_4 ∧ ((smE a = 0 ∧ smE c = 0 ∧ c.length ≤ a.length) ∧ (0 ≤ v2_2 ∧ v2_2 ≤ a.length - c.length ∧ a.length - c.length + 1 < (nn0 : Int) + 1 + v2_2) ∧ (0 ≤ v2_4 ∧ v2_4 ≤ c.length ∧ (nn2 : Int) + v2_4 = c.length + 1) ∧ arS v2_0 v2_1 = arP a c v2_2.toNat ∧ v2_3 = sqK a c v2_2.toNat v2_4.toNat)
 | _, _ => False
set_option maxHeartbeats 8000000 in
set_option maxRecDepth 100000 in
theorem rnd_ref01_Arrival_0 (a : List Int) (c : List Int) (v0_0 : Int) (v0_1 : Int) (v0_2 : Int) (nn0 : Nat) (hp : avE a c = 0) (hi : (smE a = 0 ∧ smE c = 0 ∧ c.length ≤ a.length) ∧ 0 ≤ v0_2 ∧ v0_2 ≤ a.length - c.length + 1 ∧ a.length - c.length + 1 < ((nn0 + 1) : Int) + v0_2 ∧ arS v0_0 v0_1 = arP a c v0_2.toNat) : rd_ref01_Arrival_0 (J_ref01_Arrival a c) a c v0_0 v0_1 v0_2 nn0 (fun r => LeD r (.t (.c (.v (.int .i64 (avV a c)))))) := by
 obtain ⟨q, i1, i2, i3, i4⟩ := hi
 obtain ⟨k, rfl⟩ : ∃ k : Nat, v0_2 = k := ⟨v0_2.toNat, by omega⟩
 have hk : (k : Int).toNat = k := rfl
 rw [hk] at i4
 obtain ⟨a1, a2⟩ := smE_ok q.1
 obtain ⟨c1, c2⟩ := smE_ok q.2.1
 have q2 := q.2.2
 unfold rd_ref01_Arrival_0
 refine lt_i fun x1 h1 => ?_
 rw [wi (by omega)] at h1
 subst h1
 refine cond_i (fun h => ?_) (fun h => leI ?_)
 ·have h := of_decide_eq_true h
  exact ⟨c.length + 1, _, _, _, 0, 0, rfl, q, ⟨by omega, by omega, by omega⟩, ⟨by omega, by omega, by omega⟩, by rw [hk]; exact i4, rfl⟩
 ·have h := of_decide_eq_false h
  have e : avE a c = 0 := avE_of q
  rw [show avV a c = (arK a c (a.length - c.length + 1)).1 from if_pos e, show a.length - c.length + 1 = k by omega]
  exact arP_end (by omega) i4
theorem zero_ref01_Arrival_0 (a : List Int) (c : List Int) (v0_0 : Int) (v0_1 : Int) (v0_2 : Int)  (hi : (smE a = 0 ∧ smE c = 0 ∧ c.length ≤ a.length) ∧ 0 ≤ v0_2 ∧ v0_2 ≤ a.length - c.length + 1 ∧ a.length - c.length + 1 < (0 : Int) + v0_2 ∧ arS v0_0 v0_1 = arP a c v0_2.toNat) : False := by
 omega
set_option maxHeartbeats 8000000 in
set_option maxRecDepth 100000 in
theorem rnd_ref01_Arrival_2 (a : List Int) (c : List Int) (v2_0 : Int) (v2_1 : Int) (v2_2 : Int) (v2_3 : Int) (v2_4 : Int) (nn2 nn0 : Nat) (hp : avE a c = 0) (hi : (smE a = 0 ∧ smE c = 0 ∧ c.length ≤ a.length) ∧ (0 ≤ v2_2 ∧ v2_2 ≤ a.length - c.length ∧ a.length - c.length + 1 < (nn0 : Int) + 1 + v2_2) ∧ (0 ≤ v2_4 ∧ v2_4 ≤ c.length ∧ ((nn2 + 1) : Int) + v2_4 = c.length + 1) ∧ arS v2_0 v2_1 = arP a c v2_2.toNat ∧ v2_3 = sqK a c v2_2.toNat v2_4.toNat) : rd_ref01_Arrival_2 (J_ref01_Arrival a c) a c v2_0 v2_1 v2_2 v2_3 v2_4 nn2 nn0 (fun r => LeD r (.t (.c (.v (.int .i64 (avV a c)))))) := by
 obtain ⟨q, i1, i2, i5, i6⟩ := hi
 obtain ⟨k, rfl⟩ : ∃ k : Nat, v2_2 = k := ⟨v2_2.toNat, by omega⟩
 have hk : (k : Int).toNat = k := rfl
 obtain ⟨m, rfl⟩ : ∃ m : Nat, v2_4 = m := ⟨v2_4.toNat, by omega⟩
 have hm : (m : Int).toNat = m := rfl
 rw [hk] at i5
 rw [hk, hm] at i6
 obtain ⟨a1, a2⟩ := smE_ok q.1
 obtain ⟨c1, c2⟩ := smE_ok q.2.1
 have q2 := q.2.2
 unfold rd_ref01_Arrival_2
 rw [hm]
 refine cond_i (fun h => ?_) (fun h => ?_)
 ·have hlt : m < c.length := by have := of_decide_eq_true h; omega
  have b1 := a2 (k + m) (by omega)
  have b2 := c2 m hlt
  have p := mul_rg (x := a.getD (k + m) 0 - c.getD m 0) (y := a.getD (k + m) 0 - c.getD m 0) (A := 20000) (B := 20000) (C := 400000000) (by omega) (by omega) (by decide)
  have r := sqK_rg q k m (by omega)
  refine lt_i fun x1 h1 => ?_
  rw [wi (by omega)] at h1
  subst h1
  rw [show ((k : Int) + (m : Int)).toNat = k + m by omega]
  refine ⟨by omega, by omega, lt_i fun x2 h2 => lt_i fun x3 h3 => ?_⟩
  rw [wi (by omega)] at h2 h3
  subst h2 h3
  rw [show ((k : Int) + (m : Int)).toNat = k + m by omega]
  refine ⟨by omega, by omega, lt_i fun x4 h4 => lt_i fun x5 h5 => lt_i fun x6 h6 => lt_i fun x7 h7 => ?_⟩
  rw [wi (by omega)] at h4
  subst h4
  rw [wi (by omega)] at h5
  subst h5
  rw [i6, wi (by omega)] at h6
  rw [wi (by omega)] at h7
  subst h7
  refine ⟨_, _, _, _, _, rfl, q, i1, by omega, by rw [hk]; exact i5, ?_⟩
  rw [show ((m : Int) + 1).toNat = m + 1 by omega, hk, ← h6]
  rfl
 ·have h := of_decide_eq_false h
  have em : m = c.length := by omega
  rw [em] at i6
  refine ⟨cond_i (fun _ => ⟨rfl, trivial⟩) (fun _ => trivial), lt_i fun x8 h8 => ⟨cond_i (fun _ => trivial) (fun _ => trivial), lt_i fun x9 h9 => lt_i fun x10 h10 => lt_i fun x11 h11 => ?_⟩⟩
  rw [wi (by omega)] at h11
  subst h11
  refine ⟨_, _, _, rfl, q, by omega, by omega, by omega, ?_⟩
  rw [show ((k : Int) + 1).toNat = k + 1 by omega]
  have r := sqK_rg q k c.length (Nat.le_refl _)
  have st := arP_step (k := k) (fun j => (sqK_rg q j c.length (Nat.le_refl _)).1) i5
  rw [← i6] at st
  rw [← h9, ← h10, ← h8]
  by_cases g1 : v2_1 < 0
  ·rw [decide_eq_true g1]; rw [if_pos (Or.inl g1)] at st; exact st
  ·rw [decide_eq_false g1]
   by_cases g2 : v2_3 < v2_0
   ·rw [decide_eq_true g2]; rw [if_pos (Or.inr g2)] at st; exact st
   ·rw [decide_eq_false g2]; rw [if_neg (fun q => q.elim g1 g2)] at st; exact st
theorem zero_ref01_Arrival_2 (a : List Int) (c : List Int) (v2_0 : Int) (v2_1 : Int) (v2_2 : Int) (v2_3 : Int) (v2_4 : Int) (nn0 : Nat) (hi : (smE a = 0 ∧ smE c = 0 ∧ c.length ≤ a.length) ∧ (0 ≤ v2_2 ∧ v2_2 ≤ a.length - c.length ∧ a.length - c.length + 1 < (nn0 : Int) + 1 + v2_2) ∧ (0 ≤ v2_4 ∧ v2_4 ≤ c.length ∧ (0 : Int) + v2_4 = c.length + 1) ∧ arS v2_0 v2_1 = arP a c v2_2.toNat ∧ v2_3 = sqK a c v2_2.toNat v2_4.toNat) : False := by
 omega
set_option maxHeartbeats 8000000 in
set_option maxRecDepth 100000 in
theorem spec_ref01_Arrival (a : List Int) (c : List Int) (hp : avE a c = 0) : vc_ref01_Arrival (J_ref01_Arrival a c) a c (fun r => LeD r (.t (.c (.v (.int .i64 (avV a c)))))) := by
 unfold vc_ref01_Arrival
 have h0 := avE_ok hp
 exact ⟨a.length + 3, 0, -1, 0, rfl, h0, by omega, by omega, by omega, rfl⟩
theorem all_ref01_Arrival (a : List Int) (c : List Int) (hp : avE a c = 0) : AllG (J_ref01_Arrival a c) (loopsFn Try.prog tab Se74 ann_ref01_Arrival (J_ref01_Arrival a c) Try.f35 (fun r => LeD r (.t (.c (.v (.int .i64 (avV a c))))))) := by
 rw [lp_ref01_Arrival]
 refine ⟨⟨?_, ?_⟩, ⟨?_, ?_⟩, trivial⟩
 ·intro F s h
  obtain _ | ⟨g, F⟩ := F
  case cons => exact h.elim
  obtain ⟨w0, w1, w2, rfl, hi⟩ := h
  exact zero_ref01_Arrival_0 a c w0 w1 w2 hi
 ·intro n F s h
  obtain _ | ⟨g, F⟩ := F
  case cons => exact h.elim
  obtain ⟨w0, w1, w2, rfl, hi⟩ := h
  rw [er_ref01_Arrival_0]
  exact rnd_ref01_Arrival_0 a c _ _ _ _ hp hi
 ·intro F s h
  obtain _ | ⟨f0, F⟩ := F
  ·exact h.elim
  obtain _ | ⟨g, F⟩ := F
  case cons => exact h.elim
  obtain ⟨w0, w1, w2, w3, w4, rfl, hi⟩ := h
  exact zero_ref01_Arrival_2 a c w0 w1 w2 w3 w4 _ hi
 ·intro n F s h
  obtain _ | ⟨f0, F⟩ := F
  ·exact h.elim
  obtain _ | ⟨g, F⟩ := F
  case cons => exact h.elim
  obtain ⟨w0, w1, w2, w3, w4, rfl, hi⟩ := h
  rw [er_ref01_Arrival_2]
  exact rnd_ref01_Arrival_2 a c _ _ _ _ _ _ _ hp hi
def con_ref01_Arrival : Con := fun args => match args with
 | [.t (.c (.sl 1 n_a c_a)), .t (.c (.sl 1 n_c c_c))] => some (.t (.c (.v (.int .i64 (avV (listC n_a mkInt c_a) (listC n_c mkInt c_c))))), some (numsP 1 n_a c_a ∧ numsP 1 n_c c_c ∧ avE (listC n_a mkInt c_a) (listC n_c mkInt c_c) = 0), false)
 | _ => none
theorem ok_ref01_Arrival : Ok Try.prog 35 con_ref01_Arrival := by
 refine Ok.fn (ann := ann_ref01_Arrival) mixed tabOK VSe74 ValidIt.no (fn := Try.f35) (by kernel_rfl) (by kernel_rfl) fit_ref01_Arrival fun args r pre fresh h hp => ?_
 unfold con_ref01_Arrival at h
 split at h
 ·rename_i n_a c_a n_c c_c
  cases h
  obtain ⟨hp0, hp1, hp⟩ := hp
  refine ⟨rfl, J_ref01_Arrival (listC n_a mkInt c_a) (listC n_c mkInt c_c), [.t (.c (.sl 1 ((listC n_a mkInt c_a).length) (intsC (listC n_a mkInt c_a)))), .t (.c (.sl 1 ((listC n_c mkInt c_c).length) (intsC (listC n_c mkInt c_c))))], ?_, Nat.le_of_ble_eq_true (by kernel_rfl), ?_, ?_⟩
  ·exact (LeA_cons (leT_c ((leL_int hp0))) (LeA_cons (leT_c ((leL_int hp1))) LeA_nil))
  ·rw [ev_ref01_Arrival]; exact spec_ref01_Arrival (listC n_a mkInt c_a) (listC n_c mkInt c_c) hp
  ·exact all_ref01_Arrival (listC n_a mkInt c_a) (listC n_c mkInt c_c) hp
 ·cases h
def Se75 : Sum := addS Se74 35 con_ref01_Arrival
theorem VSe75 : Valid Try.prog Se75 := Valid.add VSe74 ok_ref01_Arrival
end Go.Proofs.Ytkifmfmenobhnaa
set_option linter.unusedVariables false
set_option linter.unusedSimpArgs false
namespace Go.Proofs.Ytkifmfmenobhnaa
open Go.RowKit Ev
def erY (l : List Lp) (i : Nat) : List TV := [.a [.v (.int .i64 (erF l i)), .v (.int .i64 (erT l i))], .c (.v (.int .i64 (erS l i)))]
def lpsOk (l : List Lp) : Prop := l.length ≤ 10 ∧ ∀ k, k < l.length → (0 ≤ (lppAt l k).tick ∧ (lppAt l k).tick ≤ 1000000000000) ∧ -1000000 ≤ (lppAt l k).step ∧ (lppAt l k).step ≤ 1000000
theorem lpAll_snoc (l : List Lp) (x : Lp) : lpAll (l ++ [x]) = lpAll l + x.step := by
 induction l with
 | nil => simp [lpAll]
 | cons y l ih => simp only [List.cons_append, lpAll, ih]; omega
theorem erS_succ {l : List Lp} {k : Nat} (h : k < l.length) : erS l (k + 1) = erS l k + (lppAt l k).step := by
 unfold erS; rw [lppAt_take h, lpAll_snoc]
theorem erS_rg {l : List Lp} (h : lpsOk l) : ∀ k, k ≤ l.length → -(1000000 * (k : Int)) ≤ erS l k ∧ erS l k ≤ 1000000 * k := by
 intro k
 induction k with
 | zero => intro _; simp [erS, lpAll]
 | succ k ih =>
  intro hk
  have h1 := ih (by omega)
  have h2 := (h.2 k (by omega)).2
  rw [erS_succ (by omega)]
  omega
set_option maxRecDepth 100000 in
set_option maxHeartbeats 2000000 in
theorem seq_eras (w : World) (N : Nat → Prop) (vs : List Value) (l : List Lp) (hl : lpsOk l)
  (hv : All2 (RelF w N) [.px 1 0 (boxC [.sl 2 l.length (lppsC l)])] vs) :
  SeqIt Try.prog 125 #[] vs.toArray (l.length + 1) (fun i => ((erY l i).map tvVal).toArray) (KpI w N (some 130)) w := by
 intro ly J Jx W hb hJ hJx hgJ hgX hY h0
 refine callsIn_of_wp Try.func125 rfl trivial ?_ rfl
 obtain ⟨v0, us0, rfl, r0, hv0⟩ := hv.cons_inv
 obtain rfl := hv0.nil_inv
 obtain ⟨b0, o0, rfl, hb0, hN0, hc0⟩ := r0
 obtain ⟨x, hx, hx2⟩ := hc0 0 (by omega)
 obtain ⟨ao, cap, rfl, hcap, hmx, hnil, hcells⟩ := hx2
 rw [Nat.add_zero] at hx ⊢
 have hxW : W.cell? ⟨b0, o0, none⟩ = some (.slice ao l.length cap) := (World.cell?_of_block (w := w) (a := ⟨b0, o0, none⟩) (hb.block b0 hb0)).trans hx
 simp only [Try.ntmps125, List.size_toArray, List.length_cons, List.length_nil, Nat.reduceAdd, Nat.reduceSub, Array.replicate_succ, Array.replicate_zero, List.push_toArray, List.append_toArray, List.nil_append, List.cons_append]
 have hW := hb.size
 have hcells : ∀ k, k < l.length → ∃ b off, ao = some ⟨b, off, none⟩ ∧ b < w.heap.size ∧ N b ∧ w.cell? ⟨b, off + k * 2, none⟩ = some (.int .i64 (lppAt l k).tick) ∧ w.cell? ⟨b, off + k * 2 + 1, none⟩ = some (.int .i64 (lppAt l k).step) := by
  intro k hk
  obtain ⟨b, off, e1, e2, e3, e4⟩ := hcells (by omega)
  obtain ⟨x, x1, x2⟩ := e4 k 0 hk (by omega)
  obtain ⟨y, y1, y2⟩ := e4 k 1 hk (by omega)
  obtain ⟨rfl, _⟩ := x2
  obtain ⟨rfl, _⟩ := y2
  exact ⟨b, off, e1, e2, e3, x1, y1⟩
 have HC := hid hcells
 have HY := hid hY
 have HL := hid hl
 have HJ := hid hJ
 have HG := hid hgJ
 clear hcells hY hJ hgJ hgX hJx hc0 hv0 hcap hmx hnil hv hl hx
 gi_wp2
 gi_loopw [3, 4, 9] (fun f s i wr => ∃ k : Nat, k ≤ l.length ∧ i = .int .i64 k ∧ f = .int .i64 (erF l k) ∧ s = .int .i64 (erS l k) ∧ J k wr ∧ W.heap.size ≤ wr.heap.size ∧ Hid (∀ b, b < w.heap.size → N b → wr.heap[b]? = W.heap[b]?)) (fun _ _ i _ => l.length - (intOf i).toNat)
 case atStart => exact ⟨0, Nat.zero_le _, rfl, rfl, rfl, h0, Nat.le_refl _, hid fun b hb0 _ => rfl⟩
 case round =>
  obtain ⟨k, hk, rfl, rfl, rfl, hJs, hsz, HK⟩ := hrel
  by_cases hlt : k < l.length
  ·obtain ⟨b, off, rfl, hb1, hN1, hc, hd⟩ := HC.out k hlt
   have hcx : wr.cell? ⟨b, off + k * 2, none⟩ = some (.int .i64 (lppAt l k).tick) := (World.cell?_of_block (w := w) (a := ⟨b, off + k * 2, none⟩) ((HK.out b hb1 hN1).trans (hb.block b hb1))).trans hc
   have hdx : wr.cell? ⟨b, off + k * 2 + 1, none⟩ = some (.int .i64 (lppAt l k).step) := (World.cell?_of_block (w := w) (a := ⟨b, off + k * 2 + 1, none⟩) ((HK.out b hb1 hN1).trans (hb.block b hb1))).trans hd
   clear hc hd
   obtain ⟨⟨s1, s2⟩, s3, s4⟩ := HL.out.2 k hlt
   obtain ⟨t, et⟩ : ∃ t, t = (lppAt l k).tick := ⟨_, rfl⟩
   obtain ⟨s, es⟩ : ∃ s, s = (lppAt l k).step := ⟨_, rfl⟩
   rw [← et] at hcx s1 s2
   rw [← es] at hdx s3 s4
   have het := hid et
   have hes := hid es
   clear et es
   have hT1 : erT l k = t - 1 := by unfold erT; rw [if_pos hlt, het.out]
   have hF1 : erF l (k + 1) = t := by unfold erF; rw [if_neg (by omega), het.out]; rfl
   have hS1 : erS l (k + 1) = erS l k + s := by rw [erS_succ hlt, hes.out]
   have hSr := erS_rg HL.out k hk
   obtain ⟨W2, hW2⟩ : ∃ W2, wr.alloc (Obj.cells #[Value.int IntKind.i64 t, Value.int IntKind.i64 s] 130) = W2 := ⟨_, rfl⟩
   have hJ1 : J k W2 := by rw [← hW2]; exact HJ.out k wr _ none hJs (below_grown ((Below.refl _ _).alloc (Nat.le_refl _) _)) (fun r e => by cases e)
   have hnew : W2.heap[wr.heap.size]? = some (Obj.cells #[Value.int IntKind.i64 t, Value.int IntKind.i64 s] 130) := by rw [← hW2]; exact World.alloc_heap_new wr _
   have hsz2 : W2.heap.size = wr.heap.size + 1 := by rw [← hW2]; simp
   have hkp2 : ∀ b, b < w.heap.size → N b → W2.heap[b]? = W.heap[b]? := fun b hb0 hN0 => by rw [← hW2, Below.heap_alloc _ _ _ (by omega)]; exact HK.out b hb0 hN0
   obtain ⟨fn, tmps, assign, body, hy, hR⟩ := HY.out k W2 (by omega) hJ1
   have hk10 := HL.out.1
   have HWK : Hid (wrap64 ((k : Int) + 1) = (k : Int) + 1) := hid (IntWalk.wrap64_in _ (by omega))
   have HMS : Hid (l.length - (intOf (Value.int .i64 ((k : Int) + 1))).toNat < l.length - (intOf (Value.int .i64 (k : Int))).toNat) := hid (by simp only [intOf]; omega)
   have HSZ : Hid (∀ W3 : World, W2.heap.size ≤ W3.heap.size → W.heap.size ≤ W3.heap.size) := hid fun W3 h => by omega
   clear hk10
   have HT1 := hid hT1
   have HF1 := hid hF1
   have HS1 := hid hS1
   have HKP := hid hkp2
   have HN := hid hnew
   have hy : (Instr.yield ly #[Value.agg #[Value.int IntKind.i64 (erF l k), Value.int IntKind.i64 (t - 1)], Value.int IntKind.i64 (erS l k)]).run Try.prog (wr.alloc (Obj.cells #[Value.int IntKind.i64 t, Value.int IntKind.i64 s] 130)) = .ok (.round ly fn tmps assign body) (wr.alloc (Obj.cells #[Value.int IntKind.i64 t, Value.int IntKind.i64 s] 130)) := by
    rw [← HT1.out, hW2]; exact hy
   have HW2 := hid hW2
   clear hT1 hF1 hS1 hkp2 hnew hW2
   gi_wp2
   rw [HW2.out]
   refine ⟨rfl, hR.mono ?_⟩
   rintro e W3 (⟨rfl, hJ3, ⟨hs3, hk3⟩, hty3⟩ | ⟨rfl, hJx3⟩)
   ·have h3 := (hty3 wr.heap.size _ _ HN.out).trans HN.out
    have c0 : W3.cell? ⟨wr.heap.size, 0, none⟩ = some (.int .i64 t) := by simp [World.cell?, show W3.heap[wr.heap.size]? = _ from h3]
    have c1 : W3.cell? ⟨wr.heap.size, 1, none⟩ = some (.int .i64 s) := by simp [World.cell?, show W3.heap[wr.heap.size]? = _ from h3]
    have hw : wrap64 (erS l k + s) = erS l k + s := IntWalk.wrap64_in _ (by have := HL.out.1; omega)
    have HK3 := hid hk3
    clear h3 hk3 hty3 HN
    gi_wp2
    gi_region
    gi_wp2
    go_roundw
    case rel =>
     refine ⟨k + 1, hlt, by rw [HWK.out]; simp, by rw [HF1.out], by rw [HS1.out, hw], HJ.out (k + 1) W3 _ none hJ3 (below_grown ((Below.refl _ _).drew)) (fun r e => by cases e), ?_, hid fun b0 hb0 hN0 => ?_⟩
     ·exact HSZ.out W3 hs3
     ·show W3.heap[b0]? = W.heap[b0]?
      rw [HK3.out b0 hb0 hN0, HKP.out b0 hb0 hN0]
    case measure =>
     rw [HWK.out]
     exact HMS.out
   ·gi_wp2
    refine bodyPost_ret (results_none rfl _ _ _) rfl ?_
    exact ⟨⟨_, rfl⟩, .inr hJx3⟩
  ·obtain rfl : k = l.length := by omega
   have hT1 : erT l l.length = 1000000000000 := by unfold erT; rw [if_neg (by omega)]
   obtain ⟨fn, tmps, assign, body, hy, hR⟩ := HY.out l.length wr (by omega) hJs
   have HT1 := hid hT1
   have hy : (Instr.yield ly #[Value.agg #[Value.int IntKind.i64 (erF l l.length), Value.int IntKind.i64 1000000000000], Value.int IntKind.i64 (erS l l.length)]).run Try.prog wr = .ok (.round ly fn tmps assign body) wr := by
    rw [← HT1.out]; exact hy
   clear hT1
   gi_wp2
   refine ⟨rfl, hR.mono ?_⟩
   rintro e W3 (⟨rfl, hJ3, ⟨hs3, hk3⟩, hty3⟩ | ⟨rfl, hJx3⟩)
   ·gi_wp2
    go_end0
    exact ⟨⟨_, rfl⟩, .inl hJ3⟩
   ·gi_wp2
    go_end0
    exact ⟨⟨_, rfl⟩, .inr hJx3⟩
end Go.Proofs.Ytkifmfmenobhnaa
set_option linter.unusedVariables false
set_option linter.unusedSimpArgs false
namespace Go.Proofs.Ytkifmfmenobhnaa
open Go.RowKit
def KeepB (G : List Nat) (W wc : World) : Prop := ∀ g ∈ G, g < wc.heap.size ∧ wc.heap[g]? = W.heap[g]?
theorem KeepB.refl {G : List Nat} {W : World} (h : ∀ g ∈ G, g < W.heap.size) : KeepB G W W := fun g hg => ⟨h g hg, rfl⟩
theorem KeepB.drew {G : List Nat} {W w : World} (h : KeepB G W w) : KeepB G W w.drew := fun g hg => h g hg
theorem KeepB.below {G : List Nat} {W w w' : World} (h : KeepB G W w) (hb : Below w.heap.size w w') : KeepB G W w' := fun g hg => ⟨Nat.lt_of_lt_of_le (h g hg).1 hb.size, (hb.block g (h g hg).1).trans (h g hg).2⟩
theorem KeepB.alloc {G : List Nat} {W w : World} (h : KeepB G W w) (o : Obj) : KeepB G W (w.alloc o) := KeepB.below h ((Below.refl _ _).alloc (Nat.le_refl _) o)
theorem heap_setCell_ne (w : World) (g k off : Nat) (v : Value) (h : g ≠ k) : (w.setCell ⟨k, off, none⟩ v).heap[g]? = w.heap[g]? := heap_setCell_other w ⟨k, off, none⟩ g v h
theorem KeepB.setCell {G : List Nat} {W w : World} {k off : Nat} {v : Value} (h : KeepB G W w) (hk : ∀ g ∈ G, g ≠ k) : KeepB G W (w.setCell ⟨k, off, none⟩ v) := fun g hg => by
 rw [World.size_setCell, heap_setCell_ne _ _ _ _ _ (hk g hg)]; exact h g hg
theorem KeepB.cell {G : List Nat} {W w : World} (h : KeepB G W w) {g off : Nat} (hg : g ∈ G) : w.cell? ⟨g, off, none⟩ = W.cell? ⟨g, off, none⟩ := by
 simp only [World.cell?, (h g hg).2]
section
variable {P : Program} {md : Region.Mode} {ops : Array Oper} {Q : Exit → Act → World → Prop} {C : World → Prop}
end
end Go.Proofs.Ytkifmfmenobhnaa
set_option linter.unusedVariables false
set_option linter.unusedSimpArgs false
namespace Go.Proofs.Ytkifmfmenobhnaa
open Go.RowKit
section
variable {P : Program} {md : Region.Mode} {ops : Array Oper} {Q : Exit → Act → World → Prop} {C : World → Prop}
end
end Go.Proofs.Ytkifmfmenobhnaa
set_option linter.unusedVariables false
set_option linter.unusedSimpArgs false
namespace Go.Proofs.Ytkifmfmenobhnaa
open Go.RowKit
theorem quiet_min {P : Program} {o : Oper} {a : Act} {C : World → Prop} {K : Act → Prop} {x y : Operand} {ts : Array TypeId} {m n r : Int} (ho : o.op = .call { callee := .builtin .min, args := #[x, y], argTypes := ts }) (hx : a.eval x = .int .i64 m) (hy : a.eval y = .int .i64 n)
  (hr : min m n = r) (hK : K (a.put o.dst (.int .i64 r))) : o.quiet P a C K :=
 quiet_val _ (fun w _ => by
  subst hr
  unfold execOp
  simp only [ho, resolve, invoke, builtin, Sem.run_bind, Sem.run_pure, Result.andThen_ok, List.map_toArray, List.map_cons, List.map_nil, hx, hy]
  simp [Builtin.min_, Builtin.min2, go_sem, Int.min_def]
  try (split <;> simp_all <;> omega)) hK
section
variable {P : Program} {md : Region.Mode} {ops : Array Oper} {Q : Exit → Act → World → Prop} {C : World → Prop}
end
end Go.Proofs.Ytkifmfmenobhnaa