/- Texts of this claim, together. -/
import Derived.Test.YtfadkjcfjkmalaaGreatDoorLT8

set_option maxRecDepth 100000
set_option linter.unusedVariables false
set_option linter.unusedSimpArgs false
namespace Go.Proofs.YtfadkjcfjkmalaaGreatDoor
open Go.RowKit Ev
def dotW (s t : V3) : Int := IntKind.i64.wrap (IntKind.i64.wrap (IntKind.i64.wrap (s.x * t.x) + IntKind.i64.wrap (s.y * t.y)) + IntKind.i64.wrap (s.z * t.z))
theorem qhw {s t : V3} {A B : Int} (hs : s.inS A = true) (ht : t.inS B = true) (h : A * B ≤ 1000000000000000000) : dotW s t = s.dot t := by
 obtain ⟨a1, a2, a3⟩ := qn.1 hs
 obtain ⟨b1, b2, b3⟩ := qn.1 ht
 have m1 := qv a1 b1 h
 have m2 := qv a2 b2 h
 have m3 := qv a3 b3 h
 unfold dotW V3.dot
 rw [wi (n := s.x * t.x) (by omega), wi (n := s.y * t.y) (by omega), wi (n := s.z * t.z) (by omega), wi (n := s.x * t.x + s.y * t.y) (by omega), wi (by omega)]
theorem fz2 {x : Int} : qd [0, x] = x := by
 simp only [qd]
 by_cases h : x = 0 <;> simp [h]
theorem fz3 {a b c : Int} (h : qd [a, b] ≠ 0) : qd [a, qd [b, c]] = qd [a, b] := by
 simp only [qd] at h ⊢
 by_cases h1 : a = 0 <;> by_cases h2 : b = 0 <;> simp_all
theorem wri {n : Int} (h : -9000000000000000000 ≤ n ∧ n ≤ 9000000000000000000) : wr n = n := wi h
theorem slow_wi {m : TM} (ho : m.Ok) : wr (wr (m.li * m.tk) * m.tk) = m.slow := by
 have k1 := ho.tk; have k2 := ho.li
 have k3 := qv (x := m.li) (y := m.tk) (A := 100) (B := 20) (C := 2000) (by omega) (by omega) (by decide)
 have k4 := qv (x := m.li * m.tk) (y := m.tk) (A := 2000) (B := 20) (C := 40000) k3 (by omega) (by decide)
 have s1 : wr (m.li * m.tk) = m.li * m.tk := wi (by omega)
 rw [s1]
 exact wi (by omega)
theorem dotW_sm {s t : V3} (h : s.sm t) : dotW s t = s.dot t := by
 unfold V3.sm at h
 obtain ⟨m1, m2, m3⟩ := h
 unfold dotW V3.dot
 rw [wi (n := s.x * t.x) (by omega), wi (n := s.y * t.y) (by omega), wi (n := s.z * t.z) (by omega), wi (n := s.x * t.x + s.y * t.y) (by omega), wi (by omega)]
theorem sm_in20 {s : V3} (h : s.inS 20 = true) : s.sm s := by
 have h1 := qge h h (by omega) (by omega)
 unfold V3.sm; omega
theorem numsP3 {a b c : CV} {x y z : Int} (ha : a = .v (.int .i64 x)) (hb : b = .v (.int .i64 y)) (hc : c = .v (.int .i64 z)) : qj 1 3 (fun i j => boxC [a, b, c] (0 + i * 1 + j)) := by
 subst ha hb hc
 intro i j hi hj
 obtain rfl : j = 0 := by omega
 rcases (by omega : i = 0 ∨ i = 1 ∨ i = 2) with rfl | rfl | rfl <;> rfl
def q9o (a b c : Int) (post : DV → Prop) : Prop := cond (decide (b ≤ a)) (post (.t (.c (.v (.bool (decide (a ≤ c))))))) ((false = false) ∧ (post (.t (.c (.v (.bool false))))))
def An (a : Nat → Option (Clo × List (List Nat))) (b : Nat → Option (Option Nat × Option Hd)) : Ann := ⟨a, b, fun _ => [], noIt, false, fun _ => none, fun _ => none⟩
def qfe : Ann := An (fun _ => none) fun _ => none
theorem qe4 (a b c : Int) : q9o a b c (fun r => LeD r (.t (.c (.v (.bool (inB a b c)))))) := by
 unfold q9o
 refine qg (fun h => leB ?_) (fun h => ⟨rfl, leB ?_⟩)
 ·unfold inB; rw [h]; rfl
 ·unfold inB; rw [h]; rfl
def q4Z : Con := fun args => match args with
 | [.t (.c (.v (.int .i64 a))), .t (.c (.v (.int .i64 b))), .t (.c (.v (.int .i64 c)))] => some (.t (.c (.v (.bool (inB a b c)))), none, false)
 | _ => none
theorem qgk : Ok Tryz.prog 62 q4Z := by
 refine Ok.fn (ann := qfe) mixed qo Valid.no ValidIt.no (fn := Tryz.f62) (by kernel_rfl) (by kernel_rfl) (by kernel_rfl) fun args r pre fresh h hp => ?_
 unfold q4Z at h
 split at h
 ·rename_i a b c
  cases h
  refine ⟨rfl, fun _ _ _ => False, _, LeA.refl _, Nat.le_of_ble_eq_true (by kernel_rfl), ?_, ?_⟩
  ·exact cast (by kernel_rfl) (qe4 a b c)
  ·exact cast (by kernel_rfl) trivial
 ·cases h
def Skp1 : Sum := addS noS 62 q4Z
theorem VSkp1 : Valid Tryz.prog Skp1 := Valid.add Valid.no qgk
def q9p (b : Bool) (n : Int) (post : DV → Prop) : Prop := cond b (post (.t (.c (.v (.int .i64 0))))) (post (.t (.c (.v (.int .i64 n)))))
def qff : Ann := An (fun _ => none) fun _ => none
theorem qe5 (b : Bool) (n : Int) : q9p b n (fun r => LeD r (.t (.c (.v (.int .i64 (unl b n)))))) := by
 unfold q9p
 exact qg (fun h => leI (by rw [h]; rfl)) (fun h => leI (by rw [h]; rfl))
def q5a : Con := fun args => match args with
 | [.t (.c (.v (.bool b))), .t (.c (.v (.int .i64 n)))] => some (.t (.c (.v (.int .i64 (unl b n)))), none, false)
 | _ => none
theorem qgl : Ok Tryz.prog 55 q5a := by
 refine Ok.fn (ann := qff) mixed qo VSkp1 ValidIt.no (fn := Tryz.f55) (by kernel_rfl) (by kernel_rfl) (by kernel_rfl) fun args r pre fresh h hp => ?_
 unfold q5a at h
 split at h
 ·rename_i b n
  cases h
  refine ⟨rfl, fun _ _ _ => False, _, LeA.refl _, Nat.le_of_ble_eq_true (by kernel_rfl), ?_, ?_⟩
  ·exact cast (by kernel_rfl) (qe5 b n)
  ·exact cast (by kernel_rfl) trivial
 ·cases h
def Skp2 : Sum := addS Skp1 55 q5a
theorem VSkp2 : Valid Tryz.prog Skp2 := Valid.add VSkp1 qgl
def q5b (l : List Int) (v0_0 : Int) : DS := ⟨[none, none, none, none, none, some (.t (.c (.sl 1 l.length (q2f l)))), some (.t (.c (.v (.int .i64 ((l.length : Nat) : Int))))), some (.t (.c (.v (.int .i64 v0_0)))), none, none, none, none, none, none, none], [none, none, none, none, none, none, none, none, none, none, none, none, none, none, none]⟩
def qaj (J : Inv) (l : List Int) (post : DV → Prop) : Prop := ∃ n, J 0 (n :: []) (q5b l 0)
def q3I : Ann := ⟨fun _ => none, fun b => qr b [(0, (none, some ⟨[5, 6, 7], [], []⟩))], fun _ => [], noIt, false, fun _ => none, fun _ => none⟩
def q8r (J : Inv) (l : List Int) (v0_0 : Int) (nn0 : Nat) (post : DV → Prop) : Prop := cond (decide (v0_0 < ((l.length : Nat) : Int))) ((0 ≤ v0_0 ∧ v0_0 < ((l.length : Nat) : Int)) ∧ (cond ((l.getD v0_0.toNat 0) != (0 : Int)) (post (.t (.c (.v (.int .i64 (l.getD v0_0.toNat 0)))))) (lt (IntKind.i64.wrap (v0_0 + (1 : Int))) fun x1 => J 0 (nn0 :: []) (q5b l x1)))) (post (.t (.c (.v (.int .i64 0)))))
theorem qhx (J : Inv) (post : DV → Prop) : AllG J (qz Tryz.prog tab Skp2 q3I J Tryz.f54 post) = (((∀ F s, ¬ J 0 (0 :: F) s) ∧ ∀ n F s, J 0 ((n + 1) :: F) s → round Tryz.prog tab Skp2 q3I J Tryz.f54 post 0 (n :: F) s) ∧ True) := by kernel_rfl
def q3p (l : List Int) : Inv := fun b F s => match b, F with
 | 0, [nn0] => ∃ (v0_0 : Int), s = q5b l v0_0 ∧ (0 ≤ v0_0 ∧ v0_0 ≤ l.length ∧ (nn0 : Int) + v0_0 = l.length + 1 ∧ ∀ j : Nat, (j : Int) < v0_0 → l.getD j 0 = 0)
 | _, _ => False
theorem qe6 (l : List Int) (v0_0 : Int) (nn0 : Nat) (hp : (l).length ≤ 100) (hi : 0 ≤ v0_0 ∧ v0_0 ≤ l.length ∧ ((nn0 + 1) : Int) + v0_0 = l.length + 1 ∧ ∀ j : Nat, (j : Int) < v0_0 → l.getD j 0 = 0) : q8r (q3p l) l v0_0 nn0 (fun r => LeD r (.t (.c (.v (.int .i64 (qd l)))))) := by
 obtain ⟨i1, i2, i3, i4⟩ := hi
 obtain ⟨k, rfl⟩ : ∃ k : Nat, v0_0 = k := ⟨v0_0.toNat, by omega⟩
 have hk : (k : Int).toNat = k := rfl
 unfold q8r
 rw [hk]
 have el : qd l = scan (fun i => l.getD i 0) l.length := by
  unfold scan
  congr 1
  apply List.ext_getElem?
  intro i
  by_cases hi : i < l.length
  ·simp [hi, List.getD]
  ·rw [List.getElem?_eq_none (by omega), List.getElem?_eq_none (by simpa using hi)]
 refine qg (fun h => ⟨by have := of_decide_eq_true h; omega, qg (fun e => leI ?_) (fun e => lt_i fun x hx => ?_)⟩) (fun h => leI ?_)
 ·have h := of_decide_eq_true h
  rw [el, q8d (k := k) (fun j hj => i4 j (by omega)) (by omega) (by simpa using e)]
 ·have h := of_decide_eq_true h
  rw [IntWalk.i64_in _ (by have := l.length; omega)] at hx
  subst hx
  refine ⟨_, rfl, by omega, by omega, by omega, fun j hj => ?_⟩
  by_cases q : j = k
  ·rw [q]; simpa using e
  ·exact i4 j (by omega)
 ·have h := of_decide_eq_false h
  rw [el, q3T fun j hj => i4 j (by omega)]
theorem qfg (l : List Int) (hp : (l).length ≤ 100) : qaj (q3p l) l (fun r => LeD r (.t (.c (.v (.int .i64 (qd l)))))) := by
 unfold qaj
 exact ⟨l.length + 1, 0, rfl, by omega, by omega, by omega, fun j hj => by omega⟩
theorem qgm (l : List Int) (hp : (l).length ≤ 100) : AllG (q3p l) (qz Tryz.prog tab Skp2 q3I (q3p l) Tryz.f54 (fun r => LeD r (.t (.c (.v (.int .i64 (qd l))))))) := by
 rw [qhx]
 refine ⟨⟨?_, ?_⟩, trivial⟩
 ·intro F s h
  obtain _ | ⟨g, F⟩ := F
  case cons => exact h.elim
  obtain ⟨w0, rfl, hi⟩ := h
  omega
 ·intro n F s h
  obtain _ | ⟨g, F⟩ := F
  case cons => exact h.elim
  obtain ⟨w0, rfl, hi⟩ := h
  exact cast (by kernel_rfl) (qe6 l _ _ hp hi)
def q5N : Con := fun args => match args with
 | [.t (.c (.sl 1 n_l c_l))] => some (.t (.c (.v (.int .i64 (qd (qa n_l qF c_l))))), some (qj 1 n_l c_l ∧ ((qa n_l qF c_l)).length ≤ 100), false)
 | _ => none
theorem qhy : Ok Tryz.prog 54 q5N := by
 refine Ok.fn (ann := q3I) mixed qo VSkp2 ValidIt.no (fn := Tryz.f54) (by kernel_rfl) (by kernel_rfl) (by kernel_rfl) fun args r pre fresh h hp => ?_
 unfold q5N at h
 split at h
 ·rename_i n_l c_l
  cases h
  obtain ⟨hp0, hp⟩ := hp
  refine ⟨rfl, q3p (qa n_l qF c_l), _, (qk (leT_c ((q6C hp0))) qM), Nat.le_of_ble_eq_true (by kernel_rfl), ?_, ?_⟩
  ·exact cast (by kernel_rfl) (qfg (qa n_l qF c_l) hp)
  ·exact qgm (qa n_l qF c_l) hp
 ·cases h
def Skp3 : Sum := addS Skp2 54 q5N
theorem VSkp3 : Valid Tryz.prog Skp3 := Valid.add VSkp2 qhy
def q4L (n k : Int) (post : DV → Prop) : Prop := lt (IntKind.i64.wrap ((0 : Int) - k)) fun x1 => post (.t (.c (.v (.bool (!(inB n x1 k))))))
def q8X : Ann := An (fun _ => none) fun _ => none
theorem q8s (n k : Int) (hp : 0 ≤ k ∧ k ≤ 100000) : q4L n k (fun r => LeD r (.t (.c (.v (.bool (!inB n (-k) k)))))) := by
 unfold q4L
 refine lt_i fun x hx => leB ?_
 rw [wi (by omega)] at hx
 rw [← hx, Int.zero_sub]
def q1X : Con := fun args => match args with
 | [.t (.c (.v (.int .i64 n))), .t (.c (.px 1 0 c_q))] => some (.t (.c (.v (.bool (!inB n (-(qb (c_q 0))) (qb (c_q 0)))))), some (qQ [0] c_q = true ∧ 0 ≤ (qb (c_q 0)) ∧ (qb (c_q 0)) ≤ 100000), false)
 | _ => none
theorem q9Q : Ok Tryz.prog 116 q1X := by
 refine Ok.fn (ann := q8X) mixed qo VSkp3 ValidIt.no (fn := Tryz.f116) (by kernel_rfl) (by kernel_rfl) (by kernel_rfl) fun args r pre fresh h hp => ?_
 unfold q1X at h
 split at h
 ·rename_i n c_q
  cases h
  obtain ⟨hp0, hp⟩ := hp
  refine ⟨rfl, fun _ _ _ => False, _, (qk (LeD.refl _) (qk (leT_c (leC_p (LeCs.cons (leC_i (qh hp0 0 (by decide))) LeCs.nil))) qM)), Nat.le_of_ble_eq_true (by kernel_rfl), ?_, ?_⟩
  ·exact cast (by kernel_rfl) (q8s n (qb (c_q 0)) hp)
  ·exact cast (by kernel_rfl) trivial
 ·cases h
def Skp4 : Sum := addS Skp3 116 q1X
theorem VSkp4 : Valid Tryz.prog Skp4 := Valid.add VSkp3 q9Q
def q0P (l : List Int) (k v0_0 : Int) : DS := ⟨[some (.t (.c (.sl 1 l.length (q2f l)))), some (.t (.fn 116 [.px 1 0 (boxC [.v (.int .i64 k)])])), none, none, none, none, none, some (.t (.c (.v (.int .i64 ((l.length : Nat) : Int))))), some (.t (.c (.v (.int .i64 v0_0)))), none, none, none, none, none, none, none, none, none, none], [none, none, none, none, none, none, none, none, none, none, none, none, none, none, none, none, none, none, none]⟩
def q2t (J : Inv) (l : List Int) (k : Int) (post : DV → Prop) : Prop := ∃ n, J 0 (n :: []) (q0P l k 0)
def q0l : Ann := ⟨fun _ => none, fun b => qr b [(0, (none, some ⟨[0, 1, 7, 8], [], []⟩))], fun _ => [], noIt, false, fun _ => none, fun _ => none⟩
def q1W (J : Inv) (l : List Int) (k v0_0 : Int) (nn0 : Nat) (post : DV → Prop) : Prop := cond (decide (v0_0 < ((l.length : Nat) : Int))) ((0 ≤ v0_0 ∧ v0_0 < ((l.length : Nat) : Int)) ∧ ((qQ [0] (boxC [.v (.int .i64 k)]) = true ∧ 0 ≤ k ∧ k ≤ 100000) ∧ (cond (!inB (l.getD v0_0.toNat 0) (-k) k) (post (.t (.c (.v (.int .i64 v0_0))))) (lt (IntKind.i64.wrap (v0_0 + (1 : Int))) fun x1 => J 0 (nn0 :: []) (q0P l k x1))))) (post (.t (.c (.v (.int .i64 (-1))))))
theorem q6p (J : Inv) (post : DV → Prop) : AllG J (qz Tryz.prog tab Skp4 q0l J Tryz.f135 post) = (((∀ F s, ¬ J 0 (0 :: F) s) ∧ ∀ n F s, J 0 ((n + 1) :: F) s → round Tryz.prog tab Skp4 q0l J Tryz.f135 post 0 (n :: F) s) ∧ True) := by kernel_rfl
def q0g (l : List Int) (k : Int) : Inv := fun b F s => match b, F with
 | 0, [nn0] => ∃ (v0_0 : Int), s = q0P l k v0_0 ∧ (l.length ≤ 1000000 ∧ 0 ≤ v0_0 ∧ v0_0 ≤ l.length ∧ (nn0 : Int) + v0_0 = l.length + 1 ∧ ∀ j : Nat, (j : Int) < v0_0 → (!inB (l.getD j 0) (-k) k) = false)
 | _, _ => False
theorem q5c (l : List Int) (k v0_0 : Int) (nn0 : Nat) (hp : (l).length ≤ 1000000 ∧ 0 ≤ k ∧ k ≤ 100000) (hi : l.length ≤ 1000000 ∧ 0 ≤ v0_0 ∧ v0_0 ≤ l.length ∧ ((nn0 + 1) : Int) + v0_0 = l.length + 1 ∧ ∀ j : Nat, (j : Int) < v0_0 → (!inB (l.getD j 0) (-k) k) = false) : q1W (q0g l k) l k v0_0 nn0 (fun r => LeD r (.t (.c (.v (.int .i64 (idxP (fun n => !inB n (-k) k) l)))))) := by
 obtain ⟨i0, i1, i2, i3, i4⟩ := hi
 obtain ⟨c, rfl⟩ : ∃ c : Nat, v0_0 = c := ⟨v0_0.toNat, by omega⟩
 have hc : (c : Int).toNat = c := rfl
 unfold q1W
 rw [hc]
 refine qg (fun h => ?_) (fun h => leI ?_)
 ·have hlt : c < l.length := by have := of_decide_eq_true h; omega
  refine ⟨by omega, ⟨rfl, hp.2⟩, qg (fun e => leI ?_) (fun e => lt_i fun x hx => ?_)⟩
  ·exact (qhv (d := (0 : Int)) hlt (fun j hj => i4 j (by omega)) (by simpa using e)).symm
  ·rw [wi (by omega)] at hx
   subst hx
   exact ⟨_, rfl, i0, by omega, by omega, by omega, fun j hj => by
    by_cases q : j = c
    ·rw [q]; simpa using e
    ·exact i4 j (by omega)⟩
 ·have hge : c = l.length := by have := of_decide_eq_false h; omega
  subst hge
  exact (q9n (d := (0 : Int)) fun j hj => i4 j (by omega)).symm
theorem q5F (l : List Int) (k : Int) (hp : (l).length ≤ 1000000 ∧ 0 ≤ k ∧ k ≤ 100000) : q2t (q0g l k) l k (fun r => LeD r (.t (.c (.v (.int .i64 (idxP (fun n => !inB n (-k) k) l)))))) := by
 unfold q2t
 exact ⟨l.length + 1, 0, rfl, hp.1, by omega, by omega, by omega, fun j hj => by omega⟩
theorem q5O (l : List Int) (k : Int) (hp : (l).length ≤ 1000000 ∧ 0 ≤ k ∧ k ≤ 100000) : AllG (q0g l k) (qz Tryz.prog tab Skp4 q0l (q0g l k) Tryz.f135 (fun r => LeD r (.t (.c (.v (.int .i64 (idxP (fun n => !inB n (-k) k) l))))))) := by
 rw [q6p]
 refine ⟨⟨?_, ?_⟩, trivial⟩
 ·intro F s h
  obtain _ | ⟨g, F⟩ := F
  case cons => exact h.elim
  obtain ⟨w0, rfl, hi⟩ := h
  omega
 ·intro n F s h
  obtain _ | ⟨g, F⟩ := F
  case cons => exact h.elim
  obtain ⟨w0, rfl, hi⟩ := h
  exact cast (by kernel_rfl) (q5c l k _ _ hp hi)
def q0S : Con := fun args => match args with
 | [.t (.c (.sl 1 n_l c_l)), .t (.fn 116 [.px 1 0 c_q])] => some (.t (.c (.v (.int .i64 (idxP (fun n => !inB n (-(qb (c_q 0))) (qb (c_q 0))) (qa n_l qF c_l))))), some (qj 1 n_l c_l ∧ qQ [0] c_q = true ∧ ((qa n_l qF c_l)).length ≤ 1000000 ∧ 0 ≤ (qb (c_q 0)) ∧ (qb (c_q 0)) ≤ 100000), false)
 | _ => none
theorem q6q : Ok Tryz.prog 135 q0S := by
 refine Ok.fn (ann := q0l) mixed qo VSkp4 ValidIt.no (fn := Tryz.f135) (by kernel_rfl) (by kernel_rfl) (by kernel_rfl) fun args r pre fresh h hp => ?_
 unfold q0S at h
 split at h
 ·rename_i n_l c_l c_q
  cases h
  obtain ⟨hp0, hp1, hp⟩ := hp
  refine ⟨rfl, q0g (qa n_l qF c_l) (qb (c_q 0)), _, (qk (leT_c ((q6C hp0))) (qk (leT_f (LeCs.cons (leC_p (LeCs.cons (leC_i (qh hp1 0 (by decide))) LeCs.nil)) LeCs.nil)) qM)), Nat.le_of_ble_eq_true (by kernel_rfl), ?_, ?_⟩
  ·exact cast (by kernel_rfl) (q5F (qa n_l qF c_l) (qb (c_q 0)) hp)
  ·exact q5O (qa n_l qF c_l) (qb (c_q 0)) hp
 ·cases h
def Skp5 : Sum := addF Skp4 135 q0S
theorem VSkp5 : Valid Tryz.prog Skp5 := Valid.addF VSkp4 q6q
def q1O (l : List Int) (k : Int) (post : DV → Prop) : Prop := (qj 1 l.length (q2f l) ∧ qQ [0] (boxC [.v (.int .i64 k)]) = true ∧ ((qa l.length qF (q2f l))).length ≤ 1000000 ∧ 0 ≤ k ∧ k ≤ 100000) ∧ (post (.t (.c (.v (.bool (decide ((idxP (fun n => !inB n (-k) k) (qa l.length qF (q2f l))) ≥ (0 : Int))))))))
def q4M : Ann := An (fun _ => none) fun _ => none
theorem q4y (l : List Int) (k : Int) (hp : (l).length ≤ 1000000 ∧ 0 ≤ k ∧ k ≤ 100000) : q1O l k (fun r => LeD r (.t (.c (.v (.bool ((l).any fun n => !inB n (-k) k)))))) := by
 unfold q1O
 rw [qmv]
 refine ⟨⟨qmu l, rfl, hp⟩, leB ?_⟩
 rw [qfd]
def q0H : Con := fun args => match args with
 | [.t (.c (.sl 1 n_l c_l)), .t (.fn 116 [.px 1 0 c_q])] => some (.t (.c (.v (.bool (((qa n_l qF c_l)).any fun n => !inB n (-(qb (c_q 0))) (qb (c_q 0)))))), some (qj 1 n_l c_l ∧ qQ [0] c_q = true ∧ ((qa n_l qF c_l)).length ≤ 1000000 ∧ 0 ≤ (qb (c_q 0)) ∧ (qb (c_q 0)) ≤ 100000), false)
 | _ => none
theorem q5d : Ok Tryz.prog 115 q0H := by
 refine Ok.fn (ann := q4M) mixed qo VSkp5 ValidIt.no (fn := Tryz.f115) (by kernel_rfl) (by kernel_rfl) (by kernel_rfl) fun args r pre fresh h hp => ?_
 unfold q0H at h
 split at h
 ·rename_i n_l c_l c_q
  cases h
  obtain ⟨hp0, hp1, hp⟩ := hp
  refine ⟨rfl, fun _ _ _ => False, _, (qk (leT_c ((q6C hp0))) (qk (leT_f (LeCs.cons (leC_p (LeCs.cons (leC_i (qh hp1 0 (by decide))) LeCs.nil)) LeCs.nil)) qM)), Nat.le_of_ble_eq_true (by kernel_rfl), ?_, ?_⟩
  ·exact cast (by kernel_rfl) (q4y (qa n_l qF c_l) (qb (c_q 0)) hp)
  ·exact cast (by kernel_rfl) trivial
 ·cases h
def Skp6 : Sum := addF Skp5 115 q0H
theorem VSkp6 : Valid Tryz.prog Skp6 := Valid.addF VSkp5 q5d
def q5P (v0 v1 v2 k : Int) (post : DV → Prop) : Prop := (qj 1 3 (fun i j => boxC [.v (.int .i64 v0), .v (.int .i64 v1), .v (.int .i64 v2)] (0 + i * 1 + j)) ∧ qQ [0] (boxC [.v (.int .i64 k)]) = true ∧ (([v0, v1, v2] : List Int)).length ≤ 1000000 ∧ 0 ≤ k ∧ k ≤ 100000) ∧ (post (.t (.c (.v (.bool (!((([v0, v1, v2] : List Int)).any fun n => !inB n (-k) k)))))))
def qak : Ann := An (fun _ => none) fun _ => none
theorem q9R (v0 v1 v2 k : Int) (hp : 0 ≤ k ∧ k ≤ 100000) : q5P v0 v1 v2 k (fun r => LeD r (.t (.c (.v (.bool (((V3.mk v0 v1 v2) : V3).inS k)))))) := by
 unfold q5P
 refine ⟨⟨numsP3 rfl rfl rfl, rfl, Nat.le_of_ble_eq_true rfl, hp⟩, leB ?_⟩
 unfold V3.inS
 show (!(List.any [v0, v1, v2] fun n => !inB n (-k) k)) = _
 simp [List.any, Bool.and_assoc]
def q2z : Con := fun args => match args with
 | [.t (.a [.v (.int .i64 v0), .v (.int .i64 v1), .v (.int .i64 v2)]), .t (.c (.v (.int .i64 k)))] => some (.t (.c (.v (.bool (((V3.mk v0 v1 v2) : V3).inS k)))), some (0 ≤ k ∧ k ≤ 100000), false)
 | _ => none
theorem qbx : Ok Tryz.prog 87 q2z := by
 refine Ok.fn (ann := qak) mixed qo VSkp6 ValidIt.no (fn := Tryz.f87) (by kernel_rfl) (by kernel_rfl) (by kernel_rfl) fun args r pre fresh h hp => ?_
 unfold q2z at h
 split at h
 ·rename_i v0 v1 v2 k
  cases h
  refine ⟨rfl, fun _ _ _ => False, _, LeA.refl _, Nat.le_of_ble_eq_true (by kernel_rfl), ?_, ?_⟩
  ·exact cast (by kernel_rfl) (q9R v0 v1 v2 k hp)
  ·exact cast (by kernel_rfl) trivial
 ·cases h
def Skp7 : Sum := addS Skp6 87 q2z
theorem VSkp7 : Valid Tryz.prog Skp7 := Valid.add VSkp6 qbx
def q6r (s0 s1 s2 t0 t1 t2 : Int) (post : DV → Prop) : Prop := (0 ≤ (0 : Int) ∧ (0 : Int) < ((3 : Nat) : Int)) ∧ ((0 ≤ (0 : Int) ∧ (0 : Int) < ((3 : Nat) : Int)) ∧ (lt (IntKind.i64.wrap (s0 * t0)) fun x1 => (0 ≤ (1 : Int) ∧ (1 : Int) < ((3 : Nat) : Int)) ∧ ((0 ≤ (1 : Int) ∧ (1 : Int) < ((3 : Nat) : Int)) ∧ (lt (IntKind.i64.wrap (s1 * t1)) fun x2 => lt (IntKind.i64.wrap (x1 + x2)) fun x3 => (0 ≤ (2 : Int) ∧ (2 : Int) < ((3 : Nat) : Int)) ∧ ((0 ≤ (2 : Int) ∧ (2 : Int) < ((3 : Nat) : Int)) ∧ (lt (IntKind.i64.wrap (s2 * t2)) fun x4 => lt (IntKind.i64.wrap (x3 + x4)) fun x5 => post (.t (.c (.v (.int .i64 x5))))))))))
def qby : Ann := An (fun _ => none) fun _ => none
theorem qal (s0 s1 s2 t0 t1 t2 : Int) : q6r s0 s1 s2 t0 t1 t2 (fun r => LeD r (.t (.c (.v (.int .i64 (dotW (V3.mk s0 s1 s2) (V3.mk t0 t1 t2))))))) := by
 unfold q6r
 refine ⟨by decide, by decide, lt_i fun x1 h1 => ⟨by decide, by decide, lt_i fun x2 h2 => lt_i fun x3 h3 => ⟨by decide, by decide, lt_i fun x4 h4 => lt_i fun x5 h5 => leI ?_⟩⟩⟩
 unfold dotW
 rw [← h5, ← h4, ← h3, ← h2, ← h1]
def q2W : Con := fun args => match args with
 | [.t (.a [.v (.int .i64 s0), .v (.int .i64 s1), .v (.int .i64 s2)]), .t (.a [.v (.int .i64 t0), .v (.int .i64 t1), .v (.int .i64 t2)])] => some (.t (.c (.v (.int .i64 (dotW (V3.mk s0 s1 s2) (V3.mk t0 t1 t2))))), none, false)
 | _ => none
theorem qc8 : Ok Tryz.prog 76 q2W := by
 refine Ok.fn (ann := qby) mixed qo VSkp7 ValidIt.no (fn := Tryz.f76) (by kernel_rfl) (by kernel_rfl) (by kernel_rfl) fun args r pre fresh h hp => ?_
 unfold q2W at h
 split at h
 ·rename_i s0 s1 s2 t0 t1 t2
  cases h
  refine ⟨rfl, fun _ _ _ => False, _, LeA.refl _, Nat.le_of_ble_eq_true (by kernel_rfl), ?_, ?_⟩
  ·exact cast (by kernel_rfl) (qal s0 s1 s2 t0 t1 t2)
  ·exact cast (by kernel_rfl) trivial
 ·cases h
def Skp8 : Sum := addS Skp7 76 q2W
theorem VSkp8 : Valid Tryz.prog Skp8 := Valid.add VSkp7 qc8
def q5u (s0 s1 s2 t0 t1 t2 : Int) (post : DV → Prop) : Prop := (0 ≤ (0 : Int) ∧ (0 : Int) < ((3 : Nat) : Int)) ∧ ((0 ≤ (0 : Int) ∧ (0 : Int) < ((3 : Nat) : Int)) ∧ (lt (IntKind.i64.wrap (s0 - t0)) fun x1 => (0 ≤ (1 : Int) ∧ (1 : Int) < ((3 : Nat) : Int)) ∧ ((0 ≤ (1 : Int) ∧ (1 : Int) < ((3 : Nat) : Int)) ∧ (lt (IntKind.i64.wrap (s1 - t1)) fun x2 => (0 ≤ (2 : Int) ∧ (2 : Int) < ((3 : Nat) : Int)) ∧ ((0 ≤ (2 : Int) ∧ (2 : Int) < ((3 : Nat) : Int)) ∧ (lt (IntKind.i64.wrap (s2 - t2)) fun x3 => post (.t (.a [.v (.int .i64 x1), .v (.int .i64 x2), .v (.int .i64 x3)]))))))))
def q9S : Ann := An (fun _ => none) fun _ => none
theorem q8Y (s0 s1 s2 t0 t1 t2 : Int) : q5u s0 s1 s2 t0 t1 t2 (fun r => LeD r (.t (.a [.v (.int .i64 (wr (s0 - t0))), .v (.int .i64 (wr (s1 - t1))), .v (.int .i64 (wr (s2 - t2)))]))) := by
 unfold q5u
 (repeat' with_reducible first | (refine lt_i ?_; intro _ _) | (refine qg ?_ ?_ <;> intro _) | (refine And.intro (by decide) ?_))
 subst_vars
 exact LeD.refl _
def q2i : Con := fun args => match args with
 | [.t (.a [.v (.int .i64 s0), .v (.int .i64 s1), .v (.int .i64 s2)]), .t (.a [.v (.int .i64 t0), .v (.int .i64 t1), .v (.int .i64 t2)])] => some (.t (.a [.v (.int .i64 (wr (s0 - t0))), .v (.int .i64 (wr (s1 - t1))), .v (.int .i64 (wr (s2 - t2)))]), none, false)
 | _ => none
theorem qam : Ok Tryz.prog 75 q2i := by
 refine Ok.fn (ann := q9S) mixed qo VSkp8 ValidIt.no (fn := Tryz.f75) (by kernel_rfl) (by kernel_rfl) (by kernel_rfl) fun args r pre fresh h hp => ?_
 unfold q2i at h
 split at h
 ·rename_i s0 s1 s2 t0 t1 t2
  cases h
  refine ⟨rfl, fun _ _ _ => False, _, LeA.refl _, Nat.le_of_ble_eq_true (by kernel_rfl), ?_, ?_⟩
  ·exact cast (by kernel_rfl) (q8Y s0 s1 s2 t0 t1 t2)
  ·exact cast (by kernel_rfl) trivial
 ·cases h
def Skp9 : Sum := addS Skp8 75 q2i
theorem VSkp9 : Valid Tryz.prog Skp9 := Valid.add VSkp8 qam
def q7F (p0 p1 p2 : Int) (post : DV → Prop) : Prop := (0 ≤ (1000 : Int) ∧ (1000 : Int) ≤ 100000) ∧ (post (.t (.c (.v (.int .i64 (unl (((V3.mk p0 p1 p2) : V3).inS (1000 : Int)) (2 : Int)))))))
def qcU : Ann := An (fun _ => none) fun _ => none
theorem qc9 (p0 p1 p2 : Int) : q7F p0 p1 p2 (fun r => LeD r (.t (.c (.v (.int .i64 (plE (V3.mk p0 p1 p2))))))) := by
 unfold q7F
 exact ⟨by decide, LeD.refl _⟩
def q3W : Con := fun args => match args with
 | [.t (.a [.v (.int .i64 p0), .v (.int .i64 p1), .v (.int .i64 p2)])] => some (.t (.c (.v (.int .i64 (plE (V3.mk p0 p1 p2))))), none, false)
 | _ => none
theorem qe7 : Ok Tryz.prog 56 q3W := by
 refine Ok.fn (ann := qcU) mixed qo VSkp9 ValidIt.no (fn := Tryz.f56) (by kernel_rfl) (by kernel_rfl) (by kernel_rfl) fun args r pre fresh h hp => ?_
 unfold q3W at h
 split at h
 ·rename_i p0 p1 p2
  cases h
  refine ⟨rfl, fun _ _ _ => False, _, LeA.refl _, Nat.le_of_ble_eq_true (by kernel_rfl), ?_, ?_⟩
  ·exact cast (by kernel_rfl) (qc9 p0 p1 p2)
  ·exact cast (by kernel_rfl) trivial
 ·cases h
def Skp10 : Sum := addS Skp9 56 q3W
theorem VSkp10 : Valid Tryz.prog Skp10 := Valid.add VSkp9 qe7
def qfh (n : Int) (post : DV → Prop) : Prop := post (.t (.c (.v (.int .i64 (unl (inB n (-10000 : Int) (10000 : Int)) (2 : Int))))))
def qe8 : Ann := An (fun _ => none) fun _ => none
theorem qcV (n : Int) : qfh n (fun r => LeD r (.t (.c (.v (.int .i64 (tmE n)))))) := by
 exact LeD.refl _
def q4z : Con := fun args => match args with
 | [.t (.c (.v (.int .i64 n)))] => some (.t (.c (.v (.int .i64 (tmE n)))), none, false)
 | _ => none
theorem qfi : Ok Tryz.prog 58 q4z := by
 refine Ok.fn (ann := qe8) mixed qo VSkp10 ValidIt.no (fn := Tryz.f58) (by kernel_rfl) (by kernel_rfl) (by kernel_rfl) fun args r pre fresh h hp => ?_
 unfold q4z at h
 split at h
 ·rename_i n
  cases h
  refine ⟨rfl, fun _ _ _ => False, _, LeA.refl _, Nat.le_of_ble_eq_true (by kernel_rfl), ?_, ?_⟩
  ·exact cast (by kernel_rfl) (qcV n)
  ·exact cast (by kernel_rfl) trivial
 ·cases h
def Skp11 : Sum := addS Skp10 58 q4z
theorem VSkp11 : Valid Tryz.prog Skp11 := Valid.add VSkp10 qfi
def q6s (m0 m1 m2 m3 m4 m5 m6 m7 m8 m9 mA mB : Int) (post : DV → Prop) : Prop := (cond (inB m4 (1 : Int) (20 : Int)) (cond (inB m5 (1 : Int) (1200 : Int)) (cond (inB m6 (1 : Int) (1200 : Int)) (True) ((false = false) ∧ (True))) ((false = false) ∧ ((false = false) ∧ (True)))) ((false = false) ∧ ((false = false) ∧ ((false = false) ∧ (True))))) ∧ (lt ((bif inB m4 (1 : Int) (20 : Int) then (bif inB m5 (1 : Int) (1200 : Int) then (bif inB m6 (1 : Int) (1200 : Int) then inB m7 (1 : Int) (100 : Int) else false) else false) else false)) fun x1 => (0 ≤ (0 : Int) ∧ (0 : Int) < ((4 : Nat) : Int)) ∧ ((cond x1 (True) ((false = false) ∧ (True))) ∧ (lt ((bif x1 then inB m8 (0 : Int) (100 : Int) else false)) fun x2 => (0 ≤ (1 : Int) ∧ (1 : Int) < ((4 : Nat) : Int)) ∧ ((cond x2 (True) ((false = false) ∧ (True))) ∧ (lt ((bif x2 then inB m9 (0 : Int) (100 : Int) else false)) fun x3 => (0 ≤ (2 : Int) ∧ (2 : Int) < ((4 : Nat) : Int)) ∧ ((cond x3 (True) ((false = false) ∧ (True))) ∧ (lt ((bif x3 then inB mA (0 : Int) (100 : Int) else false)) fun x4 => (0 ≤ (3 : Int) ∧ (3 : Int) < ((4 : Nat) : Int)) ∧ ((cond x4 (True) ((false = false) ∧ (True))) ∧ (lt ((bif x4 then inB mB (0 : Int) (100 : Int) else false)) fun x5 => (qj 1 3 (genC [[.v (.int .i64 (plE (V3.mk m0 m1 m2)))], [.v (.int .i64 (tmE m3))], [.v (.int .i64 (unl x5 (2 : Int)))]]) ∧ (([(plE (V3.mk m0 m1 m2)), (tmE m3), (unl x5 (2 : Int))] : List Int)).length ≤ 100) ∧ (cond ((qd ([(plE (V3.mk m0 m1 m2)), (tmE m3), (unl x5 (2 : Int))] : List Int)) != (0 : Int)) (post (.t (.c (.v (.int .i64 (qd ([(plE (V3.mk m0 m1 m2)), (tmE m3), (unl x5 (2 : Int))] : List Int))))))) (lt (IntKind.i64.wrap (m7 * m4)) fun x6 => lt (IntKind.i64.wrap (x6 * m4)) fun x7 => (qj 1 2 (genC [[.v (.int .i64 (unl (decide (m5 ≤ m6)) (9 : Int)))], [.v (.int .i64 (unl (decide (m5 > x7)) (13 : Int)))]]) ∧ (([(unl (decide (m5 ≤ m6)) (9 : Int)), (unl (decide (m5 > x7)) (13 : Int))] : List Int)).length ≤ 100) ∧ (post (.t (.c (.v (.int .i64 (qd ([(unl (decide (m5 ≤ m6)) (9 : Int)), (unl (decide (m5 > x7)) (13 : Int))] : List Int))))))))))))))))))
def qbz : Ann := ⟨fun r => qr r [(7, ([[], [0], [0, 1], [], [3], [0, 1, 2, 3, 4], [], [0, 1, 2, 3, 4, 5, 6], [0, 1, 2, 3, 4, 5, 6, 7], [0, 1, 2, 3, 4, 5, 6, 7, 8], [0, 1, 2, 3, 4, 5, 6, 7, 8, 9]], [[47, 50, 52, 53, 54], [47, 50, 52, 53, 54], [50, 52, 53, 54], [47, 50, 52, 53, 54], [47, 50, 52, 53, 54], [52, 53, 54], [47, 50, 52, 53, 54], [53, 54], [54], [], []])), (10, ([[], [0], [0, 1], [], [3], [3, 4], [0, 1, 2, 3, 4, 5], [0, 1, 2, 3, 4, 5, 6], [], [8], [8, 9], [], [11], [], [13], [11, 12, 13, 14], [], [16], [11, 12, 13, 14, 15, 16, 17], [8, 9, 10, 11, 12, 13, 14, 15, 16, 17, 18], [0, 1, 2, 3, 4, 5, 6, 7, 8, 9, 10, 11, 12, 13, 14, 15, 16, 17, 18, 19], [0, 1, 2, 3, 4, 5, 6, 7, 8, 9, 10, 11, 12, 13, 14, 15, 16, 17, 18, 19, 20], [0, 1, 2, 3, 4, 5, 6, 7, 8, 9, 10, 11, 12, 13, 14, 15, 16, 17, 18, 19, 20, 21], [0, 1, 2, 3, 4, 5, 6, 7, 8, 9, 10, 11, 12, 13, 14, 15, 16, 17, 18, 19, 20, 21, 22]], [[65, 78, 79, 80], [65, 78, 79, 80], [65, 78, 79, 80], [65, 78, 79, 80], [65, 78, 79, 80], [65, 78, 79, 80], [65, 78, 79, 80], [78, 79, 80], [65, 78, 79, 80], [65, 78, 79, 80], [65, 78, 79, 80], [65, 78, 79, 80], [65, 78, 79, 80], [65, 78, 79, 80], [65, 78, 79, 80], [65, 78, 79, 80], [65, 78, 79, 80], [65, 78, 79, 80], [65, 78, 79, 80], [65, 78, 79, 80], [79, 80], [80], [], []]))], fun b => qr b [(0, (some 5, some ⟨[1, 3, 35, 36], [1], []⟩))], fun _ => [], noIt, false, fun r => qr r [(1, (4, [3])), (5, (2, [3]))], fun _ => none⟩
theorem qan (m0 m1 m2 m3 m4 m5 m6 m7 m8 m9 mA mB : Int) : q6s m0 m1 m2 m3 m4 m5 m6 m7 m8 m9 mA mB (fun r => LeD r (.t (.c (.v (.int .i64 (((TM.mk m0 m1 m2 m3 m4 m5 m6 m7 m8 m9 mA mB)).err)))))) := by
 unfold q6s
 refine ⟨by (repeat' first | trivial | assumption | (refine qg ?_ ?_ <;> intro _) | (refine And.intro ?_ ?_)), lt_i fun x1 h1 => ⟨by decide, by (repeat' first | trivial | assumption | (refine qg ?_ ?_ <;> intro _) | (refine And.intro ?_ ?_)), lt_i fun x2 h2 => ⟨by decide, by (repeat' first | trivial | assumption | (refine qg ?_ ?_ <;> intro _) | (refine And.intro ?_ ?_)), lt_i fun x3 h3 => ⟨by decide, by (repeat' first | trivial | assumption | (refine qg ?_ ?_ <;> intro _) | (refine And.intro ?_ ?_)), lt_i fun x4 h4 => ⟨by decide, by (repeat' first | trivial | assumption | (refine qg ?_ ?_ <;> intro _) | (refine And.intro ?_ ?_)), lt_i fun x5 h5 => ⟨⟨q0n [_, _, _], Nat.le_of_ble_eq_true rfl⟩, ?_⟩⟩⟩⟩⟩⟩
 have e5 : x5 = ((TM.mk m0 m1 m2 m3 m4 m5 m6 m7 m8 m9 mA mB)).right := by
  rw [← h5, ← h4, ← h3, ← h2, ← h1]
  unfold TM.right
  simp only [Bool.cond_false_right, Bool.and_assoc]
 rw [e5]
 have hE : ∀ {a b c d e : Int}, qd [a, b, c] ≠ 0 → qd [a, b, c, d, e] = qd [a, b, c] := by
  intro a b c d e h
  simp only [qd] at h ⊢
  by_cases h1 : a = 0 <;> by_cases h2 : b = 0 <;> by_cases h3 : c = 0 <;> simp_all
 have hF : ∀ {a b c d e : Int}, qd [a, b, c] = 0 → qd [a, b, c, d, e] = qd [d, e] := by
  intro a b c d e h
  obtain ⟨rfl, rfl, rfl⟩ := fn3 h
  simp [qd]
 refine qg (fun h => leI ?_) (fun h => lt_i fun x6 h6 => lt_i fun x7 h7 => ⟨⟨q0n [_, _], Nat.le_of_ble_eq_true rfl⟩, leI ?_⟩)
 ·have h : qd [plE (V3.mk m0 m1 m2), tmE m3, unl ((TM.mk m0 m1 m2 m3 m4 m5 m6 m7 m8 m9 mA mB)).right 2] ≠ 0 := by simpa using h
  exact (hE h).symm
 ·have h : qd [plE (V3.mk m0 m1 m2), tmE m3, unl ((TM.mk m0 m1 m2 m3 m4 m5 m6 m7 m8 m9 mA mB)).right 2] = 0 := by simpa using h
  have g := (fn3 h).2.2
  rw [unl_0 (by decide)] at g
  unfold TM.right at g
  simp only [Bool.and_eq_true, q0Q] at g
  obtain ⟨⟨⟨⟨⟨⟨⟨b1, b2⟩, b3⟩, b4⟩, b5⟩, b6⟩, b7⟩, b8⟩ := g
  have k3 := qv (x := m7) (y := m4) (A := 100) (B := 20) (C := 2000) (by omega) (by omega) (by decide)
  rw [wi (by omega)] at h6
  subst h6
  have k4 := qv (x := m7 * m4) (y := m4) (A := 2000) (B := 20) (C := 40000) k3 (by omega) (by decide)
  rw [wi (by omega)] at h7
  subst h7
  exact (hF h).symm
def q2X : Con := fun args => match args with
 | [.t (.a [.v (.int .i64 m0), .v (.int .i64 m1), .v (.int .i64 m2), .v (.int .i64 m3), .v (.int .i64 m4), .v (.int .i64 m5), .v (.int .i64 m6), .v (.int .i64 m7), .v (.int .i64 m8), .v (.int .i64 m9), .v (.int .i64 mA), .v (.int .i64 mB)])] => some (.t (.c (.v (.int .i64 (((TM.mk m0 m1 m2 m3 m4 m5 m6 m7 m8 m9 mA mB)).err)))), none, false)
 | _ => none
theorem qca : Ok Tryz.prog 118 q2X := by
 refine Ok.fn (ann := qbz) mixed qo VSkp11 ValidIt.no (fn := Tryz.f118) (by kernel_rfl) (by kernel_rfl) (by kernel_rfl) fun args r pre fresh h hp => ?_
 unfold q2X at h
 split at h
 ·rename_i m0 m1 m2 m3 m4 m5 m6 m7 m8 m9 mA mB
  cases h
  refine ⟨rfl, fun _ _ _ => False, _, LeA.refl _, Nat.le_of_ble_eq_true (by kernel_rfl), ?_, ?_⟩
  ·exact cast (by kernel_rfl) (qan m0 m1 m2 m3 m4 m5 m6 m7 m8 m9 mA mB)
  ·exact cast (by kernel_rfl) trivial
 ·cases h
def Skp12 : Sum := addS Skp11 118 q2X
theorem VSkp12 : Valid Tryz.prog Skp12 := Valid.add VSkp11 qca
def qiV (m0 m1 m2 m3 m4 m5 m6 m7 m8 m9 mA mB : Int) (post : DV → Prop) : Prop := post (.tu [.a [.v (.int .i64 m0), .v (.int .i64 m1), .v (.int .i64 m2), .v (.int .i64 m3), .v (.int .i64 m4), .v (.int .i64 m5), .v (.int .i64 m6), .v (.int .i64 m7), .v (.int .i64 m8), .v (.int .i64 m9), .v (.int .i64 mA), .v (.int .i64 mB)], .c (.v (.int .i64 (((TM.mk m0 m1 m2 m3 m4 m5 m6 m7 m8 m9 mA mB)).err)))])
def qhz : Ann := An (fun r => qr r [(1, ([[], [0], [], [2], [0, 1, 2, 3], [0, 1, 2, 3, 4]], [[7], [7], [7], [], [], []]))]) fun _ => none
theorem qgn (m0 m1 m2 m3 m4 m5 m6 m7 m8 m9 mA mB : Int) : qiV m0 m1 m2 m3 m4 m5 m6 m7 m8 m9 mA mB (fun r => LeD r (.tu [.a [.v (.int .i64 m0), .v (.int .i64 m1), .v (.int .i64 m2), .v (.int .i64 m3), .v (.int .i64 m4), .v (.int .i64 m5), .v (.int .i64 m6), .v (.int .i64 m7), .v (.int .i64 m8), .v (.int .i64 m9), .v (.int .i64 mA), .v (.int .i64 mB)], .c (.v (.int .i64 (((TM.mk m0 m1 m2 m3 m4 m5 m6 m7 m8 m9 mA mB)).err)))])) := by
 exact LeD.refl _
def q6H : Con := fun args => match args with
 | [.t (.a [.v (.int .i64 m0), .v (.int .i64 m1), .v (.int .i64 m2), .v (.int .i64 m3), .v (.int .i64 m4), .v (.int .i64 m5), .v (.int .i64 m6), .v (.int .i64 m7), .v (.int .i64 m8), .v (.int .i64 m9), .v (.int .i64 mA), .v (.int .i64 mB)])] => some (.tu [.a [.v (.int .i64 m0), .v (.int .i64 m1), .v (.int .i64 m2), .v (.int .i64 m3), .v (.int .i64 m4), .v (.int .i64 m5), .v (.int .i64 m6), .v (.int .i64 m7), .v (.int .i64 m8), .v (.int .i64 m9), .v (.int .i64 mA), .v (.int .i64 mB)], .c (.v (.int .i64 (((TM.mk m0 m1 m2 m3 m4 m5 m6 m7 m8 m9 mA mB)).err)))], none, false)
 | _ => none
theorem qiW : Ok Tryz.prog 91 q6H := by
 refine Ok.fn (ann := qhz) mixed qo VSkp12 ValidIt.no (fn := Tryz.f91) (by kernel_rfl) (by kernel_rfl) (by kernel_rfl) fun args r pre fresh h hp => ?_
 unfold q6H at h
 split at h
 ·rename_i m0 m1 m2 m3 m4 m5 m6 m7 m8 m9 mA mB
  cases h
  refine ⟨rfl, fun _ _ _ => False, _, LeA.refl _, Nat.le_of_ble_eq_true (by kernel_rfl), ?_, ?_⟩
  ·exact cast (by kernel_rfl) (qgn m0 m1 m2 m3 m4 m5 m6 m7 m8 m9 mA mB)
  ·exact cast (by kernel_rfl) trivial
 ·cases h
def Skp13 : Sum := addS Skp12 91 q6H
theorem VSkp13 : Valid Tryz.prog Skp13 := Valid.add VSkp12 qiW
def q3X (m0 m1 m2 m3 m4 m5 m6 m7 m8 m9 mA mB s0 s1 s2 : Int) (post : DV → Prop) : Prop := lt (dotW (V3.mk s0 s1 s2) (V3.mk s0 s1 s2)) fun x1 => post (.t (.c (.v (.bool (inB x1 m5 m6)))))
def q7R : Ann := An (fun r => qr r [(1, ([[], [], [0, 1], [], [3], [3, 4], [3, 4, 5], [], [7], [7, 8], [7, 8, 9], [0, 1, 2, 3, 4, 5, 6, 7, 8, 9, 10], [0, 1, 2, 3, 4, 5, 6, 7, 8, 9, 10, 11]], [[7, 16], [7, 16], [16], [7, 16], [7, 16], [7, 16], [7, 16], [7, 16], [7, 16], [7, 16], [7, 16], [], []]))]) fun _ => none
theorem q7y (m0 m1 m2 m3 m4 m5 m6 m7 m8 m9 mA mB s0 s1 s2 : Int) (hp : ((V3.mk s0 s1 s2)).sm (V3.mk s0 s1 s2)) : q3X m0 m1 m2 m3 m4 m5 m6 m7 m8 m9 mA mB s0 s1 s2 (fun r => LeD r (.t (.c (.v (.bool (((TM.mk m0 m1 m2 m3 m4 m5 m6 m7 m8 m9 mA mB)).permB (V3.mk s0 s1 s2))))))) := by
 have e : dotW (V3.mk s0 s1 s2) ⟨s0, s1, s2⟩ = (V3.mk s0 s1 s2).dot ⟨s0, s1, s2⟩ := dotW_sm hp
 unfold q3X
 rw [e]
 refine lt_i fun x hx => leB ?_
 rw [← hx]
 rfl
def q1y : Con := fun args => match args with
 | [.t (.a [.v (.int .i64 m0), .v (.int .i64 m1), .v (.int .i64 m2), .v (.int .i64 m3), .v (.int .i64 m4), .v (.int .i64 m5), .v (.int .i64 m6), .v (.int .i64 m7), .v (.int .i64 m8), .v (.int .i64 m9), .v (.int .i64 mA), .v (.int .i64 mB)]), .t (.a [.v (.int .i64 s0), .v (.int .i64 s1), .v (.int .i64 s2)])] => some (.t (.c (.v (.bool (((TM.mk m0 m1 m2 m3 m4 m5 m6 m7 m8 m9 mA mB)).permB (V3.mk s0 s1 s2))))), some (((V3.mk s0 s1 s2)).sm (V3.mk s0 s1 s2)), false)
 | _ => none
theorem q8t : Ok Tryz.prog 92 q1y := by
 refine Ok.fn (ann := q7R) mixed qo VSkp13 ValidIt.no (fn := Tryz.f92) (by kernel_rfl) (by kernel_rfl) (by kernel_rfl) fun args r pre fresh h hp => ?_
 unfold q1y at h
 split at h
 ·rename_i m0 m1 m2 m3 m4 m5 m6 m7 m8 m9 mA mB s0 s1 s2
  cases h
  refine ⟨rfl, fun _ _ _ => False, _, LeA.refl _, Nat.le_of_ble_eq_true (by kernel_rfl), ?_, ?_⟩
  ·exact cast (by kernel_rfl) (q7y m0 m1 m2 m3 m4 m5 m6 m7 m8 m9 mA mB s0 s1 s2 hp)
  ·exact cast (by kernel_rfl) trivial
 ·cases h
def Skp14 : Sum := addS Skp13 92 q1y
theorem VSkp14 : Valid Tryz.prog Skp14 := Valid.add VSkp13 q8t
def q7G (m0 m1 m2 m3 m4 m5 m6 m7 m8 m9 mA mB s0 s1 s2 : Int) (post : DV → Prop) : Prop := (fun (Z1 : TM) (Z2 : V3) => (0 ≤ (20 : Int) ∧ (20 : Int) ≤ 100000) ∧ ((qj 1 2 (genC [[.v (.int .i64 ((Z1).err))], [.v (.int .i64 (unl ((Z2 : V3).inS (20 : Int)) (2 : Int)))]]) ∧ (([((Z1).err), (unl ((Z2 : V3).inS (20 : Int)) (2 : Int))] : List Int)).length ≤ 100) ∧ (cond ((qd ([((Z1).err), (unl ((Z2 : V3).inS (20 : Int)) (2 : Int))] : List Int)) == (0 : Int)) (((Z2).sm Z2) ∧ (post (.tu [.a [.v (.int .i64 m0), .v (.int .i64 m1), .v (.int .i64 m2), .v (.int .i64 m3), .v (.int .i64 m4), .v (.int .i64 m5), .v (.int .i64 m6), .v (.int .i64 m7), .v (.int .i64 m8), .v (.int .i64 m9), .v (.int .i64 mA), .v (.int .i64 mB)], .a [.v (.int .i64 s0), .v (.int .i64 s1), .v (.int .i64 s2)], .c (.v (.int .i64 (unl ((Z1).permB Z2) (24 : Int))))]))) (post (.tu [.a [.v (.int .i64 m0), .v (.int .i64 m1), .v (.int .i64 m2), .v (.int .i64 m3), .v (.int .i64 m4), .v (.int .i64 m5), .v (.int .i64 m6), .v (.int .i64 m7), .v (.int .i64 m8), .v (.int .i64 m9), .v (.int .i64 mA), .v (.int .i64 mB)], .a [.v (.int .i64 s0), .v (.int .i64 s1), .v (.int .i64 s2)], .c (.v (.int .i64 (qd ([((Z1).err), (unl ((Z2 : V3).inS (20 : Int)) (2 : Int))] : List Int))))]))))) (TM.mk m0 m1 m2 m3 m4 m5 m6 m7 m8 m9 mA mB) (V3.mk s0 s1 s2)
def qcW : Ann := An (fun r => qr r [(6, ([[], [], [], [0], [0, 1, 3], [0, 1, 2, 3, 4]], [[], [4], [], [9999, 4], [], []]))]) fun _ => none
theorem qcb (m0 m1 m2 m3 m4 m5 m6 m7 m8 m9 mA mB s0 s1 s2 : Int) : q7G m0 m1 m2 m3 m4 m5 m6 m7 m8 m9 mA mB s0 s1 s2 (fun r => LeD r (.tu [.a [.v (.int .i64 m0), .v (.int .i64 m1), .v (.int .i64 m2), .v (.int .i64 m3), .v (.int .i64 m4), .v (.int .i64 m5), .v (.int .i64 m6), .v (.int .i64 m7), .v (.int .i64 m8), .v (.int .i64 m9), .v (.int .i64 mA), .v (.int .i64 mB)], .a [.v (.int .i64 s0), .v (.int .i64 s1), .v (.int .i64 s2)], .c (.v (.int .i64 (((TM.mk m0 m1 m2 m3 m4 m5 m6 m7 m8 m9 mA mB)).both (V3.mk s0 s1 s2))))])) := by
 unfold q7G
 refine ⟨by decide, ⟨q0n [_, _], Nat.le_of_ble_eq_true rfl⟩, qg (fun h => ?_) (fun h => ?_)⟩
 ·have h : qd [((TM.mk m0 m1 m2 m3 m4 m5 m6 m7 m8 m9 mA mB)).err, unl ((V3.mk s0 s1 s2).inS 20) 2] = 0 := by simpa using h
  obtain ⟨q1, q2⟩ := fn2 h
  have q3 := q2
  rw [unl_0 (by decide)] at q3
  have e : ((TM.mk m0 m1 m2 m3 m4 m5 m6 m7 m8 m9 mA mB)).both (V3.mk s0 s1 s2) = unl (((TM.mk m0 m1 m2 m3 m4 m5 m6 m7 m8 m9 mA mB)).permB (V3.mk s0 s1 s2)) 24 := by unfold TM.both TM.stE; rw [q1, q2, fz2, fz2]
  rw [e]
  exact ⟨sm_in20 q3, LeD.refl _⟩
 ·have h : qd [((TM.mk m0 m1 m2 m3 m4 m5 m6 m7 m8 m9 mA mB)).err, unl ((V3.mk s0 s1 s2).inS 20) 2] ≠ 0 := by simpa using h
  have e : ((TM.mk m0 m1 m2 m3 m4 m5 m6 m7 m8 m9 mA mB)).both (V3.mk s0 s1 s2) = qd [((TM.mk m0 m1 m2 m3 m4 m5 m6 m7 m8 m9 mA mB)).err, unl ((V3.mk s0 s1 s2).inS 20) 2] := by unfold TM.both TM.stE; exact fz3 h
  rw [e]
  exact LeD.refl _
def q3Y : Con := fun args => match args with
 | [.t (.a [.v (.int .i64 m0), .v (.int .i64 m1), .v (.int .i64 m2), .v (.int .i64 m3), .v (.int .i64 m4), .v (.int .i64 m5), .v (.int .i64 m6), .v (.int .i64 m7), .v (.int .i64 m8), .v (.int .i64 m9), .v (.int .i64 mA), .v (.int .i64 mB)]), .t (.a [.v (.int .i64 s0), .v (.int .i64 s1), .v (.int .i64 s2)])] => some (.tu [.a [.v (.int .i64 m0), .v (.int .i64 m1), .v (.int .i64 m2), .v (.int .i64 m3), .v (.int .i64 m4), .v (.int .i64 m5), .v (.int .i64 m6), .v (.int .i64 m7), .v (.int .i64 m8), .v (.int .i64 m9), .v (.int .i64 mA), .v (.int .i64 mB)], .a [.v (.int .i64 s0), .v (.int .i64 s1), .v (.int .i64 s2)], .c (.v (.int .i64 (((TM.mk m0 m1 m2 m3 m4 m5 m6 m7 m8 m9 mA mB)).both (V3.mk s0 s1 s2))))], none, false)
 | _ => none
theorem qe9 : Ok Tryz.prog 53 q3Y := by
 refine Ok.fn (ann := qcW) mixed qo VSkp14 ValidIt.no (fn := Tryz.f53) (by kernel_rfl) (by kernel_rfl) (by kernel_rfl) fun args r pre fresh h hp => ?_
 unfold q3Y at h
 split at h
 ·rename_i m0 m1 m2 m3 m4 m5 m6 m7 m8 m9 mA mB s0 s1 s2
  cases h
  refine ⟨rfl, fun _ _ _ => False, _, LeA.refl _, Nat.le_of_ble_eq_true (by kernel_rfl), ?_, ?_⟩
  ·exact cast (by kernel_rfl) (qcb m0 m1 m2 m3 m4 m5 m6 m7 m8 m9 mA mB s0 s1 s2)
  ·exact cast (by kernel_rfl) trivial
 ·cases h
def Skp15 : Sum := addS Skp14 53 q3Y
theorem VSkp15 : Valid Tryz.prog Skp15 := Valid.add VSkp14 qe9
def q6t (m0 m1 m2 m3 m4 m5 m6 m7 m8 m9 mA mB : Int) (post : DV → Prop) : Prop := lt (IntKind.i64.wrap (m7 * m4)) fun x1 => lt (IntKind.i64.wrap (x1 * m4)) fun x2 => post (.t (.c (.v (.int .i64 x2))))
def qbA : Ann := An (fun _ => none) fun _ => none
theorem qao (m0 m1 m2 m3 m4 m5 m6 m7 m8 m9 mA mB : Int) : q6t m0 m1 m2 m3 m4 m5 m6 m7 m8 m9 mA mB (fun r => LeD r (.t (.c (.v (.int .i64 (wr (wr (m7 * m4) * m4))))))) := by
 unfold q6t
 refine lt_i fun x1 h1 => lt_i fun x2 h2 => ?_
 subst h1; subst h2
 exact LeD.refl _
def q2Y : Con := fun args => match args with
 | [.t (.a [.v (.int .i64 m0), .v (.int .i64 m1), .v (.int .i64 m2), .v (.int .i64 m3), .v (.int .i64 m4), .v (.int .i64 m5), .v (.int .i64 m6), .v (.int .i64 m7), .v (.int .i64 m8), .v (.int .i64 m9), .v (.int .i64 mA), .v (.int .i64 mB)])] => some (.t (.c (.v (.int .i64 (wr (wr (m7 * m4) * m4))))), none, false)
 | _ => none
theorem qcc : Ok Tryz.prog 119 q2Y := by
 refine Ok.fn (ann := qbA) mixed qo VSkp15 ValidIt.no (fn := Tryz.f119) (by kernel_rfl) (by kernel_rfl) (by kernel_rfl) fun args r pre fresh h hp => ?_
 unfold q2Y at h
 split at h
 ·rename_i m0 m1 m2 m3 m4 m5 m6 m7 m8 m9 mA mB
  cases h
  refine ⟨rfl, fun _ _ _ => False, _, LeA.refl _, Nat.le_of_ble_eq_true (by kernel_rfl), ?_, ?_⟩
  ·exact cast (by kernel_rfl) (qao m0 m1 m2 m3 m4 m5 m6 m7 m8 m9 mA mB)
  ·exact cast (by kernel_rfl) trivial
 ·cases h
def Skp16 : Sum := addS Skp15 119 q2Y
theorem VSkp16 : Valid Tryz.prog Skp16 := Valid.add VSkp15 qcc
def q4N (m0 m1 m2 m3 m4 m5 m6 m7 m8 m9 mA mB s0 s1 s2 p0 p1 p2 p3 : Int) (post : DV → Prop) : Prop := lt (wr (p0 - m0)) fun x1 => lt (wr (p1 - m1)) fun x2 => lt (wr (p2 - m2)) fun x3 => lt (IntKind.i64.wrap (p3 - m3)) fun x4 => (0 ≤ (0 : Int) ∧ (0 : Int) < ((3 : Nat) : Int)) ∧ (lt (IntKind.i64.wrap (m4 * x1)) fun x5 => (0 ≤ (0 : Int) ∧ (0 : Int) < ((3 : Nat) : Int)) ∧ (lt (IntKind.i64.wrap (x4 * s0)) fun x6 => lt (IntKind.i64.wrap (x5 - x6)) fun x7 => (0 ≤ (0 : Int) ∧ (0 : Int) < ((3 : Nat) : Int)) ∧ ((0 ≤ (1 : Int) ∧ (1 : Int) < ((3 : Nat) : Int)) ∧ (lt (IntKind.i64.wrap (m4 * x2)) fun x8 => (0 ≤ (1 : Int) ∧ (1 : Int) < ((3 : Nat) : Int)) ∧ (lt (IntKind.i64.wrap (x4 * s1)) fun x9 => lt (IntKind.i64.wrap (x8 - x9)) fun x10 => (0 ≤ (1 : Int) ∧ (1 : Int) < ((3 : Nat) : Int)) ∧ ((0 ≤ (2 : Int) ∧ (2 : Int) < ((3 : Nat) : Int)) ∧ (lt (IntKind.i64.wrap (m4 * x3)) fun x11 => (0 ≤ (2 : Int) ∧ (2 : Int) < ((3 : Nat) : Int)) ∧ (lt (IntKind.i64.wrap (x4 * s2)) fun x12 => lt (IntKind.i64.wrap (x11 - x12)) fun x13 => (0 ≤ (2 : Int) ∧ (2 : Int) < ((3 : Nat) : Int)) ∧ (lt (dotW (V3.mk x7 x10 x13) (V3.mk s0 s1 s2)) fun x14 => lt (dotW (V3.mk x7 x10 x13) (V3.mk x7 x10 x13)) fun x15 => (cond (x15 == (0 : Int)) ((true = true) ∧ (True)) (cond (decide (x14 ≤ (0 : Int))) (lt (IntKind.i64.wrap (x14 * x14)) fun x21 => lt (dotW (V3.mk s0 s1 s2) (V3.mk s0 s1 s2)) fun x22 => lt (wr (wr (m7 * m4) * m4)) fun x23 => lt (IntKind.i64.wrap (x22 - x23)) fun x24 => lt (IntKind.i64.wrap (x24 * x15)) fun x25 => True) ((false = false) ∧ (True)))) ∧ (lt ((bif (x15 == (0 : Int)) then true else (bif decide (x14 ≤ (0 : Int)) then decide ((IntKind.i64.wrap (x14 * x14)) ≥ (IntKind.i64.wrap ((IntKind.i64.wrap ((dotW (V3.mk s0 s1 s2) (V3.mk s0 s1 s2)) - (wr (wr (m7 * m4) * m4)))) * x15))) else false))) fun x26 => post (.t (.c (.v (.bool x26))))))))))))))
def q8Z : Ann := ⟨fun r => qr r [(1, ([[], [0], [], [2], [2, 3], [0, 1, 2, 3, 4], [], [6], [], [8], [8, 9], [6, 7, 8, 9, 10], [], [0, 1, 2, 3, 4, 5, 12], [0, 1, 2, 3, 4, 5, 6, 7, 8, 9, 10, 11, 12, 13]], [[18, 7], [18, 7], [18, 7], [18, 7], [18, 7], [7], [18, 7], [7, 18], [18, 7], [18, 7], [7, 18], [18, 7], [18], [9999, 7], []])), (6, ([[], [], [1], [1, 2], [], [4], [4, 5], [1, 2, 3, 4, 5, 6], [], [], [9], [9, 10], [8, 9, 10, 11], [1, 2, 3, 4, 5, 6, 7, 8, 9, 10, 11, 12], [0, 1, 2, 3, 4, 5, 6, 7, 8, 9, 10, 11, 12, 13], [0, 1, 2, 3, 4, 5, 6, 7, 8, 9, 10, 11, 12, 13, 14]], [[], [], [], [], [], [], [], [], [], [], [], [], [], [], [], []])), (8, ([[], [], [0, 1], [], [], [0, 1, 2, 3, 4], [0, 1, 2, 3, 4, 5], [0, 1, 2, 3, 4, 5, 6]], [[46, 49], [46, 49], [49], [46, 49], [46, 49], [], [], []])), (9, ([[], [0], [0, 1], [0, 1, 2], [0, 1, 2, 3], [0, 1, 2, 3, 4], [0, 1, 2, 3, 4, 5], [0, 1, 2, 3, 4, 5], [0, 1, 2, 3, 4, 5, 6, 7], [0, 1, 2, 3, 4, 5], [0, 1, 2, 3, 4, 5], [0, 1, 2, 3, 4, 5, 9, 10], [0, 1, 2, 3, 4, 5], [0, 1, 2, 3, 4, 5, 9, 10, 11, 12], [0, 1, 2, 3, 4, 5, 9, 10, 11, 12, 13], [0, 1, 2, 3, 4, 5], [0, 1, 2, 3, 4, 5, 9, 10, 11, 12, 13, 14, 15], [0, 1, 2, 3, 4, 5, 6, 7, 8, 9, 10, 11, 12, 13, 14, 15, 16], [0, 1, 2, 3, 4, 5, 6, 7, 8, 9, 10, 11, 12, 13, 14, 15, 16, 17], [0, 1, 2, 3, 4, 5, 6, 7, 8, 9, 10, 11, 12, 13, 14, 15, 16, 17, 18], [0, 1, 2, 3, 4, 5, 6, 7, 8, 9, 10, 11, 12, 13, 14, 15, 16, 17, 18, 19]], [[61, 63], [61, 63], [61, 63], [61, 63], [61, 63], [61, 63], [61, 63], [61, 63], [61, 63], [61, 63], [61, 63], [63], [61, 63], [], [], [61, 63], [], [], [], [], []]))], fun b => qr b [(0, (some 4, some ⟨[3, 4, 7, 8, 9, 25], [3, 4, 7, 9], []⟩))], fun _ => [], noIt, false, fun r => qr r [(9, (3, [6]))], fun _ => none⟩
theorem q8u (m0 m1 m2 m3 m4 m5 m6 m7 m8 m9 mA mB s0 s1 s2 p0 p1 p2 p3 : Int) (hp : ((TM.mk m0 m1 m2 m3 m4 m5 m6 m7 m8 m9 mA mB)).Ok ∧ ((V3.mk s0 s1 s2) : V3).inS 20 = true ∧ ((TM.mk m0 m1 m2 m3 m4 m5 m6 m7 m8 m9 mA mB)).permit (V3.mk s0 s1 s2) ∧ (V3.mk p0 p1 p2).inS 1000 = true ∧ -1000101 ≤ p3 ∧ p3 ≤ 1000100) : q4N m0 m1 m2 m3 m4 m5 m6 m7 m8 m9 mA mB s0 s1 s2 p0 p1 p2 p3 (fun r => LeD r (.t (.c (.v (.bool (((TM.mk m0 m1 m2 m3 m4 m5 m6 m7 m8 m9 mA mB)).reached (V3.mk s0 s1 s2) ⟨p0, p1, p2⟩ p3)))))) := by
 obtain ⟨ho, hs, hpm, hp, ht⟩ := hp
 obtain ⟨n1, n2, n3, nS, na, nb, nc, nbb, nac⟩ := qmt ho hs hpm hp ht
 have hw := way_sz ho hs hp ht
 obtain ⟨a1, a2, a3, a4⟩ : (-2000 ≤ p0 - m0 ∧ p0 - m0 ≤ 2000) ∧ (-40000 ≤ m4 * (p0 - m0) ∧ m4 * (p0 - m0) ≤ 40000) ∧ (-1010101 ≤ p3 - m3 ∧ p3 - m3 ≤ 1010101) ∧ (-20202020 ≤ (p3 - m3) * s0 ∧ (p3 - m3) * s0 ≤ 20202020) := qfc ho hs hp ht 0
 obtain ⟨b1, b2, b3, b4⟩ : (-2000 ≤ p1 - m1 ∧ p1 - m1 ≤ 2000) ∧ (-40000 ≤ m4 * (p1 - m1) ∧ m4 * (p1 - m1) ≤ 40000) ∧ (-1010101 ≤ p3 - m3 ∧ p3 - m3 ≤ 1010101) ∧ (-20202020 ≤ (p3 - m3) * s1 ∧ (p3 - m3) * s1 ≤ 20202020) := qfc ho hs hp ht 1
 obtain ⟨c1, c2, c3, c4⟩ : (-2000 ≤ p2 - m2 ∧ p2 - m2 ≤ 2000) ∧ (-40000 ≤ m4 * (p2 - m2) ∧ m4 * (p2 - m2) ≤ 40000) ∧ (-1010101 ≤ p3 - m3 ∧ p3 - m3 ≤ 1010101) ∧ (-20202020 ≤ (p3 - m3) * s2 ∧ (p3 - m3) * s2 ≤ 20202020) := qfc ho hs hp ht 2
 have ks := slow_wi ho
 unfold q4N
 refine lt_i fun x1 h1 => lt_i fun x2 h2 => lt_i fun x3 h3 => lt_i fun x4 h4 => ⟨by decide, lt_i fun x5 h5 => ⟨by decide, lt_i fun x6 h6 => lt_i fun x7 h7 => ⟨by decide, by decide, lt_i fun x8 h8 => ⟨by decide, lt_i fun x9 h9 => lt_i fun x10 h10 => ⟨by decide, by decide, lt_i fun x11 h11 => ⟨by decide, lt_i fun x12 h12 => lt_i fun x13 h13 => ⟨by decide, lt_i fun x14 h14 => lt_i fun x15 h15 => ⟨?_, lt_i fun x26 h26 => leB ?_⟩⟩⟩⟩⟩⟩⟩⟩
 ·(repeat' first | trivial | (refine qg ?_ ?_ <;> intro _) | (refine And.intro ?_ ?_) | (refine lt_i ?_; intro _ _))
 rw [wri (by omega)] at h1 h2 h3
 rw [wi (by omega)] at h4
 subst h1 h2 h3 h4
 rw [wi (by omega)] at h5 h6 h8 h9 h11 h12
 subst h5 h6 h8 h9 h11 h12
 rw [wi (by omega)] at h7 h10 h13
 subst h7 h10 h13
 have h14 : dotW (((TM.mk m0 m1 m2 m3 m4 m5 m6 m7 m8 m9 mA mB)).way ⟨s0, s1, s2⟩ ⟨p0, p1, p2⟩ p3) ⟨s0, s1, s2⟩ = x14 := h14
 have h15 : dotW (((TM.mk m0 m1 m2 m3 m4 m5 m6 m7 m8 m9 mA mB)).way ⟨s0, s1, s2⟩ ⟨p0, p1, p2⟩ p3) (((TM.mk m0 m1 m2 m3 m4 m5 m6 m7 m8 m9 mA mB)).way ⟨s0, s1, s2⟩ ⟨p0, p1, p2⟩ p3) = x15 := h15
 rw [qhw hw hs (by decide)] at h14
 rw [qhw hw hw (by decide)] at h15
 subst h14 h15
 rw [← h26, qhw hs hs (by decide)]
 simp only at ks
 rw [ks, wi (n := _ - _) (by omega), wi (n := _ * _) (by omega), wi (n := _ * _) (by omega)]
 unfold TM.reached qdJ
 generalize ((TM.mk m0 m1 m2 m3 m4 m5 m6 m7 m8 m9 mA mB)).way ⟨s0, s1, s2⟩ ⟨p0, p1, p2⟩ p3 = V
 generalize V.dot V = c
 generalize V.dot (V3.mk s0 s1 s2) = b
 generalize (V3.mk s0 s1 s2).dot (V3.mk s0 s1 s2) - ((TM.mk m0 m1 m2 m3 m4 m5 m6 m7 m8 m9 mA mB)).slow = a
 have e : ∀ x y z : Bool, (bif x then true else (bif y then z else false)) = (x || (y && z)) := by decide
 rw [e]
 congr 1
def q1Y : Con := fun args => match args with
 | [.t (.a [.v (.int .i64 m0), .v (.int .i64 m1), .v (.int .i64 m2), .v (.int .i64 m3), .v (.int .i64 m4), .v (.int .i64 m5), .v (.int .i64 m6), .v (.int .i64 m7), .v (.int .i64 m8), .v (.int .i64 m9), .v (.int .i64 mA), .v (.int .i64 mB)]), .t (.a [.v (.int .i64 s0), .v (.int .i64 s1), .v (.int .i64 s2)]), .t (.a [.v (.int .i64 p0), .v (.int .i64 p1), .v (.int .i64 p2), .v (.int .i64 p3)])] => some (.t (.c (.v (.bool (((TM.mk m0 m1 m2 m3 m4 m5 m6 m7 m8 m9 mA mB)).reached (V3.mk s0 s1 s2) ⟨p0, p1, p2⟩ p3)))), some (((TM.mk m0 m1 m2 m3 m4 m5 m6 m7 m8 m9 mA mB)).Ok ∧ ((V3.mk s0 s1 s2) : V3).inS 20 = true ∧ ((TM.mk m0 m1 m2 m3 m4 m5 m6 m7 m8 m9 mA mB)).permit (V3.mk s0 s1 s2) ∧ (V3.mk p0 p1 p2).inS 1000 = true ∧ -1000101 ≤ p3 ∧ p3 ≤ 1000100), false)
 | _ => none
theorem q9T : Ok Tryz.prog 95 q1Y := by
 refine Ok.fn (ann := q8Z) mixed qo VSkp16 ValidIt.no (fn := Tryz.f95) (by kernel_rfl) (by kernel_rfl) (by kernel_rfl) fun args r pre fresh h hp => ?_
 unfold q1Y at h
 split at h
 ·rename_i m0 m1 m2 m3 m4 m5 m6 m7 m8 m9 mA mB s0 s1 s2 p0 p1 p2 p3
  cases h
  refine ⟨rfl, fun _ _ _ => False, _, LeA.refl _, Nat.le_of_ble_eq_true (by kernel_rfl), ?_, ?_⟩
  ·exact cast (by kernel_rfl) (q8u m0 m1 m2 m3 m4 m5 m6 m7 m8 m9 mA mB s0 s1 s2 p0 p1 p2 p3 hp)
  ·exact cast (by kernel_rfl) trivial
 ·cases h
def Skp17 : Sum := addS Skp16 95 q1Y
theorem VSkp17 : Valid Tryz.prog Skp17 := Valid.add VSkp16 q9T
def TM.fE (m : TM) (s p : V3) : Int := qd [qd [m.both s, plE p], unl (inB (m.first s p) (-1000000) 1000000) 8]
def TM.fV (m : TM) (s p : V3) : Int := if m.fE s p = 0 then m.first s p else 0
def TM.nE (m : TM) (s p : V3) : Int := qd [qd [m.both s, plE p], unl (decide (rN (m.num s p) (s.dot s) ≤ 1000000000)) 8]
def TM.nN (m : TM) (s p : V3) : Int := if m.nE s p = 0 then rN (m.num s p) (s.dot s) else 0
def TM.nD (m : TM) (s p : V3) : Int := if m.nE s p = 0 then rD (m.num s p) (s.dot s) else 0
theorem fz1 {a b : Int} (h : a ≠ 0) : qd [a, b] = a := by simp [qd, h]
theorem fz1' {b : Int} {k : Bool} (hk : k = true) : qd [0, unl k b] = 0 := by subst hk; simp [qd, unl]
theorem fz1f {b : Int} {k : Bool} (hk : k = false) (hb : b ≠ 0) : qd [0, unl k b] = b := by subst hk; simp [qd, unl, hb]
theorem half_u {a b : Int} (h0 : 0 ≤ a) (h1 : a < b) (h2 : b ≤ 2000002) : IntKind.i64.wrap (Int.fdiv (IntKind.u64.wrap (a + b)) (2 ^ (min 1 64))) = (a + b) / 2 := by
 have e : IntKind.u64.wrap (a + b) = a + b := IntWalk.u64_in _ (by omega)
 rw [e]
 have e2 : Int.fdiv (a + b) (2 ^ (min 1 64)) = (a + b) / 2 := Int.fdiv_eq_ediv_of_nonneg _ (by decide)
 rw [e2]
 exact wi (by omega)
def q3Z (i m0 m1 m2 m3 m4 m5 m6 m7 m8 m9 mA mB s0 s1 s2 p0 p1 p2 : Int) (post : DV → Prop) : Prop := lt (IntKind.i64.wrap (i - (1000000 : Int))) fun x1 => lt (IntKind.i64.wrap (x1 - (1 : Int))) fun x2 => (((TM.mk m0 m1 m2 m3 m4 m5 m6 m7 m8 m9 mA mB)).Ok ∧ ((V3.mk s0 s1 s2) : V3).inS 20 = true ∧ ((TM.mk m0 m1 m2 m3 m4 m5 m6 m7 m8 m9 mA mB)).permit (V3.mk s0 s1 s2) ∧ (V3.mk p0 p1 p2).inS 1000 = true ∧ -1000101 ≤ x2 ∧ x2 ≤ 1000100) ∧ (post (.t (.c (.v (.bool (((TM.mk m0 m1 m2 m3 m4 m5 m6 m7 m8 m9 mA mB)).reached (V3.mk s0 s1 s2) ⟨p0, p1, p2⟩ x2))))))
def q7S : Ann := An (fun _ => none) fun _ => none
theorem q7z (i m0 m1 m2 m3 m4 m5 m6 m7 m8 m9 mA mB s0 s1 s2 p0 p1 p2 : Int) (hp : ((TM.mk m0 m1 m2 m3 m4 m5 m6 m7 m8 m9 mA mB)).Ok ∧ ((V3.mk s0 s1 s2) : V3).inS 20 = true ∧ ((TM.mk m0 m1 m2 m3 m4 m5 m6 m7 m8 m9 mA mB)).permit (V3.mk s0 s1 s2) ∧ ((V3.mk p0 p1 p2) : V3).inS 1000 = true ∧ 0 ≤ i ∧ i ≤ 2000001) : q3Z i m0 m1 m2 m3 m4 m5 m6 m7 m8 m9 mA mB s0 s1 s2 p0 p1 p2 (fun r => LeD r (.t (.c (.v (.bool (decide (((TM.mk m0 m1 m2 m3 m4 m5 m6 m7 m8 m9 mA mB)).first (V3.mk s0 s1 s2) (V3.mk p0 p1 p2) + 1000001 ≤ i))))))) := by
 obtain ⟨ho, hs, hpm, hp, h1, h2⟩ := hp
 have hsl : ((TM.mk m0 m1 m2 m3 m4 m5 m6 m7 m8 m9 mA mB)).slow < (V3.mk s0 s1 s2).dot ⟨s0, s1, s2⟩ := by have := ho.slo; have := hpm.1; omega
 unfold q3Z
 refine lt_i fun x1 e1 => lt_i fun x2 e2 => ?_
 rw [wi (by omega)] at e1
 subst e1
 rw [wi (by omega)] at e2
 subst e2
 refine ⟨⟨ho, hs, hpm, hp, by omega, by omega⟩, leB ?_⟩
 rw [qbp ((TM.mk m0 m1 m2 m3 m4 m5 m6 m7 m8 m9 mA mB)) ⟨s0, s1, s2⟩ ⟨p0, p1, p2⟩ ho.slp hsl (by omega) (by omega)]
 exact decide_eq_decide.2 (by omega)
def q1z : Con := fun args => match args with
 | [.t (.c (.v (.int .i64 i))), .t (.c (.px 12 0 c_pm)), .t (.c (.px 3 0 c_ps)), .t (.c (.px 3 0 c_pq))] => some (.t (.c (.v (.bool (decide (((⟨(qb (c_pm 0)), (qb (c_pm 1)), (qb (c_pm 2)), (qb (c_pm 3)), (qb (c_pm 4)), (qb (c_pm 5)), (qb (c_pm 6)), (qb (c_pm 7)), (qb (c_pm 8)), (qb (c_pm 9)), (qb (c_pm 10)), (qb (c_pm 11))⟩ : TM)).first (⟨(qb (c_ps 0)), (qb (c_ps 1)), (qb (c_ps 2))⟩ : V3) (⟨(qb (c_pq 0)), (qb (c_pq 1)), (qb (c_pq 2))⟩ : V3) + 1000001 ≤ i))))), some (qQ [0, 1, 2, 3, 4, 5, 6, 7, 8, 9, 10, 11] c_pm = true ∧ qQ [0, 1, 2] c_ps = true ∧ qQ [0, 1, 2] c_pq = true ∧ ((⟨(qb (c_pm 0)), (qb (c_pm 1)), (qb (c_pm 2)), (qb (c_pm 3)), (qb (c_pm 4)), (qb (c_pm 5)), (qb (c_pm 6)), (qb (c_pm 7)), (qb (c_pm 8)), (qb (c_pm 9)), (qb (c_pm 10)), (qb (c_pm 11))⟩ : TM)).Ok ∧ ((⟨(qb (c_ps 0)), (qb (c_ps 1)), (qb (c_ps 2))⟩ : V3) : V3).inS 20 = true ∧ ((⟨(qb (c_pm 0)), (qb (c_pm 1)), (qb (c_pm 2)), (qb (c_pm 3)), (qb (c_pm 4)), (qb (c_pm 5)), (qb (c_pm 6)), (qb (c_pm 7)), (qb (c_pm 8)), (qb (c_pm 9)), (qb (c_pm 10)), (qb (c_pm 11))⟩ : TM)).permit (⟨(qb (c_ps 0)), (qb (c_ps 1)), (qb (c_ps 2))⟩ : V3) ∧ ((⟨(qb (c_pq 0)), (qb (c_pq 1)), (qb (c_pq 2))⟩ : V3) : V3).inS 1000 = true ∧ 0 ≤ i ∧ i ≤ 2000001), false)
 | _ => none
theorem q8v : Ok Tryz.prog 94 q1z := by
 refine Ok.fn (ann := q7S) mixed qo VSkp17 ValidIt.no (fn := Tryz.f94) (by kernel_rfl) (by kernel_rfl) (by kernel_rfl) fun args r pre fresh h hp => ?_
 unfold q1z at h
 split at h
 ·rename_i i c_pm c_ps c_pq
  cases h
  obtain ⟨hp0, hp1, hp2, hp⟩ := hp
  refine ⟨rfl, fun _ _ _ => False, _, (qk (LeD.refl _) (qk (leT_c (leC_p (LeCs.cons (leC_i (qh hp0 0 (by decide))) (LeCs.cons (leC_i (qh hp0 1 (by decide))) (LeCs.cons (leC_i (qh hp0 2 (by decide))) (LeCs.cons (leC_i (qh hp0 3 (by decide))) (LeCs.cons (leC_i (qh hp0 4 (by decide))) (LeCs.cons (leC_i (qh hp0 5 (by decide))) (LeCs.cons (leC_i (qh hp0 6 (by decide))) (LeCs.cons (leC_i (qh hp0 7 (by decide))) (LeCs.cons (leC_i (qh hp0 8 (by decide))) (LeCs.cons (leC_i (qh hp0 9 (by decide))) (LeCs.cons (leC_i (qh hp0 10 (by decide))) (LeCs.cons (leC_i (qh hp0 11 (by decide))) LeCs.nil)))))))))))))) (qk (leT_c (leC_p (LeCs.cons (leC_i (qh hp1 0 (by decide))) (LeCs.cons (leC_i (qh hp1 1 (by decide))) (LeCs.cons (leC_i (qh hp1 2 (by decide))) LeCs.nil))))) (qk (leT_c (leC_p (LeCs.cons (leC_i (qh hp2 0 (by decide))) (LeCs.cons (leC_i (qh hp2 1 (by decide))) (LeCs.cons (leC_i (qh hp2 2 (by decide))) LeCs.nil))))) qM)))), Nat.le_of_ble_eq_true (by kernel_rfl), ?_, ?_⟩
  ·exact cast (by kernel_rfl) (q7z i (qb (c_pm 0)) (qb (c_pm 1)) (qb (c_pm 2)) (qb (c_pm 3)) (qb (c_pm 4)) (qb (c_pm 5)) (qb (c_pm 6)) (qb (c_pm 7)) (qb (c_pm 8)) (qb (c_pm 9)) (qb (c_pm 10)) (qb (c_pm 11)) (qb (c_ps 0)) (qb (c_ps 1)) (qb (c_ps 2)) (qb (c_pq 0)) (qb (c_pq 1)) (qb (c_pq 2)) hp)
  ·exact cast (by kernel_rfl) trivial
 ·cases h
def Skq18 : Sum := addS Skp17 94 q1z
theorem VSkq18 : Valid Tryz.prog Skq18 := Valid.add VSkp17 q8v
def q2Z (cn m0 m1 m2 m3 m4 m5 m6 m7 m8 m9 mA mB s0 s1 s2 p0 p1 p2 v0_0 v0_1 : Int) : DS := ⟨[none, some (.t (.fn 94 [.px 12 0 (boxC [.v (.int .i64 m0), .v (.int .i64 m1), .v (.int .i64 m2), .v (.int .i64 m3), .v (.int .i64 m4), .v (.int .i64 m5), .v (.int .i64 m6), .v (.int .i64 m7), .v (.int .i64 m8), .v (.int .i64 m9), .v (.int .i64 mA), .v (.int .i64 mB)]), .px 3 0 (boxC [.v (.int .i64 s0), .v (.int .i64 s1), .v (.int .i64 s2)]), .px 3 0 (boxC [.v (.int .i64 p0), .v (.int .i64 p1), .v (.int .i64 p2)])])), none, none, none, some (.t (.c (.v (.int .i64 v0_0)))), some (.t (.c (.v (.int .i64 v0_1)))), none, none, none, none, none, none, none, none, none, none, none, none, none, none, none, none, none, none, none], [none, none, none, none, none, none, none, none, none, none, none, none, none, none, none, none, none, none, none, none, none, none, none, none, none, none]⟩
def qap (J : Inv) (cn m0 m1 m2 m3 m4 m5 m6 m7 m8 m9 mA mB s0 s1 s2 p0 p1 p2 : Int) (post : DV → Prop) : Prop := ∃ n, J 0 (n :: []) (q2Z cn m0 m1 m2 m3 m4 m5 m6 m7 m8 m9 mA mB s0 s1 s2 p0 p1 p2 0 cn)
def q3J : Ann := ⟨fun _ => none, fun b => qr b [(0, (none, some ⟨[1, 5, 6], [], []⟩))], fun _ => [], noIt, false, fun _ => none, fun _ => none⟩
def q8w (J : Inv) (cn m0 m1 m2 m3 m4 m5 m6 m7 m8 m9 mA mB s0 s1 s2 p0 p1 p2 v0_0 v0_1 : Int) (nn0 : Nat) (post : DV → Prop) : Prop := (fun (Z1 : TM) => cond (decide (v0_0 < v0_1)) (lt (IntKind.i64.wrap (v0_0 + v0_1)) fun x1 => lt (IntKind.u64.wrap x1) fun x2 => lt (Int.fdiv x2 (2 ^ (min 1 64))) fun x3 => (0 ≤ (1 : Int)) ∧ (lt (IntKind.i64.wrap x3) fun x4 => (qQ [0, 1, 2, 3, 4, 5, 6, 7, 8, 9, 10, 11] (boxC [.v (.int .i64 m0), .v (.int .i64 m1), .v (.int .i64 m2), .v (.int .i64 m3), .v (.int .i64 m4), .v (.int .i64 m5), .v (.int .i64 m6), .v (.int .i64 m7), .v (.int .i64 m8), .v (.int .i64 m9), .v (.int .i64 mA), .v (.int .i64 mB)]) = true ∧ qQ [0, 1, 2] (boxC [.v (.int .i64 s0), .v (.int .i64 s1), .v (.int .i64 s2)]) = true ∧ qQ [0, 1, 2] (boxC [.v (.int .i64 p0), .v (.int .i64 p1), .v (.int .i64 p2)]) = true ∧ (Z1).Ok ∧ ((V3.mk s0 s1 s2) : V3).inS 20 = true ∧ (Z1).permit (V3.mk s0 s1 s2) ∧ ((V3.mk p0 p1 p2) : V3).inS 1000 = true ∧ 0 ≤ x4 ∧ x4 ≤ 2000001) ∧ (cond (!(decide ((Z1).first (V3.mk s0 s1 s2) (V3.mk p0 p1 p2) + 1000001 ≤ x4))) (lt (IntKind.i64.wrap (x4 + (1 : Int))) fun x5 => J 0 (nn0 :: []) (q2Z cn m0 m1 m2 m3 m4 m5 m6 m7 m8 m9 mA mB s0 s1 s2 p0 p1 p2 x5 v0_1)) (J 0 (nn0 :: []) (q2Z cn m0 m1 m2 m3 m4 m5 m6 m7 m8 m9 mA mB s0 s1 s2 p0 p1 p2 v0_0 x4))))) (post (.t (.c (.v (.int .i64 v0_0)))))) (TM.mk m0 m1 m2 m3 m4 m5 m6 m7 m8 m9 mA mB)
theorem qhA (J : Inv) (post : DV → Prop) : AllG J (qz Tryz.prog tab Skq18 q3J J Tryz.f93 post) = (((∀ F s, ¬ J 0 (0 :: F) s) ∧ ∀ n F s, J 0 ((n + 1) :: F) s → round Tryz.prog tab Skq18 q3J J Tryz.f93 post 0 (n :: F) s) ∧ True) := by kernel_rfl
def q3q (cn m0 m1 m2 m3 m4 m5 m6 m7 m8 m9 mA mB s0 s1 s2 p0 p1 p2 : Int) : Inv := fun b F s => match b, F with
 | 0, [nn0] => ∃ (v0_0 : Int) (v0_1 : Int), s = q2Z cn m0 m1 m2 m3 m4 m5 m6 m7 m8 m9 mA mB s0 s1 s2 p0 p1 p2 v0_0 v0_1 ∧ ((((TM.mk m0 m1 m2 m3 m4 m5 m6 m7 m8 m9 mA mB)).Ok ∧ ((V3.mk s0 s1 s2) : V3).inS 20 = true ∧ ((TM.mk m0 m1 m2 m3 m4 m5 m6 m7 m8 m9 mA mB)).permit (V3.mk s0 s1 s2) ∧ ((V3.mk p0 p1 p2) : V3).inS 1000 = true) ∧ 0 ≤ v0_0 ∧ v0_0 ≤ ((TM.mk m0 m1 m2 m3 m4 m5 m6 m7 m8 m9 mA mB)).first ⟨s0, s1, s2⟩ ⟨p0, p1, p2⟩ + 1000001 ∧ ((TM.mk m0 m1 m2 m3 m4 m5 m6 m7 m8 m9 mA mB)).first ⟨s0, s1, s2⟩ ⟨p0, p1, p2⟩ + 1000001 ≤ v0_1 ∧ v0_1 ≤ 2000002 ∧ v0_1 - v0_0 < nn0)
 | _, _ => False
theorem qea (cn m0 m1 m2 m3 m4 m5 m6 m7 m8 m9 mA mB s0 s1 s2 p0 p1 p2 v0_0 v0_1 : Int) (nn0 : Nat) (hp : ((TM.mk m0 m1 m2 m3 m4 m5 m6 m7 m8 m9 mA mB)).Ok ∧ ((V3.mk s0 s1 s2) : V3).inS 20 = true ∧ ((TM.mk m0 m1 m2 m3 m4 m5 m6 m7 m8 m9 mA mB)).permit (V3.mk s0 s1 s2) ∧ ((V3.mk p0 p1 p2) : V3).inS 1000 = true ∧ cn = 2000002) (hi : (((TM.mk m0 m1 m2 m3 m4 m5 m6 m7 m8 m9 mA mB)).Ok ∧ ((V3.mk s0 s1 s2) : V3).inS 20 = true ∧ ((TM.mk m0 m1 m2 m3 m4 m5 m6 m7 m8 m9 mA mB)).permit (V3.mk s0 s1 s2) ∧ ((V3.mk p0 p1 p2) : V3).inS 1000 = true) ∧ 0 ≤ v0_0 ∧ v0_0 ≤ ((TM.mk m0 m1 m2 m3 m4 m5 m6 m7 m8 m9 mA mB)).first ⟨s0, s1, s2⟩ ⟨p0, p1, p2⟩ + 1000001 ∧ ((TM.mk m0 m1 m2 m3 m4 m5 m6 m7 m8 m9 mA mB)).first ⟨s0, s1, s2⟩ ⟨p0, p1, p2⟩ + 1000001 ≤ v0_1 ∧ v0_1 ≤ 2000002 ∧ v0_1 - v0_0 < (nn0 + 1)) : q8w (q3q cn m0 m1 m2 m3 m4 m5 m6 m7 m8 m9 mA mB s0 s1 s2 p0 p1 p2) cn m0 m1 m2 m3 m4 m5 m6 m7 m8 m9 mA mB s0 s1 s2 p0 p1 p2 v0_0 v0_1 nn0 (fun r => LeD r (.t (.c (.v (.int .i64 (((TM.mk m0 m1 m2 m3 m4 m5 m6 m7 m8 m9 mA mB)).first (V3.mk s0 s1 s2) (V3.mk p0 p1 p2) + 1000001)))))) := by
 obtain ⟨hr, i1, i2, i3, i4, i5⟩ := hi
 unfold q8w
 refine qg (fun h => ?_) (fun h => leI ?_)
 ·have h := of_decide_eq_true h
  refine lt_i fun x1 h1 => lt_i fun x2 h2 => lt_i fun x3 h3 => ⟨by decide, lt_i fun x4 h4 => ?_⟩
  rw [wi (by omega)] at h1
  subst h1 h2 h3
  rw [half_u i1 h i4] at h4
  subst h4
  refine ⟨⟨rfl, rfl, rfl, hr.1, hr.2.1, hr.2.2.1, hr.2.2.2, by omega, by omega⟩, qg (fun e => lt_i fun x5 h5 => ?_) (fun e => ?_)⟩
  ·rw [wi (by omega)] at h5
   subst h5
   have e : ¬ (((TM.mk m0 m1 m2 m3 m4 m5 m6 m7 m8 m9 mA mB)).first ⟨s0, s1, s2⟩ ⟨p0, p1, p2⟩ + 1000001 ≤ (v0_0 + v0_1) / 2) := by simpa using e
   exact ⟨_, _, rfl, hr, by omega, by omega, by omega, by omega, by omega⟩
  ·have e : ((TM.mk m0 m1 m2 m3 m4 m5 m6 m7 m8 m9 mA mB)).first ⟨s0, s1, s2⟩ ⟨p0, p1, p2⟩ + 1000001 ≤ (v0_0 + v0_1) / 2 := by simpa using e
   exact ⟨_, _, rfl, hr, by omega, by omega, by omega, by omega, by omega⟩
 ·have h := of_decide_eq_false h
  omega
theorem qfj (cn m0 m1 m2 m3 m4 m5 m6 m7 m8 m9 mA mB s0 s1 s2 p0 p1 p2 : Int) (hp : ((TM.mk m0 m1 m2 m3 m4 m5 m6 m7 m8 m9 mA mB)).Ok ∧ ((V3.mk s0 s1 s2) : V3).inS 20 = true ∧ ((TM.mk m0 m1 m2 m3 m4 m5 m6 m7 m8 m9 mA mB)).permit (V3.mk s0 s1 s2) ∧ ((V3.mk p0 p1 p2) : V3).inS 1000 = true ∧ cn = 2000002) : qap (q3q cn m0 m1 m2 m3 m4 m5 m6 m7 m8 m9 mA mB s0 s1 s2 p0 p1 p2) cn m0 m1 m2 m3 m4 m5 m6 m7 m8 m9 mA mB s0 s1 s2 p0 p1 p2 (fun r => LeD r (.t (.c (.v (.int .i64 (((TM.mk m0 m1 m2 m3 m4 m5 m6 m7 m8 m9 mA mB)).first (V3.mk s0 s1 s2) (V3.mk p0 p1 p2) + 1000001)))))) := by
 obtain ⟨ho, hs, hpm, hq, rfl⟩ := hp
 have hF := qk6 ((TM.mk m0 m1 m2 m3 m4 m5 m6 m7 m8 m9 mA mB)) ⟨s0, s1, s2⟩ ⟨p0, p1, p2⟩
 unfold qap
 exact ⟨2000003, 0, 2000002, rfl, ⟨ho, hs, hpm, hq⟩, by omega, by omega, by omega, by omega, by omega⟩
theorem qgo (cn m0 m1 m2 m3 m4 m5 m6 m7 m8 m9 mA mB s0 s1 s2 p0 p1 p2 : Int) (hp : ((TM.mk m0 m1 m2 m3 m4 m5 m6 m7 m8 m9 mA mB)).Ok ∧ ((V3.mk s0 s1 s2) : V3).inS 20 = true ∧ ((TM.mk m0 m1 m2 m3 m4 m5 m6 m7 m8 m9 mA mB)).permit (V3.mk s0 s1 s2) ∧ ((V3.mk p0 p1 p2) : V3).inS 1000 = true ∧ cn = 2000002) : AllG (q3q cn m0 m1 m2 m3 m4 m5 m6 m7 m8 m9 mA mB s0 s1 s2 p0 p1 p2) (qz Tryz.prog tab Skq18 q3J (q3q cn m0 m1 m2 m3 m4 m5 m6 m7 m8 m9 mA mB s0 s1 s2 p0 p1 p2) Tryz.f93 (fun r => LeD r (.t (.c (.v (.int .i64 (((TM.mk m0 m1 m2 m3 m4 m5 m6 m7 m8 m9 mA mB)).first (V3.mk s0 s1 s2) (V3.mk p0 p1 p2) + 1000001))))))) := by
 rw [qhA]
 refine ⟨⟨?_, ?_⟩, trivial⟩
 ·intro F s h
  obtain _ | ⟨g, F⟩ := F
  case cons => exact h.elim
  obtain ⟨w0, w1, rfl, hi⟩ := h
  omega
 ·intro n F s h
  obtain _ | ⟨g, F⟩ := F
  case cons => exact h.elim
  obtain ⟨w0, w1, rfl, hi⟩ := h
  exact cast (by kernel_rfl) (qea cn m0 m1 m2 m3 m4 m5 m6 m7 m8 m9 mA mB s0 s1 s2 p0 p1 p2 _ _ _ hp hi)
def q5Q : Con := fun args => match args with
 | [.t (.c (.v (.int .i64 cn))), .t (.fn 94 [.px 12 0 c_pm, .px 3 0 c_ps, .px 3 0 c_pq])] => some (.t (.c (.v (.int .i64 (((⟨(qb (c_pm 0)), (qb (c_pm 1)), (qb (c_pm 2)), (qb (c_pm 3)), (qb (c_pm 4)), (qb (c_pm 5)), (qb (c_pm 6)), (qb (c_pm 7)), (qb (c_pm 8)), (qb (c_pm 9)), (qb (c_pm 10)), (qb (c_pm 11))⟩ : TM)).first (⟨(qb (c_ps 0)), (qb (c_ps 1)), (qb (c_ps 2))⟩ : V3) (⟨(qb (c_pq 0)), (qb (c_pq 1)), (qb (c_pq 2))⟩ : V3) + 1000001)))), some (qQ [0, 1, 2, 3, 4, 5, 6, 7, 8, 9, 10, 11] c_pm = true ∧ qQ [0, 1, 2] c_ps = true ∧ qQ [0, 1, 2] c_pq = true ∧ ((⟨(qb (c_pm 0)), (qb (c_pm 1)), (qb (c_pm 2)), (qb (c_pm 3)), (qb (c_pm 4)), (qb (c_pm 5)), (qb (c_pm 6)), (qb (c_pm 7)), (qb (c_pm 8)), (qb (c_pm 9)), (qb (c_pm 10)), (qb (c_pm 11))⟩ : TM)).Ok ∧ ((⟨(qb (c_ps 0)), (qb (c_ps 1)), (qb (c_ps 2))⟩ : V3) : V3).inS 20 = true ∧ ((⟨(qb (c_pm 0)), (qb (c_pm 1)), (qb (c_pm 2)), (qb (c_pm 3)), (qb (c_pm 4)), (qb (c_pm 5)), (qb (c_pm 6)), (qb (c_pm 7)), (qb (c_pm 8)), (qb (c_pm 9)), (qb (c_pm 10)), (qb (c_pm 11))⟩ : TM)).permit (⟨(qb (c_ps 0)), (qb (c_ps 1)), (qb (c_ps 2))⟩ : V3) ∧ ((⟨(qb (c_pq 0)), (qb (c_pq 1)), (qb (c_pq 2))⟩ : V3) : V3).inS 1000 = true ∧ cn = 2000002), false)
 | _ => none
theorem qhB : Ok Tryz.prog 93 q5Q := by
 refine Ok.fn (ann := q3J) mixed qo VSkq18 ValidIt.no (fn := Tryz.f93) (by kernel_rfl) (by kernel_rfl) (by kernel_rfl) fun args r pre fresh h hp => ?_
 unfold q5Q at h
 split at h
 ·rename_i cn c_pm c_ps c_pq
  cases h
  obtain ⟨hp0, hp1, hp2, hp⟩ := hp
  refine ⟨rfl, q3q cn (qb (c_pm 0)) (qb (c_pm 1)) (qb (c_pm 2)) (qb (c_pm 3)) (qb (c_pm 4)) (qb (c_pm 5)) (qb (c_pm 6)) (qb (c_pm 7)) (qb (c_pm 8)) (qb (c_pm 9)) (qb (c_pm 10)) (qb (c_pm 11)) (qb (c_ps 0)) (qb (c_ps 1)) (qb (c_ps 2)) (qb (c_pq 0)) (qb (c_pq 1)) (qb (c_pq 2)), _, (qk (LeD.refl _) (qk (leT_f (LeCs.cons (leC_p (LeCs.cons (leC_i (qh hp0 0 (by decide))) (LeCs.cons (leC_i (qh hp0 1 (by decide))) (LeCs.cons (leC_i (qh hp0 2 (by decide))) (LeCs.cons (leC_i (qh hp0 3 (by decide))) (LeCs.cons (leC_i (qh hp0 4 (by decide))) (LeCs.cons (leC_i (qh hp0 5 (by decide))) (LeCs.cons (leC_i (qh hp0 6 (by decide))) (LeCs.cons (leC_i (qh hp0 7 (by decide))) (LeCs.cons (leC_i (qh hp0 8 (by decide))) (LeCs.cons (leC_i (qh hp0 9 (by decide))) (LeCs.cons (leC_i (qh hp0 10 (by decide))) (LeCs.cons (leC_i (qh hp0 11 (by decide))) LeCs.nil))))))))))))) (LeCs.cons (leC_p (LeCs.cons (leC_i (qh hp1 0 (by decide))) (LeCs.cons (leC_i (qh hp1 1 (by decide))) (LeCs.cons (leC_i (qh hp1 2 (by decide))) LeCs.nil)))) (LeCs.cons (leC_p (LeCs.cons (leC_i (qh hp2 0 (by decide))) (LeCs.cons (leC_i (qh hp2 1 (by decide))) (LeCs.cons (leC_i (qh hp2 2 (by decide))) LeCs.nil)))) LeCs.nil)))) qM)), Nat.le_of_ble_eq_true (by kernel_rfl), ?_, ?_⟩
  ·exact cast (by kernel_rfl) (qfj cn (qb (c_pm 0)) (qb (c_pm 1)) (qb (c_pm 2)) (qb (c_pm 3)) (qb (c_pm 4)) (qb (c_pm 5)) (qb (c_pm 6)) (qb (c_pm 7)) (qb (c_pm 8)) (qb (c_pm 9)) (qb (c_pm 10)) (qb (c_pm 11)) (qb (c_ps 0)) (qb (c_ps 1)) (qb (c_ps 2)) (qb (c_pq 0)) (qb (c_pq 1)) (qb (c_pq 2)) hp)
  ·exact qgo cn (qb (c_pm 0)) (qb (c_pm 1)) (qb (c_pm 2)) (qb (c_pm 3)) (qb (c_pm 4)) (qb (c_pm 5)) (qb (c_pm 6)) (qb (c_pm 7)) (qb (c_pm 8)) (qb (c_pm 9)) (qb (c_pm 10)) (qb (c_pm 11)) (qb (c_ps 0)) (qb (c_ps 1)) (qb (c_ps 2)) (qb (c_pq 0)) (qb (c_pq 1)) (qb (c_pq 2)) hp
 ·cases h
def Skq19 : Sum := addS Skq18 93 q5Q
theorem VSkq19 : Valid Tryz.prog Skq19 := Valid.add VSkq18 qhB
def q4O (m0 m1 m2 m3 m4 m5 m6 m7 m8 m9 mA mB s0 s1 s2 p0 p1 p2 : Int) (post : DV → Prop) : Prop := (fun (Z1 : TM) => (qQ [0, 1, 2, 3, 4, 5, 6, 7, 8, 9, 10, 11] (boxC [.v (.int .i64 m0), .v (.int .i64 m1), .v (.int .i64 m2), .v (.int .i64 m3), .v (.int .i64 m4), .v (.int .i64 m5), .v (.int .i64 m6), .v (.int .i64 m7), .v (.int .i64 m8), .v (.int .i64 m9), .v (.int .i64 mA), .v (.int .i64 mB)]) = true ∧ qQ [0, 1, 2] (boxC [.v (.int .i64 s0), .v (.int .i64 s1), .v (.int .i64 s2)]) = true ∧ qQ [0, 1, 2] (boxC [.v (.int .i64 p0), .v (.int .i64 p1), .v (.int .i64 p2)]) = true ∧ (Z1).Ok ∧ ((V3.mk s0 s1 s2) : V3).inS 20 = true ∧ (Z1).permit (V3.mk s0 s1 s2) ∧ ((V3.mk p0 p1 p2) : V3).inS 1000 = true ∧ (2000002 : Int) = 2000002) ∧ (lt (IntKind.i64.wrap (((Z1).first (V3.mk s0 s1 s2) (V3.mk p0 p1 p2) + 1000001) - (1000000 : Int))) fun x1 => lt (IntKind.i64.wrap (x1 - (1 : Int))) fun x2 => post (.tu [.c (.v (.int .i64 x2)), .c (.v (.bool (inB x2 (-1000000 : Int) (1000000 : Int))))]))) (TM.mk m0 m1 m2 m3 m4 m5 m6 m7 m8 m9 mA mB)
def q9a : Ann := An (fun _ => none) fun _ => none
theorem q8x (m0 m1 m2 m3 m4 m5 m6 m7 m8 m9 mA mB s0 s1 s2 p0 p1 p2 : Int) (hp : ((TM.mk m0 m1 m2 m3 m4 m5 m6 m7 m8 m9 mA mB)).Ok ∧ ((V3.mk s0 s1 s2) : V3).inS 20 = true ∧ ((TM.mk m0 m1 m2 m3 m4 m5 m6 m7 m8 m9 mA mB)).permit (V3.mk s0 s1 s2) ∧ ((V3.mk p0 p1 p2) : V3).inS 1000 = true) : q4O m0 m1 m2 m3 m4 m5 m6 m7 m8 m9 mA mB s0 s1 s2 p0 p1 p2 (fun r => LeD r (.tu [.c (.v (.int .i64 (((TM.mk m0 m1 m2 m3 m4 m5 m6 m7 m8 m9 mA mB)).first (V3.mk s0 s1 s2) (V3.mk p0 p1 p2)))), .c (.v (.bool (inB (((TM.mk m0 m1 m2 m3 m4 m5 m6 m7 m8 m9 mA mB)).first (V3.mk s0 s1 s2) (V3.mk p0 p1 p2)) (-1000000) 1000000)))])) := by
 have hF := qk6 ((TM.mk m0 m1 m2 m3 m4 m5 m6 m7 m8 m9 mA mB)) ⟨s0, s1, s2⟩ ⟨p0, p1, p2⟩
 unfold q4O
 refine ⟨⟨rfl, rfl, rfl, hp.1, hp.2.1, hp.2.2.1, hp.2.2.2, rfl⟩, lt_i fun x1 h1 => lt_i fun x2 h2 => ?_⟩
 rw [wi (by omega)] at h1
 subst h1
 rw [wi (by omega)] at h2
 have e : x2 = ((TM.mk m0 m1 m2 m3 m4 m5 m6 m7 m8 m9 mA mB)).first ⟨s0, s1, s2⟩ ⟨p0, p1, p2⟩ := by omega
 rw [e]
 exact LeD.refl _
def q1Z : Con := fun args => match args with
 | [.t (.a [.v (.int .i64 m0), .v (.int .i64 m1), .v (.int .i64 m2), .v (.int .i64 m3), .v (.int .i64 m4), .v (.int .i64 m5), .v (.int .i64 m6), .v (.int .i64 m7), .v (.int .i64 m8), .v (.int .i64 m9), .v (.int .i64 mA), .v (.int .i64 mB)]), .t (.a [.v (.int .i64 s0), .v (.int .i64 s1), .v (.int .i64 s2)]), .t (.a [.v (.int .i64 p0), .v (.int .i64 p1), .v (.int .i64 p2)])] => some (.tu [.c (.v (.int .i64 (((TM.mk m0 m1 m2 m3 m4 m5 m6 m7 m8 m9 mA mB)).first (V3.mk s0 s1 s2) (V3.mk p0 p1 p2)))), .c (.v (.bool (inB (((TM.mk m0 m1 m2 m3 m4 m5 m6 m7 m8 m9 mA mB)).first (V3.mk s0 s1 s2) (V3.mk p0 p1 p2)) (-1000000) 1000000)))], some (((TM.mk m0 m1 m2 m3 m4 m5 m6 m7 m8 m9 mA mB)).Ok ∧ ((V3.mk s0 s1 s2) : V3).inS 20 = true ∧ ((TM.mk m0 m1 m2 m3 m4 m5 m6 m7 m8 m9 mA mB)).permit (V3.mk s0 s1 s2) ∧ ((V3.mk p0 p1 p2) : V3).inS 1000 = true), false)
 | _ => none
theorem q9U : Ok Tryz.prog 57 q1Z := by
 refine Ok.fn (ann := q9a) mixed qo VSkq19 ValidIt.no (fn := Tryz.f57) (by kernel_rfl) (by kernel_rfl) (by kernel_rfl) fun args r pre fresh h hp => ?_
 unfold q1Z at h
 split at h
 ·rename_i m0 m1 m2 m3 m4 m5 m6 m7 m8 m9 mA mB s0 s1 s2 p0 p1 p2
  cases h
  refine ⟨rfl, fun _ _ _ => False, _, LeA.refl _, Nat.le_of_ble_eq_true (by kernel_rfl), ?_, ?_⟩
  ·exact cast (by kernel_rfl) (q8x m0 m1 m2 m3 m4 m5 m6 m7 m8 m9 mA mB s0 s1 s2 p0 p1 p2 hp)
  ·exact cast (by kernel_rfl) trivial
 ·cases h
def Skq20 : Sum := addS Skq19 57 q1Z
theorem VSkq20 : Valid Tryz.prog Skq20 := Valid.add VSkq19 q9U
def q8y (m0 m1 m2 m3 m4 m5 m6 m7 m8 m9 mA mB s0 s1 s2 p0 p1 p2 : Int) (post : DV → Prop) : Prop := (fun (Z1 : TM) (Z2 : V3) (Z3 : V3) => (qj 1 2 (genC [[.v (.int .i64 ((Z1).both Z2))], [.v (.int .i64 (plE Z3))]]) ∧ (([((Z1).both Z2), (plE Z3)] : List Int)).length ≤ 100) ∧ (cond ((qd ([((Z1).both Z2), (plE Z3)] : List Int)) != (0 : Int)) (post (.tu [.c (.v (.int .i64 0)), .c (.v (.int .i64 (qd ([((Z1).both Z2), (plE Z3)] : List Int))))])) (((Z1).Ok ∧ (Z2 : V3).inS 20 = true ∧ (Z1).permit Z2 ∧ (Z3 : V3).inS 1000 = true) ∧ (cond (!(inB ((Z1).first Z2 Z3) (-1000000) 1000000)) (post (.tu [.c (.v (.int .i64 0)), .c (.v (.int .i64 8))])) (post (.tu [.c (.v (.int .i64 ((Z1).first Z2 Z3))), .c (.v (.int .i64 0))])))))) (TM.mk m0 m1 m2 m3 m4 m5 m6 m7 m8 m9 mA mB) (V3.mk s0 s1 s2) (V3.mk p0 p1 p2)
def qeb : Ann := An (fun _ => none) fun _ => none
theorem qcX (m0 m1 m2 m3 m4 m5 m6 m7 m8 m9 mA mB s0 s1 s2 p0 p1 p2 : Int) : q8y m0 m1 m2 m3 m4 m5 m6 m7 m8 m9 mA mB s0 s1 s2 p0 p1 p2 (fun r => LeD r (.tu [.c (.v (.int .i64 (((TM.mk m0 m1 m2 m3 m4 m5 m6 m7 m8 m9 mA mB)).fV (V3.mk s0 s1 s2) (V3.mk p0 p1 p2)))), .c (.v (.int .i64 (((TM.mk m0 m1 m2 m3 m4 m5 m6 m7 m8 m9 mA mB)).fE (V3.mk s0 s1 s2) (V3.mk p0 p1 p2))))])) := by
 unfold q8y TM.fV TM.fE
 refine ⟨⟨q0n [_, _], Nat.le_of_ble_eq_true rfl⟩, qg (fun h => ?_) (fun h => ?_)⟩
 ·have h : qd [((TM.mk m0 m1 m2 m3 m4 m5 m6 m7 m8 m9 mA mB)).both ⟨s0, s1, s2⟩, plE ⟨p0, p1, p2⟩] ≠ 0 := by simpa using h
  rw [fz1 h, if_neg h]
  exact LeD.refl _
 ·have h : qd [((TM.mk m0 m1 m2 m3 m4 m5 m6 m7 m8 m9 mA mB)).both ⟨s0, s1, s2⟩, plE ⟨p0, p1, p2⟩] = 0 := by simpa using h
  obtain ⟨q1, q2⟩ := fn2 h
  obtain ⟨r1, r2, r3, _⟩ := qhu q1
  unfold plE at q2
  rw [unl_0 (by decide)] at q2
  rw [h]
  refine ⟨⟨r1, r2, r3, q2⟩, qg (fun e => ?_) (fun e => ?_)⟩
  ·rw [fz1f (by simpa using e) (by decide), if_neg (by decide)]
   exact LeD.refl _
  ·rw [fz1' (by simpa using e), if_pos rfl]
   exact LeD.refl _
def q4A : Con := fun args => match args with
 | [.t (.a [.v (.int .i64 m0), .v (.int .i64 m1), .v (.int .i64 m2), .v (.int .i64 m3), .v (.int .i64 m4), .v (.int .i64 m5), .v (.int .i64 m6), .v (.int .i64 m7), .v (.int .i64 m8), .v (.int .i64 m9), .v (.int .i64 mA), .v (.int .i64 mB)]), .t (.a [.v (.int .i64 s0), .v (.int .i64 s1), .v (.int .i64 s2)]), .t (.a [.v (.int .i64 p0), .v (.int .i64 p1), .v (.int .i64 p2)])] => some (.tu [.c (.v (.int .i64 (((TM.mk m0 m1 m2 m3 m4 m5 m6 m7 m8 m9 mA mB)).fV (V3.mk s0 s1 s2) (V3.mk p0 p1 p2)))), .c (.v (.int .i64 (((TM.mk m0 m1 m2 m3 m4 m5 m6 m7 m8 m9 mA mB)).fE (V3.mk s0 s1 s2) (V3.mk p0 p1 p2))))], none, false)
 | _ => none
theorem q8z : Ok Tryz.prog 32 q4A := by
 refine Ok.fn (ann := qeb) mixed qo VSkq20 ValidIt.no (fn := Tryz.f32) (by kernel_rfl) (by kernel_rfl) (by kernel_rfl) fun args r pre fresh h hp => ?_
 unfold q4A at h
 split at h
 ·rename_i m0 m1 m2 m3 m4 m5 m6 m7 m8 m9 mA mB s0 s1 s2 p0 p1 p2
  cases h
  refine ⟨rfl, fun _ _ _ => False, _, LeA.refl _, Nat.le_of_ble_eq_true (by kernel_rfl), ?_, ?_⟩
  ·exact cast (by kernel_rfl) (qcX m0 m1 m2 m3 m4 m5 m6 m7 m8 m9 mA mB s0 s1 s2 p0 p1 p2)
  ·exact cast (by kernel_rfl) trivial
 ·cases h
def Skq21 : Sum := addS Skq20 32 q4A
theorem VSkq21 : Valid Tryz.prog Skq21 := Valid.add VSkq20 q8z
def Skq22 : Sum := Skq21
theorem VSkq22 : Valid Tryz.prog Skq22 := VSkq21
def Skq23 : Sum := Skq22
theorem VSkq23 : Valid Tryz.prog Skq23 := VSkq22
def TM.sE (m : TM) (s : V3) (l : List TH) : Int := qd [m.both s, ql l]
def TM.sV (m : TM) (s : V3) (l : List TH) : Int := if m.sE s l = 0 then m.score s l else 0
def q3a (l : List TH) (v0_0 : Int) : DS := ⟨[none, none, none, none, none, none, none, none, none, none, some (.t (.c (.sl 5 l.length (qi l)))), some (.t (.c (.v (.int .i64 ((l.length : Nat) : Int))))), some (.t (.c (.v (.int .i64 v0_0)))), none, none, none, none, none, none, none, none, none, none, none, none, none, none, none, none, none, none, none, none, none], [none, none, none, none, none, none, none, none, none, none, none, none, none, none, none, none, none, none, none, none, none, none, none, none, none, none, none, none, none, none, none, none, none, none]⟩
def q7k (J : Inv) (l : List TH) (post : DV → Prop) : Prop := cond (decide (((l.length : Nat) : Int) > (12 : Int))) (post (.tu [.c (.v (.int .i64 0)), .c (.v (.int .i64 8))])) (∃ n, J 0 (n :: []) (q3a l 0))
def q1Q : Ann := An (fun r => qr r [(6, ([[], [0], [0, 1], [], [3], [0, 1, 2, 3, 4], [], [6], [0, 1, 2, 3, 4, 5, 6, 7], [0, 1, 2, 3, 4, 5, 6, 7, 8], [0, 1, 2, 3, 4, 5, 6, 7, 8, 9], [0, 1, 2, 3, 4, 5, 6, 7, 8, 9, 10], [0, 1, 2, 3, 4, 5, 6, 7, 8, 9, 10, 11]], [[19, 22, 25, 26, 27, 28], [19, 22, 25, 26, 27, 28], [22, 25, 26, 27, 28], [19, 22, 25, 26, 27, 28], [19, 22, 25, 26, 27, 28], [25, 26, 27, 28], [19, 22, 25, 26, 27, 28], [19, 22, 25, 26, 27, 28], [26, 27, 28], [27, 28], [28], [], []]))]) fun b => qr b [(0, (none, some ⟨[10, 11, 12], [], []⟩))]
def q5R (J : Inv) (l : List TH) (v0_0 : Int) (nn0 : Nat) (post : DV → Prop) : Prop := cond (decide (v0_0 < ((l.length : Nat) : Int))) ((0 ≤ v0_0 ∧ v0_0 < ((l.length : Nat) : Int)) ∧ ((qj 1 3 (genC [[.v (.int .i64 (plE (qe l v0_0.toNat).p))], [.v (.int .i64 (tmE ((qe l v0_0.toNat).t)))], [.v (.int .i64 (unl (inB ((qe l v0_0.toNat).w) (0 : Int) (100 : Int)) (2 : Int)))]]) ∧ (([(plE (qe l v0_0.toNat).p), (tmE ((qe l v0_0.toNat).t)), (unl (inB ((qe l v0_0.toNat).w) (0 : Int) (100 : Int)) (2 : Int))] : List Int)).length ≤ 100) ∧ (cond ((qd ([(plE (qe l v0_0.toNat).p), (tmE ((qe l v0_0.toNat).t)), (unl (inB ((qe l v0_0.toNat).w) (0 : Int) (100 : Int)) (2 : Int))] : List Int)) != (0 : Int)) (post (.tu [.c (.v (.int .i64 v0_0)), .c (.v (.int .i64 (qd ([(plE (qe l v0_0.toNat).p), (tmE ((qe l v0_0.toNat).t)), (unl (inB ((qe l v0_0.toNat).w) (0 : Int) (100 : Int)) (2 : Int))] : List Int))))])) (lt (IntKind.i64.wrap (v0_0 + (1 : Int))) fun x1 => J 0 (nn0 :: []) (q3a l x1))))) (post (.tu [.c (.v (.int .i64 0)), .c (.v (.int .i64 0))]))
theorem qcY (J : Inv) (post : DV → Prop) : AllG J (qz Tryz.prog tab Skq23 q1Q J Tryz.f86 post) = (((∀ F s, ¬ J 0 (0 :: F) s) ∧ ∀ n F s, J 0 ((n + 1) :: F) s → round Tryz.prog tab Skq23 q1Q J Tryz.f86 post 0 (n :: F) s) ∧ True) := by kernel_rfl
def q1t (l : List TH) : Inv := fun b F s => match b, F with
 | 0, [nn0] => ∃ (v0_0 : Int), s = q3a l v0_0 ∧ (0 ≤ v0_0 ∧ v0_0 ≤ l.length ∧ (nn0 : Int) + v0_0 = l.length + 1 ∧ l.length ≤ 12 ∧ ∀ j : Nat, (j : Int) < v0_0 → (qe l j).err = 0)
 | _, _ => False
theorem qaq (l : List TH) (v0_0 : Int) (nn0 : Nat) (hi : 0 ≤ v0_0 ∧ v0_0 ≤ l.length ∧ ((nn0 + 1) : Int) + v0_0 = l.length + 1 ∧ l.length ≤ 12 ∧ ∀ j : Nat, (j : Int) < v0_0 → (qe l j).err = 0) : q5R (q1t l) l v0_0 nn0 (fun r => LeD r (.tu [.c (.v (.int .i64 (q1p l))), .c (.v (.int .i64 (ql l)))])) := by
 obtain ⟨h1, h2, h3, h4, h5⟩ := hi
 obtain ⟨k, rfl⟩ : ∃ k : Nat, v0_0 = k := ⟨v0_0.toNat, by omega⟩
 have hk : (k : Int).toNat = k := rfl
 have hz : ∀ j, j < k → (qe l j).err = 0 := fun j hj => h5 j (by omega)
 unfold q5R
 rw [hk]
 have he : (qe l k).err = qd [plE (qe l k).p, tmE (qe l k).t, unl (inB (qe l k).w 0 100) 2] := rfl
 rw [← he]
 refine qg (fun h => ?_) (fun h => ?_)
 ·have hlt : k < l.length := by have := of_decide_eq_true h; omega
  refine ⟨by omega, ⟨q0n [_, _, _], Nat.le_of_ble_eq_true rfl⟩, qg (fun e => ?_) (fun e => lt_i fun x hx => ?_)⟩
  ·have hn : (qe l k).err ≠ 0 := by simpa using e
   rw [show q1p l = k from (if_neg (by omega)).trans (qf6 hz hlt hn), show ql l = (qe l k).err from (if_neg (by omega)).trans (q8d hz hlt hn)]
   exact LeD.refl _
  ·rw [wi (by omega)] at hx
   subst hx
   refine ⟨_, rfl, by omega, by omega, by omega, h4, fun j hj => ?_⟩
   by_cases q : j = k
   ·rw [q]; simpa using e
   ·exact hz j (by omega)
 ·have hkl : k = l.length := by have := of_decide_eq_false h; omega
  subst hkl
  rw [show q1p l = 0 from (if_neg (by omega)).trans (qiz hz), show ql l = 0 from (if_neg (by omega)).trans (q3T hz)]
  exact LeD.refl _
theorem qbB (l : List TH) : q7k (q1t l) l (fun r => LeD r (.tu [.c (.v (.int .i64 (q1p l))), .c (.v (.int .i64 (ql l)))])) := by
 unfold q7k
 refine qg (fun h => LeD.of ?_) (fun h => ⟨l.length + 1, _, rfl, ?_⟩)
 ·have h := of_decide_eq_true h
  rw [show q1p l = 0 from if_pos (by omega), show ql l = 8 from if_pos (by omega)]
 ·have h := of_decide_eq_false h
  exact ⟨by omega, by omega, by omega, by omega, fun j hj => by omega⟩
theorem qcd (l : List TH) : AllG (q1t l) (qz Tryz.prog tab Skq23 q1Q (q1t l) Tryz.f86 (fun r => LeD r (.tu [.c (.v (.int .i64 (q1p l))), .c (.v (.int .i64 (ql l)))]))) := by
 rw [qcY]
 refine ⟨⟨?_, ?_⟩, trivial⟩
 ·intro F s h
  obtain _ | ⟨g, F⟩ := F
  case cons => exact h.elim
  obtain ⟨w0, rfl, hi⟩ := h
  omega
 ·intro n F s h
  obtain _ | ⟨g, F⟩ := F
  case cons => exact h.elim
  obtain ⟨w0, rfl, hi⟩ := h
  exact cast (by kernel_rfl) (qaq l _ _ hi)
def q3y : Con := fun args => match args with
 | [.t (.c (.sl 5 n_l c_l))] => some (.tu [.c (.v (.int .i64 (q1p (qa n_l qc c_l)))), .c (.v (.int .i64 (ql (qa n_l qc c_l))))], some (qj 5 n_l c_l), false)
 | _ => none
theorem qcZ : Ok Tryz.prog 86 q3y := by
 refine Ok.fn (ann := q1Q) mixed qo VSkq23 ValidIt.no (fn := Tryz.f86) (by kernel_rfl) (by kernel_rfl) (by kernel_rfl) fun args r pre fresh h hp => ?_
 unfold q3y at h
 split at h
 ·rename_i n_l c_l
  cases h
  have hp0 := hp
  refine ⟨rfl, q1t (qa n_l qc c_l), _, (qk (leT_c ((qY hp0))) qM), Nat.le_of_ble_eq_true (by kernel_rfl), ?_, ?_⟩
  ·exact cast (by kernel_rfl) (qbB (qa n_l qc c_l))
  ·exact qcd (qa n_l qc c_l)
 ·cases h
def Skr24 : Sum := addS Skq23 86 q3y
theorem VSkr24 : Valid Tryz.prog Skr24 := Valid.add VSkq23 qcZ
def q8A (l : List TH) (post : DV → Prop) : Prop := (qj 5 l.length (qi l)) ∧ (post (.t (.c (.v (.int .i64 (ql (qa l.length qc (qi l))))))))
def qec : Ann := An (fun _ => none) fun _ => none
theorem qd0 (l : List TH) : q8A l (fun r => LeD r (.t (.c (.v (.int .i64 (ql l)))))) := by
 unfold q8A
 rw [qP]
 exact ⟨qA l, LeD.refl _⟩
def q4B : Con := fun args => match args with
 | [.t (.c (.sl 5 n_l c_l))] => some (.t (.c (.v (.int .i64 (ql (qa n_l qc c_l))))), some (qj 5 n_l c_l), false)
 | _ => none
theorem qfk : Ok Tryz.prog 40 q4B := by
 refine Ok.fn (ann := qec) mixed qo VSkr24 ValidIt.no (fn := Tryz.f40) (by kernel_rfl) (by kernel_rfl) (by kernel_rfl) fun args r pre fresh h hp => ?_
 unfold q4B at h
 split at h
 ·rename_i n_l c_l
  cases h
  have hp0 := hp
  refine ⟨rfl, fun _ _ _ => False, _, (qk (leT_c ((qY hp0))) qM), Nat.le_of_ble_eq_true (by kernel_rfl), ?_, ?_⟩
  ·exact cast (by kernel_rfl) (qd0 (qa n_l qc c_l))
  ·exact cast (by kernel_rfl) trivial
 ·cases h
def Skr25 : Sum := addS Skr24 40 q4B
theorem VSkr25 : Valid Tryz.prog Skr25 := Valid.add VSkr24 qfk
def q6u (m0 m1 m2 m3 m4 m5 m6 m7 m8 m9 mA mB h0 h1 h2 h3 h4 : Int) (post : DV → Prop) : Prop := lt (IntKind.i64.wrap (h3 + m8)) fun x1 => lt (IntKind.i64.wrap (h3 - m9)) fun x2 => lt (IntKind.i64.wrap (x2 - (1 : Int))) fun x3 => post (.tu [.a [.v (.int .i64 h0), .v (.int .i64 h1), .v (.int .i64 h2), .v (.int .i64 x1)], .a [.v (.int .i64 h0), .v (.int .i64 h1), .v (.int .i64 h2), .v (.int .i64 x3)]])
def qbC : Ann := An (fun r => qr r [(1, ([[], [0], [], [2], [], [4], [4, 5], [2, 3, 4, 5, 6], [0, 1, 2, 3, 4, 5, 6, 7], [], [9], [], [11], [], [13], [13, 14], [11, 12, 13, 14, 15], [11, 12, 13, 14, 15, 16], [9, 10, 11, 12, 13, 14, 15, 16, 17], [0, 1, 2, 3, 4, 5, 6, 7, 8], [0, 1, 2, 3, 4, 5, 6, 7, 8, 9, 10, 11, 12, 13, 14, 15, 16, 17, 18, 19]], [[], [], [], [], [], [], [], [], [], [], [4], [], [4], [], [], [4], [], [], [], [9999, 4], []]))]) fun _ => none
theorem qar (m0 m1 m2 m3 m4 m5 m6 m7 m8 m9 mA mB h0 h1 h2 h3 h4 : Int) (hp : ((TM.mk m0 m1 m2 m3 m4 m5 m6 m7 m8 m9 mA mB)).Ok ∧ ((⟨⟨h0, h1, h2⟩, h3, h4⟩ : TH)).Ok) : q6u m0 m1 m2 m3 m4 m5 m6 m7 m8 m9 mA mB h0 h1 h2 h3 h4 (fun r => LeD r (.tu [.a [.v (.int .i64 h0), .v (.int .i64 h1), .v (.int .i64 h2), .v (.int .i64 (h3 + m8))], .a [.v (.int .i64 h0), .v (.int .i64 h1), .v (.int .i64 h2), .v (.int .i64 (h3 - m9 - 1))]])) := by
 obtain ⟨ho, hh⟩ := hp
 have b1 := hh.t; have b2 := ho.ea; have b3 := ho.la
 simp only at b1 b2 b3
 unfold q6u
 refine lt_i fun x1 e1 => lt_i fun x2 e2 => lt_i fun x3 e3 => ?_
 rw [wi (by omega)] at e1 e2
 subst e1 e2
 rw [wi (by omega)] at e3
 subst e3
 exact LeD.refl _
def q3b : Con := fun args => match args with
 | [.t (.a [.v (.int .i64 m0), .v (.int .i64 m1), .v (.int .i64 m2), .v (.int .i64 m3), .v (.int .i64 m4), .v (.int .i64 m5), .v (.int .i64 m6), .v (.int .i64 m7), .v (.int .i64 m8), .v (.int .i64 m9), .v (.int .i64 mA), .v (.int .i64 mB)]), .t (.a [.v (.int .i64 h0), .v (.int .i64 h1), .v (.int .i64 h2), .v (.int .i64 h3), .v (.int .i64 h4)])] => some (.tu [.a [.v (.int .i64 h0), .v (.int .i64 h1), .v (.int .i64 h2), .v (.int .i64 (h3 + m8))], .a [.v (.int .i64 h0), .v (.int .i64 h1), .v (.int .i64 h2), .v (.int .i64 (h3 - m9 - 1))]], some (((TM.mk m0 m1 m2 m3 m4 m5 m6 m7 m8 m9 mA mB)).Ok ∧ ((⟨⟨h0, h1, h2⟩, h3, h4⟩ : TH)).Ok), false)
 | _ => none
theorem qce : Ok Tryz.prog 103 q3b := by
 refine Ok.fn (ann := qbC) mixed qo VSkr25 ValidIt.no (fn := Tryz.f103) (by kernel_rfl) (by kernel_rfl) (by kernel_rfl) fun args r pre fresh h hp => ?_
 unfold q3b at h
 split at h
 ·rename_i m0 m1 m2 m3 m4 m5 m6 m7 m8 m9 mA mB h0 h1 h2 h3 h4
  cases h
  refine ⟨rfl, fun _ _ _ => False, _, LeA.refl _, Nat.le_of_ble_eq_true (by kernel_rfl), ?_, ?_⟩
  ·exact cast (by kernel_rfl) (qar m0 m1 m2 m3 m4 m5 m6 m7 m8 m9 mA mB h0 h1 h2 h3 h4 hp)
  ·exact cast (by kernel_rfl) trivial
 ·cases h
def Skr26 : Sum := addS Skr25 103 q3b
theorem VSkr26 : Valid Tryz.prog Skr26 := Valid.add VSkr25 qce
def q4P (m0 m1 m2 m3 m4 m5 m6 m7 m8 m9 mA mB s0 s1 s2 h0 h1 h2 h3 h4 : Int) (post : DV → Prop) : Prop := (fun (Z1 : TM) (Z2 : V3) => ((Z1).Ok ∧ ((⟨⟨h0, h1, h2⟩, h3, h4⟩ : TH)).Ok) ∧ (((Z1).Ok ∧ (Z2 : V3).inS 20 = true ∧ (Z1).permit Z2 ∧ (V3.mk h0 h1 h2).inS 1000 = true ∧ -1000101 ≤ (h3 + m8) ∧ (h3 + m8) ≤ 1000100) ∧ (cond (!((Z1).reached Z2 ⟨h0, h1, h2⟩ (h3 + m8))) (lt (IntKind.i64.wrap (h4 * mB)) fun x1 => post (.t (.c (.v (.int .i64 x1))))) (((Z1).Ok ∧ (Z2 : V3).inS 20 = true ∧ (Z1).permit Z2 ∧ (V3.mk h0 h1 h2).inS 1000 = true ∧ -1000101 ≤ (h3 - m9 - 1) ∧ (h3 - m9 - 1) ≤ 1000100) ∧ (cond ((Z1).reached Z2 ⟨h0, h1, h2⟩ (h3 - m9 - 1)) (lt (IntKind.i64.wrap (h4 * mA)) fun x2 => post (.t (.c (.v (.int .i64 x2))))) (post (.t (.c (.v (.int .i64 0)))))))))) (TM.mk m0 m1 m2 m3 m4 m5 m6 m7 m8 m9 mA mB) (V3.mk s0 s1 s2)
def q9b : Ann := An (fun _ => none) fun _ => none
theorem q8B (m0 m1 m2 m3 m4 m5 m6 m7 m8 m9 mA mB s0 s1 s2 h0 h1 h2 h3 h4 : Int) (hp : ((TM.mk m0 m1 m2 m3 m4 m5 m6 m7 m8 m9 mA mB)).Ok ∧ ((V3.mk s0 s1 s2) : V3).inS 20 = true ∧ ((TM.mk m0 m1 m2 m3 m4 m5 m6 m7 m8 m9 mA mB)).permit (V3.mk s0 s1 s2) ∧ ((⟨⟨h0, h1, h2⟩, h3, h4⟩ : TH)).Ok) : q4P m0 m1 m2 m3 m4 m5 m6 m7 m8 m9 mA mB s0 s1 s2 h0 h1 h2 h3 h4 (fun r => LeD r (.t (.c (.v (.int .i64 (((TM.mk m0 m1 m2 m3 m4 m5 m6 m7 m8 m9 mA mB)).pen (V3.mk s0 s1 s2) (⟨⟨h0, h1, h2⟩, h3, h4⟩ : TH))))))) := by
 obtain ⟨ho, hs, hpm, hh⟩ := hp
 have b1 := hh.t; have b2 := ho.ea; have b3 := ho.la; have b4 := hh.w; have b5 := ho.mi; have b6 := ho.no
 simp only at b1 b2 b3 b4 b5 b6
 have k1 := qv (x := h4) (y := mB) (A := 100) (B := 100) (C := 10000) (by omega) (by omega) (by decide)
 have k2 := qv (x := h4) (y := mA) (A := 100) (B := 100) (C := 10000) (by omega) (by omega) (by decide)
 unfold q4P TM.pen
 simp only
 refine ⟨⟨ho, hh⟩, ⟨ho, hs, hpm, hh.p, by omega, by omega⟩, qg (fun e => lt_i fun x e1 => leI ?_) (fun e => ⟨⟨ho, hs, hpm, hh.p, by omega, by omega⟩, qg (fun g => lt_i fun x e1 => leI ?_) (fun g => leI ?_)⟩)⟩
 ·rw [wi (by omega)] at e1
  rw [if_pos (by simpa using e), e1]
 ·rw [wi (by omega)] at e1
  rw [if_neg (by simpa using e), if_pos g, e1]
 ·rw [if_neg (by simpa using e), if_neg (by rw [g]; simp)]
def q2a : Con := fun args => match args with
 | [.t (.a [.v (.int .i64 m0), .v (.int .i64 m1), .v (.int .i64 m2), .v (.int .i64 m3), .v (.int .i64 m4), .v (.int .i64 m5), .v (.int .i64 m6), .v (.int .i64 m7), .v (.int .i64 m8), .v (.int .i64 m9), .v (.int .i64 mA), .v (.int .i64 mB)]), .t (.a [.v (.int .i64 s0), .v (.int .i64 s1), .v (.int .i64 s2)]), .t (.a [.v (.int .i64 h0), .v (.int .i64 h1), .v (.int .i64 h2), .v (.int .i64 h3), .v (.int .i64 h4)])] => some (.t (.c (.v (.int .i64 (((TM.mk m0 m1 m2 m3 m4 m5 m6 m7 m8 m9 mA mB)).pen (V3.mk s0 s1 s2) (⟨⟨h0, h1, h2⟩, h3, h4⟩ : TH))))), some (((TM.mk m0 m1 m2 m3 m4 m5 m6 m7 m8 m9 mA mB)).Ok ∧ ((V3.mk s0 s1 s2) : V3).inS 20 = true ∧ ((TM.mk m0 m1 m2 m3 m4 m5 m6 m7 m8 m9 mA mB)).permit (V3.mk s0 s1 s2) ∧ ((⟨⟨h0, h1, h2⟩, h3, h4⟩ : TH)).Ok), false)
 | _ => none
theorem q9V : Ok Tryz.prog 96 q2a := by
 refine Ok.fn (ann := q9b) mixed qo VSkr26 ValidIt.no (fn := Tryz.f96) (by kernel_rfl) (by kernel_rfl) (by kernel_rfl) fun args r pre fresh h hp => ?_
 unfold q2a at h
 split at h
 ·rename_i m0 m1 m2 m3 m4 m5 m6 m7 m8 m9 mA mB s0 s1 s2 h0 h1 h2 h3 h4
  cases h
  refine ⟨rfl, fun _ _ _ => False, _, LeA.refl _, Nat.le_of_ble_eq_true (by kernel_rfl), ?_, ?_⟩
  ·exact cast (by kernel_rfl) (q8B m0 m1 m2 m3 m4 m5 m6 m7 m8 m9 mA mB s0 s1 s2 h0 h1 h2 h3 h4 hp)
  ·exact cast (by kernel_rfl) trivial
 ·cases h
def Skr27 : Sum := addS Skr26 96 q2a
theorem VSkr27 : Valid Tryz.prog Skr27 := Valid.add VSkr26 q9V
def q2j (m0 m1 m2 m3 m4 m5 m6 m7 m8 m9 mA mB s0 s1 s2 : Int) (l : List TH) (v0_0 v0_1 : Int) : DS := ⟨[none, none, none, some (.t (.c (.p 3 0))), some (.t (.c (.p 4 0))), none, none, some (.t (.c (.v (.int .i64 v0_1)))), none, none, some (.t (.c (.sl 5 l.length (qi l)))), some (.t (.c (.v (.int .i64 ((l.length : Nat) : Int))))), some (.t (.c (.v (.int .i64 v0_0)))), none, none, none, none, none, none, none, none, none, none, none], [none, none, none, some (.box 106 [.v (.int .i64 m0), .v (.int .i64 m1), .v (.int .i64 m2), .v (.int .i64 m3), .v (.int .i64 m4), .v (.int .i64 m5), .v (.int .i64 m6), .v (.int .i64 m7), .v (.int .i64 m8), .v (.int .i64 m9), .v (.int .i64 mA), .v (.int .i64 mB)]), some (.box 107 [.v (.int .i64 s0), .v (.int .i64 s1), .v (.int .i64 s2)]), none, none, none, none, none, none, none, none, none, none, none, none, none, none, none, none, none, none, none]⟩
def q5S (J : Inv) (m0 m1 m2 m3 m4 m5 m6 m7 m8 m9 mA mB s0 s1 s2 : Int) (l : List TH) (post : DV → Prop) : Prop := ∃ n, J 0 (n :: []) (q2j m0 m1 m2 m3 m4 m5 m6 m7 m8 m9 mA mB s0 s1 s2 l 0 0)
def q1n : Ann := ⟨fun _ => none, fun b => qr b [(0, (none, some ⟨[3, 4, 7, 10, 11, 12], [3, 4], []⟩))], fun _ => [], noIt, false, fun _ => none, fun _ => none⟩
def q4Q (J : Inv) (m0 m1 m2 m3 m4 m5 m6 m7 m8 m9 mA mB s0 s1 s2 : Int) (l : List TH) (v0_0 v0_1 : Int) (nn0 : Nat) (post : DV → Prop) : Prop := (fun (Z1 : TM) => cond (decide (v0_0 < ((l.length : Nat) : Int))) ((0 ≤ v0_0 ∧ v0_0 < ((l.length : Nat) : Int)) ∧ (((Z1).Ok ∧ ((V3.mk s0 s1 s2) : V3).inS 20 = true ∧ (Z1).permit (V3.mk s0 s1 s2) ∧ ((qe l v0_0.toNat)).Ok) ∧ (lt (IntKind.i64.wrap (v0_1 + ((Z1).pen (V3.mk s0 s1 s2) (qe l v0_0.toNat)))) fun x1 => lt (IntKind.i64.wrap (v0_0 + (1 : Int))) fun x2 => J 0 (nn0 :: []) (q2j m0 m1 m2 m3 m4 m5 m6 m7 m8 m9 mA mB s0 s1 s2 l x2 x1)))) (post (.t (.c (.v (.int .i64 v0_1)))))) (TM.mk m0 m1 m2 m3 m4 m5 m6 m7 m8 m9 mA mB)
theorem qbD (J : Inv) (post : DV → Prop) : AllG J (qz Tryz.prog tab Skr27 q1n J Tryz.f59 post) = (((∀ F s, ¬ J 0 (0 :: F) s) ∧ ∀ n F s, J 0 ((n + 1) :: F) s → round Tryz.prog tab Skr27 q1n J Tryz.f59 post 0 (n :: F) s) ∧ True) := by kernel_rfl
def q1a (m0 m1 m2 m3 m4 m5 m6 m7 m8 m9 mA mB s0 s1 s2 : Int) (l : List TH) : Inv := fun b F s => match b, F with
 | 0, [nn0] => ∃ (v0_0 : Int) (v0_1 : Int), s = q2j m0 m1 m2 m3 m4 m5 m6 m7 m8 m9 mA mB s0 s1 s2 l v0_0 v0_1 ∧ (0 ≤ v0_0 ∧ v0_0 ≤ l.length ∧ (nn0 : Int) + v0_0 = l.length + 1 ∧ v0_1 = ((TM.mk m0 m1 m2 m3 m4 m5 m6 m7 m8 m9 mA mB)).score (V3.mk s0 s1 s2) (l.take v0_0.toNat) ∧ -(10000 * v0_0) ≤ v0_1 ∧ v0_1 ≤ 10000 * v0_0)
 | _, _ => False
theorem q9c (m0 m1 m2 m3 m4 m5 m6 m7 m8 m9 mA mB s0 s1 s2 : Int) (l : List TH) (v0_0 v0_1 : Int) (nn0 : Nat) (hp : ((TM.mk m0 m1 m2 m3 m4 m5 m6 m7 m8 m9 mA mB)).Ok ∧ ((V3.mk s0 s1 s2) : V3).inS 20 = true ∧ ((TM.mk m0 m1 m2 m3 m4 m5 m6 m7 m8 m9 mA mB)).permit (V3.mk s0 s1 s2) ∧ (l).length ≤ 12 ∧ ∀ i, i < (l).length → (qe l i).Ok) (hi : 0 ≤ v0_0 ∧ v0_0 ≤ l.length ∧ ((nn0 + 1) : Int) + v0_0 = l.length + 1 ∧ v0_1 = ((TM.mk m0 m1 m2 m3 m4 m5 m6 m7 m8 m9 mA mB)).score (V3.mk s0 s1 s2) (l.take v0_0.toNat) ∧ -(10000 * v0_0) ≤ v0_1 ∧ v0_1 ≤ 10000 * v0_0) : q4Q (q1a m0 m1 m2 m3 m4 m5 m6 m7 m8 m9 mA mB s0 s1 s2 l) m0 m1 m2 m3 m4 m5 m6 m7 m8 m9 mA mB s0 s1 s2 l v0_0 v0_1 nn0 (fun r => LeD r (.t (.c (.v (.int .i64 (((TM.mk m0 m1 m2 m3 m4 m5 m6 m7 m8 m9 mA mB)).score (V3.mk s0 s1 s2) l)))))) := by
 obtain ⟨i1, i2, i3, i4, i5, i6⟩ := hi
 obtain ⟨ho, hs, hpm, hn, hok⟩ := hp
 obtain ⟨k, rfl⟩ : ∃ k : Nat, v0_0 = k := ⟨v0_0.toNat, by omega⟩
 have hk : (k : Int).toNat = k := rfl
 rw [hk] at i4
 unfold q4Q
 rw [hk]
 refine qg (fun h => ?_) (fun h => leI ?_)
 ·have hlt : k < l.length := by have := of_decide_eq_true h; omega
  have hr := pen_rg (m := (TM.mk m0 m1 m2 m3 m4 m5 m6 m7 m8 m9 mA mB)) (s := ⟨s0, s1, s2⟩) ho (hok k hlt)
  refine ⟨by omega, ⟨ho, hs, hpm, hok k hlt⟩, lt_i fun x1 h1 => lt_i fun x2 h2 => ?_⟩
  have eh : (⟨⟨(qe l k).p.x, (qe l k).p.y, (qe l k).p.z⟩, (qe l k).t, (qe l k).w⟩ : TH) = qe l k := rfl
  rw [wi (by omega)] at h1 h2
  subst h1 h2
  refine ⟨_, _, rfl, by omega, by omega, by omega, ?_, by omega, by omega⟩
  rw [show ((k : Int) + 1).toNat = k + 1 by omega, qgh _ _ hlt, i4]
 ·have hkl : k = l.length := by have := of_decide_eq_false h; omega
  rw [i4, hkl, List.take_length]
theorem q9W (m0 m1 m2 m3 m4 m5 m6 m7 m8 m9 mA mB s0 s1 s2 : Int) (l : List TH) (hp : ((TM.mk m0 m1 m2 m3 m4 m5 m6 m7 m8 m9 mA mB)).Ok ∧ ((V3.mk s0 s1 s2) : V3).inS 20 = true ∧ ((TM.mk m0 m1 m2 m3 m4 m5 m6 m7 m8 m9 mA mB)).permit (V3.mk s0 s1 s2) ∧ (l).length ≤ 12 ∧ ∀ i, i < (l).length → (qe l i).Ok) : q5S (q1a m0 m1 m2 m3 m4 m5 m6 m7 m8 m9 mA mB s0 s1 s2 l) m0 m1 m2 m3 m4 m5 m6 m7 m8 m9 mA mB s0 s1 s2 l (fun r => LeD r (.t (.c (.v (.int .i64 (((TM.mk m0 m1 m2 m3 m4 m5 m6 m7 m8 m9 mA mB)).score (V3.mk s0 s1 s2) l)))))) := by
 unfold q5S
 exact ⟨l.length + 1, 0, 0, rfl, by omega, by omega, by omega, rfl, by omega, by omega⟩
theorem qas (m0 m1 m2 m3 m4 m5 m6 m7 m8 m9 mA mB s0 s1 s2 : Int) (l : List TH) (hp : ((TM.mk m0 m1 m2 m3 m4 m5 m6 m7 m8 m9 mA mB)).Ok ∧ ((V3.mk s0 s1 s2) : V3).inS 20 = true ∧ ((TM.mk m0 m1 m2 m3 m4 m5 m6 m7 m8 m9 mA mB)).permit (V3.mk s0 s1 s2) ∧ (l).length ≤ 12 ∧ ∀ i, i < (l).length → (qe l i).Ok) : AllG (q1a m0 m1 m2 m3 m4 m5 m6 m7 m8 m9 mA mB s0 s1 s2 l) (qz Tryz.prog tab Skr27 q1n (q1a m0 m1 m2 m3 m4 m5 m6 m7 m8 m9 mA mB s0 s1 s2 l) Tryz.f59 (fun r => LeD r (.t (.c (.v (.int .i64 (((TM.mk m0 m1 m2 m3 m4 m5 m6 m7 m8 m9 mA mB)).score (V3.mk s0 s1 s2) l))))))) := by
 rw [qbD]
 refine ⟨⟨?_, ?_⟩, trivial⟩
 ·intro F s h
  obtain _ | ⟨g, F⟩ := F
  case cons => exact h.elim
  obtain ⟨w0, w1, rfl, hi⟩ := h
  omega
 ·intro n F s h
  obtain _ | ⟨g, F⟩ := F
  case cons => exact h.elim
  obtain ⟨w0, w1, rfl, hi⟩ := h
  exact cast (by kernel_rfl) (q9c m0 m1 m2 m3 m4 m5 m6 m7 m8 m9 mA mB s0 s1 s2 l _ _ _ hp hi)
def q2A : Con := fun args => match args with
 | [.t (.a [.v (.int .i64 m0), .v (.int .i64 m1), .v (.int .i64 m2), .v (.int .i64 m3), .v (.int .i64 m4), .v (.int .i64 m5), .v (.int .i64 m6), .v (.int .i64 m7), .v (.int .i64 m8), .v (.int .i64 m9), .v (.int .i64 mA), .v (.int .i64 mB)]), .t (.a [.v (.int .i64 s0), .v (.int .i64 s1), .v (.int .i64 s2)]), .t (.c (.sl 5 n_l c_l))] => some (.t (.c (.v (.int .i64 (((TM.mk m0 m1 m2 m3 m4 m5 m6 m7 m8 m9 mA mB)).score (V3.mk s0 s1 s2) (qa n_l qc c_l))))), some (qj 5 n_l c_l ∧ ((TM.mk m0 m1 m2 m3 m4 m5 m6 m7 m8 m9 mA mB)).Ok ∧ ((V3.mk s0 s1 s2) : V3).inS 20 = true ∧ ((TM.mk m0 m1 m2 m3 m4 m5 m6 m7 m8 m9 mA mB)).permit (V3.mk s0 s1 s2) ∧ ((qa n_l qc c_l)).length ≤ 12 ∧ ∀ i, i < ((qa n_l qc c_l)).length → (qe (qa n_l qc c_l) i).Ok), false)
 | _ => none
theorem qbE : Ok Tryz.prog 59 q2A := by
 refine Ok.fn (ann := q1n) mixed qo VSkr27 ValidIt.no (fn := Tryz.f59) (by kernel_rfl) (by kernel_rfl) (by kernel_rfl) fun args r pre fresh h hp => ?_
 unfold q2A at h
 split at h
 ·rename_i m0 m1 m2 m3 m4 m5 m6 m7 m8 m9 mA mB s0 s1 s2 n_l c_l
  cases h
  obtain ⟨hp0, hp⟩ := hp
  refine ⟨rfl, q1a m0 m1 m2 m3 m4 m5 m6 m7 m8 m9 mA mB s0 s1 s2 (qa n_l qc c_l), _, (qk (LeD.refl _) (qk (LeD.refl _) (qk (leT_c ((qY hp0))) qM))), Nat.le_of_ble_eq_true (by kernel_rfl), ?_, ?_⟩
  ·exact cast (by kernel_rfl) (q9W m0 m1 m2 m3 m4 m5 m6 m7 m8 m9 mA mB s0 s1 s2 (qa n_l qc c_l) hp)
  ·exact qas m0 m1 m2 m3 m4 m5 m6 m7 m8 m9 mA mB s0 s1 s2 (qa n_l qc c_l) hp
 ·cases h
def Skr28 : Sum := addS Skr27 59 q2A
theorem VSkr28 : Valid Tryz.prog Skr28 := Valid.add VSkr27 qbE
def q8C (m0 m1 m2 m3 m4 m5 m6 m7 m8 m9 mA mB s0 s1 s2 : Int) (l : List TH) (post : DV → Prop) : Prop := (fun (Z1 : TM) (Z2 : V3) (Z3 : List TH) => (qj 5 l.length (qi l)) ∧ ((qj 1 2 (genC [[.v (.int .i64 ((Z1).both Z2))], [.v (.int .i64 (ql Z3))]]) ∧ (([((Z1).both Z2), (ql Z3)] : List Int)).length ≤ 100) ∧ (cond ((qd ([((Z1).both Z2), (ql Z3)] : List Int)) != (0 : Int)) (post (.tu [.c (.v (.int .i64 0)), .c (.v (.int .i64 (qd ([((Z1).both Z2), (ql Z3)] : List Int))))])) ((qj 5 l.length (qi l) ∧ (Z1).Ok ∧ (Z2 : V3).inS 20 = true ∧ (Z1).permit Z2 ∧ (Z3).length ≤ 12 ∧ ∀ i, i < (Z3).length → (qe Z3 i).Ok) ∧ (post (.tu [.c (.v (.int .i64 ((Z1).score Z2 Z3))), .c (.v (.int .i64 0))])))))) (TM.mk m0 m1 m2 m3 m4 m5 m6 m7 m8 m9 mA mB) (V3.mk s0 s1 s2) (qa l.length qc (qi l))
def qed : Ann := An (fun _ => none) fun _ => none
theorem qd1 (m0 m1 m2 m3 m4 m5 m6 m7 m8 m9 mA mB s0 s1 s2 : Int) (l : List TH) : q8C m0 m1 m2 m3 m4 m5 m6 m7 m8 m9 mA mB s0 s1 s2 l (fun r => LeD r (.tu [.c (.v (.int .i64 (((TM.mk m0 m1 m2 m3 m4 m5 m6 m7 m8 m9 mA mB)).sV (V3.mk s0 s1 s2) l))), .c (.v (.int .i64 (((TM.mk m0 m1 m2 m3 m4 m5 m6 m7 m8 m9 mA mB)).sE (V3.mk s0 s1 s2) l)))])) := by
 unfold q8C TM.sV TM.sE
 rw [qP]
 refine ⟨qA l, ⟨q0n [_, _], Nat.le_of_ble_eq_true rfl⟩, qg (fun h => ?_) (fun h => ?_)⟩
 ·have h : qd [((TM.mk m0 m1 m2 m3 m4 m5 m6 m7 m8 m9 mA mB)).both ⟨s0, s1, s2⟩, ql l] ≠ 0 := by simpa using h
  rw [if_neg h]
  exact LeD.refl _
 ·have h : qd [((TM.mk m0 m1 m2 m3 m4 m5 m6 m7 m8 m9 mA mB)).both ⟨s0, s1, s2⟩, ql l] = 0 := by simpa using h
  obtain ⟨q1, q2⟩ := fn2 h
  obtain ⟨r1, r2, r3, _⟩ := qhu q1
  obtain ⟨g1, g2⟩ := q1N q2
  rw [if_pos h, h]
  exact ⟨⟨qA l, r1, r2, r3, g1, g2⟩, LeD.refl _⟩
def q4C : Con := fun args => match args with
 | [.t (.a [.v (.int .i64 m0), .v (.int .i64 m1), .v (.int .i64 m2), .v (.int .i64 m3), .v (.int .i64 m4), .v (.int .i64 m5), .v (.int .i64 m6), .v (.int .i64 m7), .v (.int .i64 m8), .v (.int .i64 m9), .v (.int .i64 mA), .v (.int .i64 mB)]), .t (.a [.v (.int .i64 s0), .v (.int .i64 s1), .v (.int .i64 s2)]), .t (.c (.sl 5 n_l c_l))] => some (.tu [.c (.v (.int .i64 (((TM.mk m0 m1 m2 m3 m4 m5 m6 m7 m8 m9 mA mB)).sV (V3.mk s0 s1 s2) (qa n_l qc c_l)))), .c (.v (.int .i64 (((TM.mk m0 m1 m2 m3 m4 m5 m6 m7 m8 m9 mA mB)).sE (V3.mk s0 s1 s2) (qa n_l qc c_l))))], some (qj 5 n_l c_l), false)
 | _ => none
theorem q8D : Ok Tryz.prog 25 q4C := by
 refine Ok.fn (ann := qed) mixed qo VSkr28 ValidIt.no (fn := Tryz.f25) (by kernel_rfl) (by kernel_rfl) (by kernel_rfl) fun args r pre fresh h hp => ?_
 unfold q4C at h
 split at h
 ·rename_i m0 m1 m2 m3 m4 m5 m6 m7 m8 m9 mA mB s0 s1 s2 n_l c_l
  cases h
  have hp0 := hp
  refine ⟨rfl, fun _ _ _ => False, _, (qk (LeD.refl _) (qk (LeD.refl _) (qk (leT_c ((qY hp0))) qM))), Nat.le_of_ble_eq_true (by kernel_rfl), ?_, ?_⟩
  ·exact cast (by kernel_rfl) (qd1 m0 m1 m2 m3 m4 m5 m6 m7 m8 m9 mA mB s0 s1 s2 (qa n_l qc c_l))
  ·exact cast (by kernel_rfl) trivial
 ·cases h
def Skr29 : Sum := addS Skr28 25 q4C
theorem VSkr29 : Valid Tryz.prog Skr29 := Valid.add VSkr28 q8D
def qat (b0 b1 b2 b3 b4 b5 : Int) (post : DV → Prop) : Prop := (0 ≤ (0 : Int) ∧ (0 : Int) < ((3 : Nat) : Int)) ∧ ((0 ≤ (0 : Int) ∧ (0 : Int) < ((3 : Nat) : Int)) ∧ (lt (IntKind.i64.wrap (b3 - b0)) fun x1 => lt (IntKind.i64.wrap (x1 + (1 : Int))) fun x2 => lt (IntKind.i64.wrap ((1 : Int) * x2)) fun x3 => (0 ≤ (1 : Int) ∧ (1 : Int) < ((3 : Nat) : Int)) ∧ ((0 ≤ (1 : Int) ∧ (1 : Int) < ((3 : Nat) : Int)) ∧ (lt (IntKind.i64.wrap (b4 - b1)) fun x4 => lt (IntKind.i64.wrap (x4 + (1 : Int))) fun x5 => lt (IntKind.i64.wrap (x3 * x5)) fun x6 => (0 ≤ (2 : Int) ∧ (2 : Int) < ((3 : Nat) : Int)) ∧ ((0 ≤ (2 : Int) ∧ (2 : Int) < ((3 : Nat) : Int)) ∧ (lt (IntKind.i64.wrap (b5 - b2)) fun x7 => lt (IntKind.i64.wrap (x7 + (1 : Int))) fun x8 => lt (IntKind.i64.wrap (x6 * x8)) fun x9 => post (.t (.c (.v (.int .i64 x9))))))))))
def qgp : Ann := An (fun r => qr r [(5, ([[], [], [], [1, 2], [1, 2, 3], [], [], [5, 6], [5, 6, 7], [1, 2, 3, 4, 5, 6, 7, 8], [1, 2, 3, 4, 5, 6, 7, 8, 9], [0, 1, 2, 3, 4, 5, 6, 7, 8, 9, 10], [0, 1, 2, 3, 4, 5, 6, 7, 8, 9, 10, 11]], [[], [], [], [], [], [], [], [], [], [], [], [], []]))]) fun b => qr b [(0, (some 4, some ⟨[1, 3, 5], [1], []⟩))]
theorem qfl (b0 b1 b2 b3 b4 b5 : Int) (hp : ((TB.mk (.mk b0 b1 b2) (.mk b3 b4 b5))).lo.inS 20 = true ∧ ((TB.mk (.mk b0 b1 b2) (.mk b3 b4 b5))).hi.inS 20 = true ∧ ((TB.mk (.mk b0 b1 b2) (.mk b3 b4 b5))).ok) : qat b0 b1 b2 b3 b4 b5 (fun r => LeD r (.t (.c (.v (.int .i64 (((TB.mk (.mk b0 b1 b2) (.mk b3 b4 b5))).count)))))) := by
 obtain ⟨a1, a2, a3⟩ := qn.1 hp.1
 obtain ⟨c1, c2, c3⟩ := qn.1 hp.2.1
 simp only at a1 a2 a3 c1 c2 c3
 unfold qat
 refine ⟨by decide, by decide, lt_i fun x1 h1 => lt_i fun x2 h2 => lt_i fun x3 h3 => ⟨by decide, by decide, lt_i fun x4 h4 => lt_i fun x5 h5 => lt_i fun x6 h6 => ⟨by decide, by decide, lt_i fun x7 h7 => lt_i fun x8 h8 => lt_i fun x9 h9 => leI ?_⟩⟩⟩
 rw [wi (by omega)] at h1 h4 h7
 subst h1 h4 h7
 rw [wi (by omega)] at h2 h5 h8
 subst h2 h5 h8
 rw [wi (by omega)] at h3
 subst h3
 have m1 := qv (x := 1 * (b3 - b0 + 1)) (y := b4 - b1 + 1) (A := 41) (B := 41) (C := 1681) (by omega) (by omega) (by decide)
 rw [wi (by omega)] at h6
 subst h6
 have m2 := qv (x := 1 * (b3 - b0 + 1) * (b4 - b1 + 1)) (y := b5 - b2 + 1) (A := 1681) (B := 41) (C := 68921) (by omega) (by omega) (by decide)
 rw [wi (by omega)] at h9
 rw [← h9, Int.one_mul]
 rfl
def q5T : Con := fun args => match args with
 | [.t (.a [.v (.int .i64 b0), .v (.int .i64 b1), .v (.int .i64 b2), .v (.int .i64 b3), .v (.int .i64 b4), .v (.int .i64 b5)])] => some (.t (.c (.v (.int .i64 (((TB.mk (.mk b0 b1 b2) (.mk b3 b4 b5))).count)))), some (((TB.mk (.mk b0 b1 b2) (.mk b3 b4 b5))).lo.inS 20 = true ∧ ((TB.mk (.mk b0 b1 b2) (.mk b3 b4 b5))).hi.inS 20 = true ∧ ((TB.mk (.mk b0 b1 b2) (.mk b3 b4 b5))).ok), false)
 | _ => none
theorem qhC : Ok Tryz.prog 71 q5T := by
 refine Ok.fn (ann := qgp) mixed qo VSkr29 ValidIt.no (fn := Tryz.f71) (by kernel_rfl) (by kernel_rfl) (by kernel_rfl) fun args r pre fresh h hp => ?_
 unfold q5T at h
 split at h
 ·rename_i b0 b1 b2 b3 b4 b5
  cases h
  refine ⟨rfl, fun _ _ _ => False, _, LeA.refl _, Nat.le_of_ble_eq_true (by kernel_rfl), ?_, ?_⟩
  ·exact cast (by kernel_rfl) (qfl b0 b1 b2 b3 b4 b5 hp)
  ·exact cast (by kernel_rfl) trivial
 ·cases h
def Skr30 : Sum := addS Skr29 71 q5T
theorem VSkr30 : Valid Tryz.prog Skr30 := Valid.add VSkr29 qhC
end Go.Proofs.YtfadkjcfjkmalaaGreatDoor
