/- Texts of this claim, together. -/
import Derived.Test.YtmhgjlapkhdlmaaDoorPA11
import Derived.Test.YtmhgjlapkhdlmaaDoorPA12

set_option linter.unusedVariables false
set_option linter.unusedSimpArgs false
namespace Go.Proofs.YtmhgjlapkhdlmaaDoor
open Go.RowKit Ev
def exH (l : List FHit) (p : P3) (t : Int) (i : Nat) : Bool := exB p t (hitAt l i)
def jdB (l : List FHit) (p q : P3) (s t : Int) : Int := idxP (fun i : Nat => !(exH l p s i || exH l q t i)) (List.range l.length)
theorem range_getD {n i : Nat} (h : i < n) : (List.range n).getD i 0 = i := by simp [List.getD, h]
theorem jdB_none {l : List FHit} {p q : P3} {s t : Int} (h : ∀ i, i < l.length → (exH l p s i || exH l q t i) = true) : jdB l p q s t = -1 := by
 unfold jdB
 refine idxP_none (d := (0 : Nat)) fun j hj => ?_
 rw [List.length_range] at hj
 rw [range_getD hj, h j hj]; rfl
theorem jdB_at {l : List FHit} {p q : P3} {s t : Int} {m : Nat} (hm : m < l.length) (h : (exH l p s m || exH l q t m) = false) (hz : ∀ j, j < m → (exH l p s j || exH l q t j) = true) : jdB l p q s t = m := by
 unfold jdB
 refine idxP_at (d := (0 : Nat)) (by rw [List.length_range]; exact hm) (fun j hj => ?_) ?_
 ·rw [range_getD (by omega), hz j hj]; rfl
 ·rw [range_getD hm, h]; rfl
theorem jdB_cases (l : List FHit) (p q : P3) (s t : Int) : (jdB l p q s t = -1 ∧ ∀ i, i < l.length → (exH l p s i || exH l q t i) = true) ∨ ∃ m, m < l.length ∧ jdB l p q s t = m ∧ (exH l p s m || exH l q t m) = false ∧ ∀ j, j < m → (exH l p s j || exH l q t j) = true := by
 by_cases h : ∀ i, i < l.length → (exH l p s i || exH l q t i) = true
 ·exact Or.inl ⟨jdB_none h, h⟩
 ·right
  have key : ∀ k, k ≤ l.length → (∀ i, i < k → (exH l p s i || exH l q t i) = true) ∨ ∃ m, m < k ∧ (exH l p s m || exH l q t m) = false ∧ ∀ j, j < m → (exH l p s j || exH l q t j) = true := by
   intro k
   induction k with
   | zero => intro _; exact Or.inl fun i hi => by omega
   | succ k ih =>
    intro hk
    rcases ih (by omega) with h1 | ⟨m, m1, m2⟩
    ·cases hq : (exH l p s k || exH l q t k) with
     | true =>
      refine Or.inl fun i hi => ?_
      by_cases e : i = k
      ·rw [e]; exact hq
      ·exact h1 i (by omega)
     | false => exact Or.inr ⟨k, by omega, hq, h1⟩
    ·exact Or.inr ⟨m, by omega, m2⟩
  rcases key l.length (Nat.le_refl _) with h1 | ⟨m, m1, m2, m3⟩
  ·exact (h h1).elim
  ·exact ⟨m, m1, jdB_at m1 m2 m3, m2, m3⟩
theorem jdB_ok {l : List FHit} {p q : P3} {s t : Int} : jdB l p q s t < 0 ↔ okT (sts l p) (sts l q) s t := by
 have f1 : ∀ p : P3, ∀ u : Int, ∀ j, j < l.length → exH l p u j = hasB (rgAt (sts l p) j) u := fun p u j hj => by rw [sts_at hj]; rfl
 rcases jdB_cases l p q s t with ⟨h1, h2⟩ | ⟨m, m1, m2, m3, m4⟩
 ·refine ⟨fun _ i hi => ?_, fun _ => by omega⟩
  rw [sts_len] at hi
  have := h2 i hi
  rw [f1 p s i hi, f1 q t i hi, Bool.or_eq_true] at this
  exact this
 ·refine ⟨fun h => by omega, fun h => ?_⟩
  have := h m (by rw [sts_len]; exact m1)
  rw [f1 p s m m1, f1 q t m m1, Bool.or_eq_false_iff] at m3
  rcases this with g | g
  ·rw [m3.1] at g; cases g
  ·rw [m3.2] at g; cases g
def con_ref06_starts : Con := fun args => match args with
 | [.t (.c (.sl 7 n_l c_l)), .t (.a [.v (.int .i64 p0), .v (.int .i64 p1), .v (.int .i64 p2)])] => some (.t (.c (.sl 1 ((strS (sts (listC n_l mkHit c_l) (⟨p0, p1, p2⟩ : P3))).length) (intsC (strS (sts (listC n_l mkHit c_l) (⟨p0, p1, p2⟩ : P3)))))), some (numsP 7 n_l c_l ∧ hitsE (listC n_l mkHit c_l) = 0 ∧ ((⟨p0, p1, p2⟩ : P3)).bd 15000), false)
 | _ => none
theorem ok_ref06_starts : Ok Tryd.prog 142 con_ref06_starts := by
 intro args r pre fresh h hp
 unfold con_ref06_starts at h
 split at h
 ·rename_i n_l c_l p0 p1 p2
  cases h
  obtain ⟨hp0, hp⟩ := hp
  refine ⟨Enters.of (fn := Tryd.f142) (by kernel_rfl) (by kernel_rfl) (by kernel_rfl), fun W N vs hG hv => ?_⟩
  have hv : All2 (RelD (RelF W N)) [.t (.c (.sl 7 n_l c_l)), .t (.a [.v (.int .i64 p0), .v (.int .i64 p1), .v (.int .i64 p2)])] vs := hv
  obtain ⟨u0, ws0, e0, g0, hv0⟩ := hv.cons_inv
  subst e0
  obtain ⟨u1, ws1, e1, g1, hv1⟩ := hv0.cons_inv
  subst e1
  have ev := hv1.nil_inv
  subst ev
  obtain ⟨us, rfl, t1⟩ := g1
  obtain ⟨x0, us0, rfl, t2, t3⟩ := t1.cons_inv
  obtain ⟨x1, us1, rfl, t4, t5⟩ := t3.cons_inv
  obtain ⟨x2, us2, rfl, t6, t7⟩ := t5.cons_inv
  obtain rfl := t7.nil_inv
  obtain ⟨rfl, _⟩ := t2
  obtain ⟨rfl, _⟩ := t4
  obtain ⟨rfl, _⟩ := t6
  exact walk_starts W N hG (listC n_l mkHit c_l) p0 p1 p2 u0 hp (leL_FHit hp0 W N u0 g0)
 ·cases h
noncomputable def Sh147 : Sum := addS Sf146 142 con_ref06_starts
theorem VSh147 : Valid Tryd.prog Sh147 := Valid.add VSf146 ok_ref06_starts
def vc_ref06_Explains (p0 p1 p2 : Int) (t : Int) (h0 h1 h2 h3 h4 h5 h6 : Int) (post : DV → Prop) : Prop := (((⟨p0, p1, p2⟩ : P3)).bd 15000 ∧ ((⟨h0, h1, h2⟩ : P3)).bd 15000) ∧ (lt (IntKind.i64.wrap (t + (dly (⟨p0, p1, p2⟩ : P3) (⟨h0, h1, h2⟩ : P3)))) fun x1 => post (.t (.c (.v (.bool (inB x1 h3 h4))))))
def ann_ref06_Explains : Ann := ⟨fun r => lookA r [(1, ([[], [], [], [2], [1, 2, 3], [0, 1, 2, 3, 4], [], [6], [6, 7], [], [9], [9, 10], [0, 1, 2, 3, 4, 5, 6, 7, 8, 9, 10, 11], [0, 1, 2, 3, 4, 5, 6, 7, 8, 9, 10, 11, 12]], [[11, 19], [11, 19], [11, 19], [11, 19], [19], [19], [11, 19], [11, 19], [11, 19], [11, 19], [11, 19], [11, 19], [], []]))], fun _ => none, fun _ => [], I1, false, fun _ => none, fun _ => none⟩
theorem ev_ref06_Explains (J : Inv) (p0 p1 p2 : Int) (t : Int) (h0 h1 h2 h3 h4 h5 h6 : Int) (post : DV → Prop) : evFn Tryd.prog tab Sh147 ann_ref06_Explains J Tryd.f156 [.t (.a [.v (.int .i64 p0), .v (.int .i64 p1), .v (.int .i64 p2)]), .t (.c (.v (.int .i64 t))), .t (.a [.v (.int .i64 h0), .v (.int .i64 h1), .v (.int .i64 h2), .v (.int .i64 h3), .v (.int .i64 h4), .v (.int .i64 h5), .v (.int .i64 h6)])] post = vc_ref06_Explains p0 p1 p2 t h0 h1 h2 h3 h4 h5 h6 post := by kernel_rfl
theorem fit_ref06_Explains : okFn ann_ref06_Explains Tryd.f156 = true := by kernel_rfl
theorem lp_ref06_Explains (J : Inv) (post : DV → Prop) : AllG J (loopsFn Tryd.prog tab Sh147 ann_ref06_Explains J Tryd.f156 post) = (True) := by kernel_rfl
theorem spec_ref06_Explains (p0 p1 p2 : Int) (t : Int) (h0 h1 h2 h3 h4 h5 h6 : Int) (hp : ((⟨p0, p1, p2⟩ : P3)).bd 15000 ∧ ((⟨⟨h0, h1, h2⟩, ⟨h3, h4⟩, ⟨h5, h6⟩⟩ : FHit)).p.bd 15000 ∧ -2000000000 ≤ t ∧ t ≤ 2000000000) : vc_ref06_Explains p0 p1 p2 t h0 h1 h2 h3 h4 h5 h6 (fun r => LeD r (.t (.c (.v (.bool (exB (⟨p0, p1, p2⟩ : P3) t (⟨⟨h0, h1, h2⟩, ⟨h3, h4⟩, ⟨h5, h6⟩⟩ : FHit))))))) := by
 obtain ⟨q1, q2, q3⟩ := hp
 have d := dly_rg q1 q2
 simp only at d
 unfold vc_ref06_Explains
 refine ⟨⟨q1, q2⟩, lt_i fun x h => leB ?_⟩
 rw [wi (by omega)] at h
 subst h
 unfold exB stR
 rw [Bool.eq_iff_iff, inB_true, inB_true]
 simp only
 omega
def con_ref06_Explains : Con := fun args => match args with
 | [.t (.a [.v (.int .i64 p0), .v (.int .i64 p1), .v (.int .i64 p2)]), .t (.c (.v (.int .i64 t))), .t (.a [.v (.int .i64 h0), .v (.int .i64 h1), .v (.int .i64 h2), .v (.int .i64 h3), .v (.int .i64 h4), .v (.int .i64 h5), .v (.int .i64 h6)])] => some (.t (.c (.v (.bool (exB (⟨p0, p1, p2⟩ : P3) t (⟨⟨h0, h1, h2⟩, ⟨h3, h4⟩, ⟨h5, h6⟩⟩ : FHit))))), some (((⟨p0, p1, p2⟩ : P3)).bd 15000 ∧ ((⟨⟨h0, h1, h2⟩, ⟨h3, h4⟩, ⟨h5, h6⟩⟩ : FHit)).p.bd 15000 ∧ -2000000000 ≤ t ∧ t ≤ 2000000000), false)
 | _ => none
theorem ok_ref06_Explains : Ok Tryd.prog 156 con_ref06_Explains := by
 refine Ok.fn (ann := ann_ref06_Explains) mixed tabOK VSh147 VI1 (fn := Tryd.f156) (by kernel_rfl) (by kernel_rfl) fit_ref06_Explains fun args r pre fresh h hp => ?_
 unfold con_ref06_Explains at h
 split at h
 ·rename_i p0 p1 p2 t h0 h1 h2 h3 h4 h5 h6
  cases h
  refine ⟨rfl, fun _ _ _ => False, _, LeA.refl _, Nat.le_of_ble_eq_true (by kernel_rfl), ?_, ?_⟩
  ·rw [ev_ref06_Explains]; exact spec_ref06_Explains p0 p1 p2 t h0 h1 h2 h3 h4 h5 h6 hp
  ·rw [lp_ref06_Explains]; trivial
 ·cases h
noncomputable def Sh148 : Sum := addS Sh147 156 con_ref06_Explains
theorem VSh148 : Valid Tryd.prog Sh148 := Valid.add VSh147 ok_ref06_Explains
def mk_ref06_judge_0 (l : List FHit) (p0 p1 p2 : Int) (q0 q1 q2 : Int) (c : Int) (t : Int) (v0_0 : Int) (v0_1 : Int) (v0_2 : Int) (v0_3 : Int) : DS := ⟨[some (.t (.c (.sl 7 l.length (hitsC l)))), none, none, some (.t (.c (.v (.int .i64 c)))), some (.t (.c (.v (.int .i64 t)))), none, some (.t (.c (.p 6 0))), some (.t (.c (.p 7 0))), none, none, none, none, none, some (.t (.c (.v (.int .i64 v0_0)))), some (.t (.c (.v (.int .i64 v0_1)))), some (.t (.c (.v (.int .i64 v0_2)))), some (.t (.c (.v (.int .i64 v0_3)))), none, none, none, none, none, none, none, none, none, none, none, none, none, none, none, none, none, none, none, none, none, none, none, none, none, none, none, none, none, none, none, none, none, none, none, none, none, none, none, none, none, none], [none, none, none, none, none, none, some (.box 24 [.v (.int .i64 p0), .v (.int .i64 p1), .v (.int .i64 p2)]), some (.box 24 [.v (.int .i64 q0), .v (.int .i64 q1), .v (.int .i64 q2)]), none, none, none, none, none, none, none, none, none, none, none, none, none, none, none, none, none, none, none, none, none, none, none, none, none, none, none, none, none, none, none, none, none, none, none, none, none, none, none, none, none, none, none, none, none, none, none, none, none, none, none]⟩
def vc_ref06_judge (J : Inv) (l : List FHit) (p0 p1 p2 : Int) (q0 q1 q2 : Int) (c : Int) (t : Int) (post : DV → Prop) : Prop := ∃ n, J 0 (n :: []) (mk_ref06_judge_0 l p0 p1 p2 q0 q1 q2 c t (-1) 0 0 0)
def ann_ref06_judge : Ann := ⟨fun r => lookA r [(5, ([[], [], [], [], [2, 3], [2, 3, 4], [0, 1, 2, 3, 4, 5], [], [], [], [], [9, 10], [9, 10, 11], [0, 1, 2, 3, 4, 5, 6, 7, 8, 9, 10, 11, 12], [0, 1, 2, 3, 4, 5, 6, 7, 8, 9, 10, 11, 12, 13], [0, 1, 2, 3, 4, 5, 6, 7, 8, 9, 10, 11, 12, 13, 14]], [[31, 38], [31, 38], [31, 38], [31, 38], [31, 38], [31, 38], [38], [31, 38], [31, 38], [31, 38], [31, 38], [31, 38], [31, 38], [], [], []]))], fun b => lookA b [(0, (none, some ⟨[0, 3, 4, 6, 7, 13, 14, 15, 16], [6, 7], []⟩))], fun _ => [], I1, false, fun r => lookA r [(10, (3, [54]))], fun r => lookA r [(7, [14]), (9, [15]), (11, [13])]⟩
theorem ev_ref06_judge (J : Inv) (l : List FHit) (p0 p1 p2 : Int) (q0 q1 q2 : Int) (c : Int) (t : Int) (post : DV → Prop) : evFn Tryd.prog tab Sh148 ann_ref06_judge J Tryd.f141 [.t (.c (.sl 7 l.length (hitsC l))), .t (.a [.v (.int .i64 p0), .v (.int .i64 p1), .v (.int .i64 p2)]), .t (.a [.v (.int .i64 q0), .v (.int .i64 q1), .v (.int .i64 q2)]), .t (.c (.v (.int .i64 c))), .t (.c (.v (.int .i64 t)))] post = vc_ref06_judge J l p0 p1 p2 q0 q1 q2 c t post := by kernel_rfl
theorem fit_ref06_judge : okFn ann_ref06_judge Tryd.f141 = true := by kernel_rfl
def rd_ref06_judge_0 (J : Inv) (l : List FHit) (p0 p1 p2 : Int) (q0 q1 q2 : Int) (c : Int) (t : Int) (v0_0 : Int) (v0_1 : Int) (v0_2 : Int) (v0_3 : Int) (nn0 : Nat) (post : DV → Prop) : Prop := cond (decide (v0_3 < ((l.length : Nat) : Int))) ((0 ≤ v0_3 ∧ v0_3 < ((l.length : Nat) : Int)) ∧ ((((⟨p0, p1, p2⟩ : P3)).bd 15000 ∧ ((hitAt l v0_3.toNat)).p.bd 15000 ∧ -2000000000 ≤ c ∧ c ≤ 2000000000) ∧ ((0 ≤ v0_3 ∧ v0_3 < ((l.length : Nat) : Int)) ∧ ((((⟨q0, q1, q2⟩ : P3)).bd 15000 ∧ ((hitAt l v0_3.toNat)).p.bd 15000 ∧ -2000000000 ≤ t ∧ t ≤ 2000000000) ∧ ((cond (exB (⟨p0, p1, p2⟩ : P3) c (hitAt l v0_3.toNat)) (lt (IntKind.i64.wrap (v0_1 + (1 : Int))) fun x2 => True) (True)) ∧ (lt ((bif exB (⟨p0, p1, p2⟩ : P3) c (hitAt l v0_3.toNat) then (IntKind.i64.wrap (v0_1 + (1 : Int))) else v0_1)) fun x3 => (cond (exB (⟨q0, q1, q2⟩ : P3) t (hitAt l v0_3.toNat)) (lt (IntKind.i64.wrap (v0_2 + (1 : Int))) fun x5 => True) (True)) ∧ (lt ((bif exB (⟨q0, q1, q2⟩ : P3) t (hitAt l v0_3.toNat) then (IntKind.i64.wrap (v0_2 + (1 : Int))) else v0_2)) fun x6 => (cond (!(exB (⟨p0, p1, p2⟩ : P3) c (hitAt l v0_3.toNat))) (cond (!(exB (⟨q0, q1, q2⟩ : P3) t (hitAt l v0_3.toNat))) (True) ((false = false) ∧ (True))) ((false = false) ∧ ((false = false) ∧ (True)))) ∧ (lt ((bif (!(exB (⟨p0, p1, p2⟩ : P3) c (hitAt l v0_3.toNat))) then (bif (!(exB (⟨q0, q1, q2⟩ : P3) t (hitAt l v0_3.toNat))) then decide (v0_0 < (0 : Int)) else false) else false)) fun x7 => (cond x7 (True) (True)) ∧ (lt ((bif x7 then v0_3 else v0_0)) fun x8 => lt (IntKind.i64.wrap (v0_3 + (1 : Int))) fun x9 => J 0 (nn0 :: []) (mk_ref06_judge_0 l p0 p1 p2 q0 q1 q2 c t x8 x3 x6 x9)))))))))) (post (.tu [.c (.v (.int .i64 v0_0)), .c (.v (.int .i64 v0_1)), .c (.v (.int .i64 v0_2))]))
theorem er_ref06_judge_0 (J : Inv) (l : List FHit) (p0 p1 p2 : Int) (q0 q1 q2 : Int) (c : Int) (t : Int) (v0_0 : Int) (v0_1 : Int) (v0_2 : Int) (v0_3 : Int) (nn0 : Nat) (post : DV → Prop) : round Tryd.prog tab Sh148 ann_ref06_judge J Tryd.f141 post 0 (nn0 :: []) (mk_ref06_judge_0 l p0 p1 p2 q0 q1 q2 c t v0_0 v0_1 v0_2 v0_3) = rd_ref06_judge_0 J l p0 p1 p2 q0 q1 q2 c t v0_0 v0_1 v0_2 v0_3 nn0 post := by kernel_rfl
theorem lp_ref06_judge (J : Inv) (post : DV → Prop) : AllG J (loopsFn Tryd.prog tab Sh148 ann_ref06_judge J Tryd.f141 post) = (((∀ F s, ¬ J 0 (0 :: F) s) ∧ ∀ n F s, J 0 ((n + 1) :: F) s → round Tryd.prog tab Sh148 ann_ref06_judge J Tryd.f141 post 0 (n :: F) s) ∧ True) := by kernel_rfl
def J_ref06_judge (l : List FHit) (p0 p1 p2 : Int) (q0 q1 q2 : Int) (c : Int) (t : Int) : Inv := fun b F s => match b, F with
 | 0, [nn0] => ∃ (v0_0 : Int) (v0_1 : Int) (v0_2 : Int) (v0_3 : Int), s = mk_ref06_judge_0 l p0 p1 p2 q0 q1 q2 c t v0_0 v0_1 v0_2 v0_3 ∧ ((hitsE l = 0 ∧ (⟨p0, p1, p2⟩ : P3).bd 15000 ∧ (⟨q0, q1, q2⟩ : P3).bd 15000 ∧ (-2000000000 ≤ c ∧ c ≤ 2000000000) ∧ -2000000000 ≤ t ∧ t ≤ 2000000000) ∧ 0 ≤ v0_3 ∧ v0_3 ≤ l.length ∧ (nn0 : Int) + v0_3 = l.length + 1 ∧ ((v0_0 = -1 ∧ ∀ j : Nat, (j : Int) < v0_3 → (fun i : Nat => exH l (⟨p0, p1, p2⟩ : P3) c i || exH l (⟨q0, q1, q2⟩ : P3) t i) j = true) ∨ ∃ m : Nat, (m : Int) < v0_3 ∧ v0_0 = m ∧ (fun i : Nat => exH l (⟨p0, p1, p2⟩ : P3) c i || exH l (⟨q0, q1, q2⟩ : P3) t i) m = false ∧ ∀ j, j < m → (fun i : Nat => exH l (⟨p0, p1, p2⟩ : P3) c i || exH l (⟨q0, q1, q2⟩ : P3) t i) j = true) ∧ v0_1 = cntB (exH l (⟨p0, p1, p2⟩ : P3) c) v0_3.toNat ∧ v0_2 = cntB (exH l (⟨q0, q1, q2⟩ : P3) t) v0_3.toNat)
 | _, _ => False
theorem rnd_ref06_judge_0 (l : List FHit) (p0 p1 p2 : Int) (q0 q1 q2 : Int) (c : Int) (t : Int) (v0_0 : Int) (v0_1 : Int) (v0_2 : Int) (v0_3 : Int) (nn0 : Nat) (hp : hitsE l = 0 ∧ ((⟨p0, p1, p2⟩ : P3)).bd 15000 ∧ ((⟨q0, q1, q2⟩ : P3)).bd 15000 ∧ (-2000000000 ≤ c ∧ c ≤ 2000000000) ∧ -2000000000 ≤ t ∧ t ≤ 2000000000) (hi : (hitsE l = 0 ∧ (⟨p0, p1, p2⟩ : P3).bd 15000 ∧ (⟨q0, q1, q2⟩ : P3).bd 15000 ∧ (-2000000000 ≤ c ∧ c ≤ 2000000000) ∧ -2000000000 ≤ t ∧ t ≤ 2000000000) ∧ 0 ≤ v0_3 ∧ v0_3 ≤ l.length ∧ ((nn0 + 1) : Int) + v0_3 = l.length + 1 ∧ ((v0_0 = -1 ∧ ∀ j : Nat, (j : Int) < v0_3 → (fun i : Nat => exH l (⟨p0, p1, p2⟩ : P3) c i || exH l (⟨q0, q1, q2⟩ : P3) t i) j = true) ∨ ∃ m : Nat, (m : Int) < v0_3 ∧ v0_0 = m ∧ (fun i : Nat => exH l (⟨p0, p1, p2⟩ : P3) c i || exH l (⟨q0, q1, q2⟩ : P3) t i) m = false ∧ ∀ j, j < m → (fun i : Nat => exH l (⟨p0, p1, p2⟩ : P3) c i || exH l (⟨q0, q1, q2⟩ : P3) t i) j = true) ∧ v0_1 = cntB (exH l (⟨p0, p1, p2⟩ : P3) c) v0_3.toNat ∧ v0_2 = cntB (exH l (⟨q0, q1, q2⟩ : P3) t) v0_3.toNat) : rd_ref06_judge_0 (J_ref06_judge l p0 p1 p2 q0 q1 q2 c t) l p0 p1 p2 q0 q1 q2 c t v0_0 v0_1 v0_2 v0_3 nn0 (fun r => LeD r (.tu [.c (.v (.int .i64 (jdB l (⟨p0, p1, p2⟩ : P3) (⟨q0, q1, q2⟩ : P3) c t))), .c (.v (.int .i64 (cntB (exH l (⟨p0, p1, p2⟩ : P3) c) (l).length))), .c (.v (.int .i64 (cntB (exH l (⟨q0, q1, q2⟩ : P3) t) (l).length)))])) := by
 obtain ⟨i0, i1, i2, i3, i4, i5, i6⟩ := hi
 obtain ⟨k, rfl⟩ : ∃ k : Nat, v0_3 = k := ⟨v0_3.toNat, by omega⟩
 have hk : (k : Int).toNat = k := rfl
 rw [hk] at i5 i6
 obtain ⟨a1, a2, a3, a4, a5⟩ := id i0
 obtain ⟨⟨z1, z2⟩, z3⟩ := hitsE_ok a1
 have b1 := cntB_rg (exH l (⟨p0, p1, p2⟩ : P3) c) k
 have b2 := cntB_rg (exH l (⟨q0, q1, q2⟩ : P3) t) k
 unfold rd_ref06_judge_0
 rw [hk]
 refine cond_i (fun h => ?_) (fun h => ?_)
 ·have hlt : k < l.length := by have := of_decide_eq_true h; omega
  have hz := (hit_ok (z3 k hlt)).1.mono (B := 15000) (by decide)
  have n1 := cntB_succ (f := exH l (⟨p0, p1, p2⟩ : P3) c) (k := k)
  have n2 := cntB_succ (f := exH l (⟨q0, q1, q2⟩ : P3) t) (k := k)
  have ea : exB (⟨p0, p1, p2⟩ : P3) c (hitAt l k) = exH l (⟨p0, p1, p2⟩ : P3) c k := rfl
  have eb : exB (⟨q0, q1, q2⟩ : P3) t (hitAt l k) = exH l (⟨q0, q1, q2⟩ : P3) t k := rfl
  rw [ea, eb]
  refine ⟨by omega, ⟨a2, hz, a4⟩, by omega, ⟨a3, hz, a5⟩, cond_i (fun _ => lt_i fun _ _ => trivial) (fun _ => trivial), lt_i fun x3 h3 => ⟨cond_i (fun _ => lt_i fun _ _ => trivial) (fun _ => trivial), lt_i fun x6 h6 => ⟨cond_i (fun _ => cond_i (fun _ => trivial) (fun _ => ⟨by trivial, trivial⟩)) (fun _ => ⟨by trivial, by trivial, trivial⟩), lt_i fun x7 h7 => ⟨cond_i (fun _ => trivial) (fun _ => trivial), lt_i fun x8 h8 => lt_i fun x9 h9 => ?_⟩⟩⟩⟩
  rw [wi (by omega)] at h3 h6 h9
  subst h9
  refine ⟨_, _, _, _, rfl, i0, by omega, by omega, by omega, ?_, ?_, ?_⟩
  ·by_cases o : (exH l (⟨p0, p1, p2⟩ : P3) c k || exH l (⟨q0, q1, q2⟩ : P3) t k) = true
   ·have e7 : x7 = false := by rw [← h7]; revert o; cases exH l (⟨p0, p1, p2⟩ : P3) c k <;> cases exH l (⟨q0, q1, q2⟩ : P3) t k <;> simp
    rw [e7] at h8
    have h8 : v0_0 = x8 := h8
    subst h8
    rcases i4 with ⟨g1, g2⟩ | ⟨m, g1, g2⟩
    ·exact Or.inl ⟨g1, fun j hj => by
      by_cases q : j = k
      ·rw [q]; exact o
      ·exact g2 j (by omega)⟩
    ·exact Or.inr ⟨m, by omega, g2⟩
   ·have o : (exH l (⟨p0, p1, p2⟩ : P3) c k || exH l (⟨q0, q1, q2⟩ : P3) t k) = false := by simpa using o
    have e7 : x7 = decide (v0_0 < 0) := by rw [← h7]; revert o; cases exH l (⟨p0, p1, p2⟩ : P3) c k <;> cases exH l (⟨q0, q1, q2⟩ : P3) t k <;> simp
    rcases i4 with ⟨g1, g2⟩ | ⟨m, g1, g2, g3⟩
    ·rw [e7, decide_eq_true (by omega)] at h8
     have h8 : (k : Int) = x8 := h8
     exact Or.inr ⟨k, by omega, h8.symm, o, fun j hj => g2 j (by omega)⟩
    ·rw [e7, decide_eq_false (by omega)] at h8
     have h8 : v0_0 = x8 := h8
     exact Or.inr ⟨m, by omega, by omega, g3⟩
  ·rw [show ((k : Int) + 1).toNat = k + 1 by omega, n1, ← h3, i5]
   cases exH l (⟨p0, p1, p2⟩ : P3) c k <;> simp
  ·rw [show ((k : Int) + 1).toNat = k + 1 by omega, n2, ← h6, i6]
   cases exH l (⟨q0, q1, q2⟩ : P3) t k <;> simp
 ·have hge : k = l.length := by have := of_decide_eq_false h; omega
  subst hge
  subst i5 i6
  have e : jdB l (⟨p0, p1, p2⟩ : P3) (⟨q0, q1, q2⟩ : P3) c t = v0_0 := by
   rcases i4 with ⟨g1, g2⟩ | ⟨m, g1, g2, g3, g4⟩
   ·rw [g1]; exact jdB_none fun j hj => g2 j (by omega)
   ·rw [g2]; exact jdB_at (by omega) g3 g4
  rw [e]
  exact LeD.refl _
theorem zero_ref06_judge_0 (l : List FHit) (p0 p1 p2 : Int) (q0 q1 q2 : Int) (c : Int) (t : Int) (v0_0 : Int) (v0_1 : Int) (v0_2 : Int) (v0_3 : Int)  (hi : (hitsE l = 0 ∧ (⟨p0, p1, p2⟩ : P3).bd 15000 ∧ (⟨q0, q1, q2⟩ : P3).bd 15000 ∧ (-2000000000 ≤ c ∧ c ≤ 2000000000) ∧ -2000000000 ≤ t ∧ t ≤ 2000000000) ∧ 0 ≤ v0_3 ∧ v0_3 ≤ l.length ∧ (0 : Int) + v0_3 = l.length + 1 ∧ ((v0_0 = -1 ∧ ∀ j : Nat, (j : Int) < v0_3 → (fun i : Nat => exH l (⟨p0, p1, p2⟩ : P3) c i || exH l (⟨q0, q1, q2⟩ : P3) t i) j = true) ∨ ∃ m : Nat, (m : Int) < v0_3 ∧ v0_0 = m ∧ (fun i : Nat => exH l (⟨p0, p1, p2⟩ : P3) c i || exH l (⟨q0, q1, q2⟩ : P3) t i) m = false ∧ ∀ j, j < m → (fun i : Nat => exH l (⟨p0, p1, p2⟩ : P3) c i || exH l (⟨q0, q1, q2⟩ : P3) t i) j = true) ∧ v0_1 = cntB (exH l (⟨p0, p1, p2⟩ : P3) c) v0_3.toNat ∧ v0_2 = cntB (exH l (⟨q0, q1, q2⟩ : P3) t) v0_3.toNat) : False := by
 omega
theorem spec_ref06_judge (l : List FHit) (p0 p1 p2 : Int) (q0 q1 q2 : Int) (c : Int) (t : Int) (hp : hitsE l = 0 ∧ ((⟨p0, p1, p2⟩ : P3)).bd 15000 ∧ ((⟨q0, q1, q2⟩ : P3)).bd 15000 ∧ (-2000000000 ≤ c ∧ c ≤ 2000000000) ∧ -2000000000 ≤ t ∧ t ≤ 2000000000) : vc_ref06_judge (J_ref06_judge l p0 p1 p2 q0 q1 q2 c t) l p0 p1 p2 q0 q1 q2 c t (fun r => LeD r (.tu [.c (.v (.int .i64 (jdB l (⟨p0, p1, p2⟩ : P3) (⟨q0, q1, q2⟩ : P3) c t))), .c (.v (.int .i64 (cntB (exH l (⟨p0, p1, p2⟩ : P3) c) (l).length))), .c (.v (.int .i64 (cntB (exH l (⟨q0, q1, q2⟩ : P3) t) (l).length)))])) := by
 unfold vc_ref06_judge
 exact ⟨l.length + 1, _, _, _, 0, rfl, hp, by omega, by omega, by omega, Or.inl ⟨rfl, fun j hj => by omega⟩, rfl, rfl⟩
theorem all_ref06_judge (l : List FHit) (p0 p1 p2 : Int) (q0 q1 q2 : Int) (c : Int) (t : Int) (hp : hitsE l = 0 ∧ ((⟨p0, p1, p2⟩ : P3)).bd 15000 ∧ ((⟨q0, q1, q2⟩ : P3)).bd 15000 ∧ (-2000000000 ≤ c ∧ c ≤ 2000000000) ∧ -2000000000 ≤ t ∧ t ≤ 2000000000) : AllG (J_ref06_judge l p0 p1 p2 q0 q1 q2 c t) (loopsFn Tryd.prog tab Sh148 ann_ref06_judge (J_ref06_judge l p0 p1 p2 q0 q1 q2 c t) Tryd.f141 (fun r => LeD r (.tu [.c (.v (.int .i64 (jdB l (⟨p0, p1, p2⟩ : P3) (⟨q0, q1, q2⟩ : P3) c t))), .c (.v (.int .i64 (cntB (exH l (⟨p0, p1, p2⟩ : P3) c) (l).length))), .c (.v (.int .i64 (cntB (exH l (⟨q0, q1, q2⟩ : P3) t) (l).length)))]))) := by
 rw [lp_ref06_judge]
 refine ⟨⟨?_, ?_⟩, trivial⟩
 ·intro F s h
  obtain _ | ⟨g, F⟩ := F
  case cons => exact h.elim
  obtain ⟨w0, w1, w2, w3, rfl, hi⟩ := h
  exact zero_ref06_judge_0 l p0 p1 p2 q0 q1 q2 c t w0 w1 w2 w3 hi
 ·intro n F s h
  obtain _ | ⟨g, F⟩ := F
  case cons => exact h.elim
  obtain ⟨w0, w1, w2, w3, rfl, hi⟩ := h
  rw [er_ref06_judge_0]
  exact rnd_ref06_judge_0 l p0 p1 p2 q0 q1 q2 c t _ _ _ _ _ hp hi
def con_ref06_judge : Con := fun args => match args with
 | [.t (.c (.sl 7 n_l c_l)), .t (.a [.v (.int .i64 p0), .v (.int .i64 p1), .v (.int .i64 p2)]), .t (.a [.v (.int .i64 q0), .v (.int .i64 q1), .v (.int .i64 q2)]), .t (.c (.v (.int .i64 c))), .t (.c (.v (.int .i64 t)))] => some (.tu [.c (.v (.int .i64 (jdB (listC n_l mkHit c_l) (⟨p0, p1, p2⟩ : P3) (⟨q0, q1, q2⟩ : P3) c t))), .c (.v (.int .i64 (cntB (exH (listC n_l mkHit c_l) (⟨p0, p1, p2⟩ : P3) c) ((listC n_l mkHit c_l)).length))), .c (.v (.int .i64 (cntB (exH (listC n_l mkHit c_l) (⟨q0, q1, q2⟩ : P3) t) ((listC n_l mkHit c_l)).length)))], some (numsP 7 n_l c_l ∧ hitsE (listC n_l mkHit c_l) = 0 ∧ ((⟨p0, p1, p2⟩ : P3)).bd 15000 ∧ ((⟨q0, q1, q2⟩ : P3)).bd 15000 ∧ (-2000000000 ≤ c ∧ c ≤ 2000000000) ∧ -2000000000 ≤ t ∧ t ≤ 2000000000), false)
 | _ => none
theorem ok_ref06_judge : Ok Tryd.prog 141 con_ref06_judge := by
 refine Ok.fn (ann := ann_ref06_judge) mixed tabOK VSh148 VI1 (fn := Tryd.f141) (by kernel_rfl) (by kernel_rfl) fit_ref06_judge fun args r pre fresh h hp => ?_
 unfold con_ref06_judge at h
 split at h
 ·rename_i n_l c_l p0 p1 p2 q0 q1 q2 c t
  cases h
  obtain ⟨hp0, hp⟩ := hp
  refine ⟨rfl, J_ref06_judge (listC n_l mkHit c_l) p0 p1 p2 q0 q1 q2 c t, [.t (.c (.sl 7 ((listC n_l mkHit c_l).length) (hitsC (listC n_l mkHit c_l)))), .t (.a [.v (.int .i64 p0), .v (.int .i64 p1), .v (.int .i64 p2)]), .t (.a [.v (.int .i64 q0), .v (.int .i64 q1), .v (.int .i64 q2)]), .t (.c (.v (.int .i64 c))), .t (.c (.v (.int .i64 t)))], ?_, Nat.le_of_ble_eq_true (by kernel_rfl), ?_, ?_⟩
  ·exact (LeA_cons (leT_c ((leL_FHit hp0))) (LeA_cons (LeD.refl _) (LeA_cons (LeD.refl _) (LeA_cons (LeD.refl _) (LeA_cons (LeD.refl _) LeA_nil)))))
  ·rw [ev_ref06_judge]; exact spec_ref06_judge (listC n_l mkHit c_l) p0 p1 p2 q0 q1 q2 c t hp
  ·exact all_ref06_judge (listC n_l mkHit c_l) p0 p1 p2 q0 q1 q2 c t hp
 ·cases h
noncomputable def Sh149 : Sum := addS Sh148 141 con_ref06_judge
theorem VSh149 : Valid Tryd.prog Sh149 := Valid.add VSh148 ok_ref06_judge
def mk_ref06_Pair_0 (l : List FHit) (g0 g1 g2 g3 g4 : Int) (v0_0 : Int) : DS := ⟨[some (.t (.c (.sl 7 l.length (hitsC l)))), none, none, none, some (.t (.c (.p 4 0))), none, some (.t (.c (.sl 3 ((allP (⟨⟨g0, g1, g2⟩, g3, g4⟩ : Lat)).length) (plsC (allP (⟨⟨g0, g1, g2⟩, g3, g4⟩ : Lat)))))), some (.t (.c (.v (.int .i64 v0_0)))), none, none, none, none, none, none, none, none, none, none, none, none, none, none, none, none, none, none, none, none, none, none, none, none, none, none, none, none, none, none, none, none, none, none, none, none, none, none, none, none, none, none, none, none, none, none, none, none, none, none, none, none, none, none, none, none, none, none, none, none, none, none, none, none, none, none, none, none, none, none, none, none, none, none, none, none, none, none, none, none, none, none, none], [none, none, none, none, some (.box 129 [.v (.int .i64 0), .v (.int .i64 0), .v (.int .i64 0), .v (.int .i64 0)]), none, none, none, none, none, none, none, none, none, none, none, none, none, none, none, none, none, none, none, none, none, none, none, none, none, none, none, none, none, none, none, none, none, none, none, none, none, none, none, none, none, none, none, none, none, none, none, none, none, none, none, none, none, none, none, none, none, none, none, none, none, none, none, none, none, none, none, none, none, none, none, none, none, none, none, none, none, none, none, none, none, none, none, none, none, none]⟩
def mk_ref06_Pair_2 (l : List FHit) (g0 g1 g2 g3 g4 : Int) (v2_0 : Int) (v2_1 : Int) : DS := ⟨[some (.t (.c (.sl 7 l.length (hitsC l)))), none, none, none, some (.t (.c (.p 4 0))), none, some (.t (.c (.sl 3 ((allP (⟨⟨g0, g1, g2⟩, g3, g4⟩ : Lat)).length) (plsC (allP (⟨⟨g0, g1, g2⟩, g3, g4⟩ : Lat)))))), some (.t (.c (.v (.int .i64 v2_0)))), some (.t (.c (.v (.int .i64 v2_1)))), none, none, none, none, none, none, none, none, none, none, none, none, none, none, none, none, none, none, none, none, none, none, none, none, none, none, none, none, none, none, none, none, none, none, none, none, none, none, none, none, none, none, none, none, none, none, none, none, none, none, none, none, none, none, none, none, none, none, none, none, none, none, none, none, none, none, none, none, none, none, none, none, none, none, none, none, none, none, none, none, none, none], [none, none, none, none, some (.box 129 [.v (.int .i64 0), .v (.int .i64 0), .v (.int .i64 0), .v (.int .i64 0)]), none, none, none, none, none, none, none, none, none, none, none, none, none, none, none, none, none, none, none, none, none, none, none, none, none, none, none, none, none, none, none, none, none, none, none, none, none, none, none, none, none, none, none, none, none, none, none, none, none, none, none, none, none, none, none, none, none, none, none, none, none, none, none, none, none, none, none, none, none, none, none, none, none, none, none, none, none, none, none, none, none, none, none, none, none, none]⟩
def mk_ref06_Pair_4 (l : List FHit) (g0 g1 g2 g3 g4 : Int) (v4_0 : (List Int)) (v4_1 : Int) (v4_2 : Int) (v4_3 : Int) (v4_4 : (List Int)) : DS := ⟨[some (.t (.c (.sl 7 l.length (hitsC l)))), none, none, none, some (.t (.c (.p 4 0))), none, some (.t (.c (.sl 3 ((allP (⟨⟨g0, g1, g2⟩, g3, g4⟩ : Lat)).length) (plsC (allP (⟨⟨g0, g1, g2⟩, g3, g4⟩ : Lat)))))), some (.t (.c (.v (.int .i64 v4_2)))), some (.t (.c (.v (.int .i64 v4_3)))), some (.t (.c (.sl 1 v4_4.length (intsC v4_4)))), some (.t (.c (.sl 1 v4_0.length (intsC v4_0)))), some (.t (.c (.v (.int .i64 v4_1)))), none, none, none, none, none, none, none, none, none, none, none, none, none, none, none, none, none, none, none, none, none, none, none, none, none, none, none, none, none, none, none, none, none, none, none, none, none, none, none, none, none, none, none, none, none, none, none, none, none, none, none, none, none, none, none, none, none, none, none, none, none, none, none, none, none, none, none, none, none, none, none, none, none, none, none, none, none, none, none], [none, none, none, none, some (.box 129 [.v (.int .i64 0), .v (.int .i64 0), .v (.int .i64 0), .v (.int .i64 0)]), none, none, none, none, none, none, none, none, none, none, none, none, none, none, none, none, none, none, none, none, none, none, none, none, none, none, none, none, none, none, none, none, none, none, none, none, none, none, none, none, none, none, none, none, none, none, none, none, none, none, none, none, none, none, none, none, none, none, none, none, none, none, none, none, none, none, none, none, none, none, none, none, none, none, none, none, none, none, none, none, none, none, none, none, none, none]⟩
def mk_ref06_Pair_6 (l : List FHit) (g0 g1 g2 g3 g4 : Int) (v6_0 : (List Int)) (v6_1 : Int) (v6_2 : Int) (v6_3 : Int) (v6_4 : Int) (v6_5 : (List Int)) : DS := ⟨[some (.t (.c (.sl 7 l.length (hitsC l)))), none, none, none, some (.t (.c (.p 4 0))), none, some (.t (.c (.sl 3 ((allP (⟨⟨g0, g1, g2⟩, g3, g4⟩ : Lat)).length) (plsC (allP (⟨⟨g0, g1, g2⟩, g3, g4⟩ : Lat)))))), some (.t (.c (.v (.int .i64 v6_3)))), some (.t (.c (.v (.int .i64 v6_4)))), some (.t (.c (.sl 1 v6_5.length (intsC v6_5)))), some (.t (.c (.sl 1 v6_0.length (intsC v6_0)))), some (.t (.c (.v (.int .i64 v6_1)))), some (.t (.c (.v (.int .i64 v6_2)))), none, none, none, none, none, none, none, none, none, none, none, none, none, none, none, none, none, none, none, none, none, none, none, none, none, none, none, none, none, none, none, none, none, none, none, none, none, none, none, none, none, none, none, none, none, none, none, none, none, none, none, none, none, none, none, none, none, none, none, none, none, none, none, none, none, none, none, none, none, none, none, none, none, none, none, none, none, none], [none, none, none, none, some (.box 129 [.v (.int .i64 0), .v (.int .i64 0), .v (.int .i64 0), .v (.int .i64 0)]), none, none, none, none, none, none, none, none, none, none, none, none, none, none, none, none, none, none, none, none, none, none, none, none, none, none, none, none, none, none, none, none, none, none, none, none, none, none, none, none, none, none, none, none, none, none, none, none, none, none, none, none, none, none, none, none, none, none, none, none, none, none, none, none, none, none, none, none, none, none, none, none, none, none, none, none, none, none, none, none, none, none, none, none, none, none]⟩
def vc_ref06_Pair (J : Inv) (l : List FHit) (g0 g1 g2 g3 g4 : Int) (post : DV → Prop) : Prop := (latE (⟨⟨g0, g1, g2⟩, g3, g4⟩ : Lat) = 0) ∧ (∃ n, J 0 (n :: []) (mk_ref06_Pair_0 l g0 g1 g2 g3 g4 0))
def ann_ref06_Pair : Ann := ⟨fun r => lookA r [(8, ([[], [], [], [1, 2], [1, 2, 3], [0, 1, 2, 3, 4], [], [], [], [7, 8], [7, 8, 9], [0, 1, 2, 3, 4, 5, 6, 7, 8, 9, 10], [0, 1, 2, 3, 4, 5, 6, 7, 8, 9, 10, 11], [0, 1, 2, 3, 4, 5, 6, 7, 8, 9, 10, 11, 12]], [[36, 42], [36, 42], [36, 42], [36, 42], [36, 42], [42], [36, 42], [36, 42], [36, 42], [36, 42], [36, 42], [], [], []])), (15, ([[], [], [], [1, 2], [1, 2, 3], [], [], [5, 6], [5, 6, 7], [], [], [9, 10], [9, 10, 11], [], [], [13, 14], [13, 14, 15], [0, 1, 2, 3, 4, 5, 6, 7, 8, 9, 10, 11, 12, 13, 14, 15, 16], [0, 1, 2, 3, 4, 5, 6, 7, 8, 9, 10, 11, 12, 13, 14, 15, 16, 17], [0, 1, 2, 3, 4, 5, 6, 7, 8, 9, 10, 11, 12, 13, 14, 15, 16, 17, 18], [0, 1, 2, 3, 4, 5, 6, 7, 8, 9, 10, 11, 12, 13, 14, 15, 16, 17, 18], [0, 1, 2, 3, 4, 5, 6, 7, 8, 9, 10, 11, 12, 13, 14, 15, 16, 17, 18], [0, 1, 2, 3, 4, 5, 6, 7, 8, 9, 10, 11, 12, 13, 14, 15, 16, 17, 18, 19], [0, 1, 2, 3, 4, 5, 6, 7, 8, 9, 10, 11, 12, 13, 14, 15, 16, 17, 18, 19, 20, 22], [0, 1, 2, 3, 4, 5, 6, 7, 8, 9, 10, 11, 12, 13, 14, 15, 16, 17, 18, 19, 20, 21, 22, 23]], [[73], [73], [73], [73], [73], [73], [73], [73], [73], [73], [73], [73], [73], [73], [73], [73], [73], [], [], [], [], [], [], [], []])), (17, ([[], [], [], [], [2, 3], [2, 3, 4], [], [], [6, 7], [6, 7, 8], [0, 1, 2, 3, 4, 5, 6, 7, 8, 9], [0, 1, 2, 3, 4, 5, 6, 7, 8, 9, 10], [0, 1, 2, 3, 4, 5, 6, 7, 8, 9, 10, 11]], [[], [], [], [], [], [], [], [], [], [], [], [], []]))], fun b => lookA b [(0, (none, some ⟨[0, 4, 6, 7], [4], []⟩)), (2, (none, some ⟨[0, 4, 6, 7, 8], [4], []⟩)), (4, (none, some ⟨[0, 4, 6, 7, 8, 9, 10, 11], [4], []⟩)), (6, (none, some ⟨[0, 4, 6, 7, 8, 9, 10, 11, 12], [4], []⟩))], fun _ => [], I1, false, fun _ => none, fun _ => none⟩
theorem ev_ref06_Pair (J : Inv) (l : List FHit) (g0 g1 g2 g3 g4 : Int) (post : DV → Prop) : evFn Tryd.prog tab Sh149 ann_ref06_Pair J Tryd.f80 [.t (.c (.sl 7 l.length (hitsC l))), .t (.a [.v (.int .i64 g0), .v (.int .i64 g1), .v (.int .i64 g2), .v (.int .i64 g3), .v (.int .i64 g4)])] post = vc_ref06_Pair J l g0 g1 g2 g3 g4 post := by kernel_rfl
theorem fit_ref06_Pair : okFn ann_ref06_Pair Tryd.f80 = true := by kernel_rfl
def rd_ref06_Pair_0 (J : Inv) (l : List FHit) (g0 g1 g2 g3 g4 : Int) (v0_0 : Int) (nn0 : Nat) (post : DV → Prop) : Prop := cond (decide (v0_0 < (((allP (⟨⟨g0, g1, g2⟩, g3, g4⟩ : Lat)).length : Nat) : Int))) (∃ n, J 2 (n :: nn0 :: []) (mk_ref06_Pair_2 l g0 g1 g2 g3 g4 v0_0 v0_0)) (post (.tu [.a [.v (.int .i64 0), .v (.int .i64 0), .v (.int .i64 0), .v (.int .i64 0)], .c (.v (.bool false))]))
theorem er_ref06_Pair_0 (J : Inv) (l : List FHit) (g0 g1 g2 g3 g4 : Int) (v0_0 : Int) (nn0 : Nat) (post : DV → Prop) : round Tryd.prog tab Sh149 ann_ref06_Pair J Tryd.f80 post 0 (nn0 :: []) (mk_ref06_Pair_0 l g0 g1 g2 g3 g4 v0_0) = rd_ref06_Pair_0 J l g0 g1 g2 g3 g4 v0_0 nn0 post := by kernel_rfl
def rd_ref06_Pair_2 (J : Inv) (l : List FHit) (g0 g1 g2 g3 g4 : Int) (v2_0 : Int) (v2_1 : Int) (nn2 nn0 : Nat) (post : DV → Prop) : Prop := cond (decide (v2_1 < (((allP (⟨⟨g0, g1, g2⟩, g3, g4⟩ : Lat)).length : Nat) : Int))) ((0 ≤ v2_0 ∧ v2_0 < (((allP (⟨⟨g0, g1, g2⟩, g3, g4⟩ : Lat)).length : Nat) : Int)) ∧ ((numsP 7 l.length (hitsC l) ∧ hitsE (listC l.length mkHit (hitsC l)) = 0 ∧ ((plAt (allP (⟨⟨g0, g1, g2⟩, g3, g4⟩ : Lat)) v2_0.toNat)).bd 15000) ∧ ((0 ≤ v2_1 ∧ v2_1 < (((allP (⟨⟨g0, g1, g2⟩, g3, g4⟩ : Lat)).length : Nat) : Int)) ∧ ((numsP 7 l.length (hitsC l) ∧ hitsE (listC l.length mkHit (hitsC l)) = 0 ∧ ((plAt (allP (⟨⟨g0, g1, g2⟩, g3, g4⟩ : Lat)) v2_1.toNat)).bd 15000) ∧ (∃ n, J 4 (n :: nn2 :: nn0 :: []) (mk_ref06_Pair_4 l g0 g1 g2 g3 g4 (strS (sts (listC l.length mkHit (hitsC l)) (plAt (allP (⟨⟨g0, g1, g2⟩, g3, g4⟩ : Lat)) v2_1.toNat))) 0 v2_0 v2_1 (strS (sts (listC l.length mkHit (hitsC l)) (plAt (allP (⟨⟨g0, g1, g2⟩, g3, g4⟩ : Lat)) v2_0.toNat))))))))) (lt (IntKind.i64.wrap (v2_0 + (1 : Int))) fun x1 => J 0 (nn0 :: []) (mk_ref06_Pair_0 l g0 g1 g2 g3 g4 x1))
theorem er_ref06_Pair_2 (J : Inv) (l : List FHit) (g0 g1 g2 g3 g4 : Int) (v2_0 : Int) (v2_1 : Int) (nn2 nn0 : Nat) (post : DV → Prop) : round Tryd.prog tab Sh149 ann_ref06_Pair J Tryd.f80 post 1 (nn2 :: nn0 :: []) (mk_ref06_Pair_2 l g0 g1 g2 g3 g4 v2_0 v2_1) = rd_ref06_Pair_2 J l g0 g1 g2 g3 g4 v2_0 v2_1 nn2 nn0 post := by kernel_rfl
def rd_ref06_Pair_4 (J : Inv) (l : List FHit) (g0 g1 g2 g3 g4 : Int) (v4_0 : (List Int)) (v4_1 : Int) (v4_2 : Int) (v4_3 : Int) (v4_4 : (List Int)) (nn4 nn2 nn0 : Nat) (post : DV → Prop) : Prop := cond (decide (v4_1 < ((v4_4.length : Nat) : Int))) (∃ n, J 6 (n :: nn4 :: nn2 :: nn0 :: []) (mk_ref06_Pair_6 l g0 g1 g2 g3 g4 v4_0 v4_1 0 v4_2 v4_3 v4_4)) (lt (IntKind.i64.wrap (v4_3 + (1 : Int))) fun x1 => J 2 (nn2 :: nn0 :: []) (mk_ref06_Pair_2 l g0 g1 g2 g3 g4 v4_2 x1))
theorem er_ref06_Pair_4 (J : Inv) (l : List FHit) (g0 g1 g2 g3 g4 : Int) (v4_0 : (List Int)) (v4_1 : Int) (v4_2 : Int) (v4_3 : Int) (v4_4 : (List Int)) (nn4 nn2 nn0 : Nat) (post : DV → Prop) : round Tryd.prog tab Sh149 ann_ref06_Pair J Tryd.f80 post 2 (nn4 :: nn2 :: nn0 :: []) (mk_ref06_Pair_4 l g0 g1 g2 g3 g4 v4_0 v4_1 v4_2 v4_3 v4_4) = rd_ref06_Pair_4 J l g0 g1 g2 g3 g4 v4_0 v4_1 v4_2 v4_3 v4_4 nn4 nn2 nn0 post := by kernel_rfl
def rd_ref06_Pair_6 (J : Inv) (l : List FHit) (g0 g1 g2 g3 g4 : Int) (v6_0 : (List Int)) (v6_1 : Int) (v6_2 : Int) (v6_3 : Int) (v6_4 : Int) (v6_5 : (List Int)) (nn6 nn4 nn2 nn0 : Nat) (post : DV → Prop) : Prop := cond (decide (v6_2 < ((v6_0.length : Nat) : Int))) ((0 ≤ v6_3 ∧ v6_3 < (((allP (⟨⟨g0, g1, g2⟩, g3, g4⟩ : Lat)).length : Nat) : Int)) ∧ ((0 ≤ v6_4 ∧ v6_4 < (((allP (⟨⟨g0, g1, g2⟩, g3, g4⟩ : Lat)).length : Nat) : Int)) ∧ ((0 ≤ v6_1 ∧ v6_1 < ((v6_5.length : Nat) : Int)) ∧ ((0 ≤ v6_2 ∧ v6_2 < ((v6_0.length : Nat) : Int)) ∧ ((numsP 7 l.length (hitsC l) ∧ hitsE (listC l.length mkHit (hitsC l)) = 0 ∧ ((plAt (allP (⟨⟨g0, g1, g2⟩, g3, g4⟩ : Lat)) v6_3.toNat)).bd 15000 ∧ ((plAt (allP (⟨⟨g0, g1, g2⟩, g3, g4⟩ : Lat)) v6_4.toNat)).bd 15000 ∧ (-2000000000 ≤ (v6_5.getD v6_1.toNat 0) ∧ (v6_5.getD v6_1.toNat 0) ≤ 2000000000) ∧ -2000000000 ≤ (v6_0.getD v6_2.toNat 0) ∧ (v6_0.getD v6_2.toNat 0) ≤ 2000000000) ∧ (cond (decide ((jdB (listC l.length mkHit (hitsC l)) (plAt (allP (⟨⟨g0, g1, g2⟩, g3, g4⟩ : Lat)) v6_3.toNat) (plAt (allP (⟨⟨g0, g1, g2⟩, g3, g4⟩ : Lat)) v6_4.toNat) (v6_5.getD v6_1.toNat 0) (v6_0.getD v6_2.toNat 0)) < (0 : Int))) ((0 ≤ v6_1 ∧ v6_1 < ((v6_5.length : Nat) : Int)) ∧ ((0 ≤ v6_2 ∧ v6_2 < ((v6_0.length : Nat) : Int)) ∧ (post (.tu [.a [.v (.int .i64 v6_3), .v (.int .i64 v6_4), .v (.int .i64 (v6_5.getD v6_1.toNat 0)), .v (.int .i64 (v6_0.getD v6_2.toNat 0))], .c (.v (.bool true))])))) (lt (IntKind.i64.wrap (v6_2 + (1 : Int))) fun x1 => J 6 (nn6 :: nn4 :: nn2 :: nn0 :: []) (mk_ref06_Pair_6 l g0 g1 g2 g3 g4 v6_0 v6_1 x1 v6_3 v6_4 v6_5)))))))) (lt (IntKind.i64.wrap (v6_1 + (1 : Int))) fun x2 => J 4 (nn4 :: nn2 :: nn0 :: []) (mk_ref06_Pair_4 l g0 g1 g2 g3 g4 v6_0 x2 v6_3 v6_4 v6_5))
theorem er_ref06_Pair_6 (J : Inv) (l : List FHit) (g0 g1 g2 g3 g4 : Int) (v6_0 : (List Int)) (v6_1 : Int) (v6_2 : Int) (v6_3 : Int) (v6_4 : Int) (v6_5 : (List Int)) (nn6 nn4 nn2 nn0 : Nat) (post : DV → Prop) : round Tryd.prog tab Sh149 ann_ref06_Pair J Tryd.f80 post 3 (nn6 :: nn4 :: nn2 :: nn0 :: []) (mk_ref06_Pair_6 l g0 g1 g2 g3 g4 v6_0 v6_1 v6_2 v6_3 v6_4 v6_5) = rd_ref06_Pair_6 J l g0 g1 g2 g3 g4 v6_0 v6_1 v6_2 v6_3 v6_4 v6_5 nn6 nn4 nn2 nn0 post := by kernel_rfl
theorem lp_ref06_Pair (J : Inv) (post : DV → Prop) : AllG J (loopsFn Tryd.prog tab Sh149 ann_ref06_Pair J Tryd.f80 post) = (((∀ F s, ¬ J 0 (0 :: F) s) ∧ ∀ n F s, J 0 ((n + 1) :: F) s → round Tryd.prog tab Sh149 ann_ref06_Pair J Tryd.f80 post 0 (n :: F) s) ∧ ((∀ F s, ¬ J 2 (0 :: F) s) ∧ ∀ n F s, J 2 ((n + 1) :: F) s → round Tryd.prog tab Sh149 ann_ref06_Pair J Tryd.f80 post 1 (n :: F) s) ∧ ((∀ F s, ¬ J 4 (0 :: F) s) ∧ ∀ n F s, J 4 ((n + 1) :: F) s → round Tryd.prog tab Sh149 ann_ref06_Pair J Tryd.f80 post 2 (n :: F) s) ∧ ((∀ F s, ¬ J 6 (0 :: F) s) ∧ ∀ n F s, J 6 ((n + 1) :: F) s → round Tryd.prog tab Sh149 ann_ref06_Pair J Tryd.f80 post 3 (n :: F) s) ∧ True) := by kernel_rfl
def J_ref06_Pair (l : List FHit) (g0 g1 g2 g3 g4 : Int) : Inv := fun b F s => match b, F with
 | 0, [nn0] => ∃ (v0_0 : Int), s = mk_ref06_Pair_0 l g0 g1 g2 g3 g4 v0_0 ∧ ((hitsE l = 0 ∧ latE (⟨⟨g0, g1, g2⟩, g3, g4⟩ : Lat) = 0) ∧ 0 ≤ v0_0 ∧ v0_0 ≤ (⟨⟨g0, g1, g2⟩, g3, g4⟩ : Lat).sz ∧ (nn0 : Int) + v0_0 = (⟨⟨g0, g1, g2⟩, g3, g4⟩ : Lat).sz + 1 ∧ ∀ j, j < v0_0.toNat * (allS l (⟨⟨g0, g1, g2⟩, g3, g4⟩ : Lat)).length + v0_0.toNat → j < (allS l (⟨⟨g0, g1, g2⟩, g3, g4⟩ : Lat)).length * (allS l (⟨⟨g0, g1, g2⟩, g3, g4⟩ : Lat)).length → prB (allS l (⟨⟨g0, g1, g2⟩, g3, g4⟩ : Lat)) j = false)
 | 2, [nn2, nn0] => ∃ (v2_0 : Int) (v2_1 : Int), s = mk_ref06_Pair_2 l g0 g1 g2 g3 g4 v2_0 v2_1 ∧ ((hitsE l = 0 ∧ latE (⟨⟨g0, g1, g2⟩, g3, g4⟩ : Lat) = 0) ∧ (0 ≤ v2_0 ∧ v2_0 < (⟨⟨g0, g1, g2⟩, g3, g4⟩ : Lat).sz ∧ (nn0 : Int) + v2_0 = (⟨⟨g0, g1, g2⟩, g3, g4⟩ : Lat).sz) ∧ (v2_0 ≤ v2_1 ∧ v2_1 ≤ (⟨⟨g0, g1, g2⟩, g3, g4⟩ : Lat).sz ∧ (nn2 : Int) + v2_1 = (⟨⟨g0, g1, g2⟩, g3, g4⟩ : Lat).sz + 1) ∧ ∀ j, j < v2_0.toNat * (allS l (⟨⟨g0, g1, g2⟩, g3, g4⟩ : Lat)).length + v2_1.toNat → prB (allS l (⟨⟨g0, g1, g2⟩, g3, g4⟩ : Lat)) j = false)
 | 4, [nn4, nn2, nn0] => ∃ (v4_0 : (List Int)) (v4_1 : Int) (v4_2 : Int) (v4_3 : Int) (v4_4 : (List Int)), s = mk_ref06_Pair_4 l g0 g1 g2 g3 g4 v4_0 v4_1 v4_2 v4_3 v4_4 ∧ ((hitsE l = 0 ∧ latE (⟨⟨g0, g1, g2⟩, g3, g4⟩ : Lat) = 0) ∧ (0 ≤ v4_2 ∧ v4_2 < (⟨⟨g0, g1, g2⟩, g3, g4⟩ : Lat).sz ∧ (nn0 : Int) + v4_2 = (⟨⟨g0, g1, g2⟩, g3, g4⟩ : Lat).sz) ∧ (v4_2 ≤ v4_3 ∧ v4_3 < (⟨⟨g0, g1, g2⟩, g3, g4⟩ : Lat).sz ∧ (nn2 : Int) + v4_3 = (⟨⟨g0, g1, g2⟩, g3, g4⟩ : Lat).sz) ∧ (0 ≤ v4_1 ∧ v4_1 ≤ v4_4.length ∧ (nn4 : Int) + v4_1 = v4_4.length + 1) ∧ (v4_4 = strS (sts l (posAt (⟨⟨g0, g1, g2⟩, g3, g4⟩ : Lat) v4_2)) ∧ v4_0 = strS (sts l (posAt (⟨⟨g0, g1, g2⟩, g3, g4⟩ : Lat) v4_3))) ∧ (∀ j, j < v4_2.toNat * (allS l (⟨⟨g0, g1, g2⟩, g3, g4⟩ : Lat)).length + v4_3.toNat → prB (allS l (⟨⟨g0, g1, g2⟩, g3, g4⟩ : Lat)) j = false) ∧ ∀ i j : Nat, (i : Int) < v4_1 → j < v4_0.length → ¬ okT (sts l (posAt (⟨⟨g0, g1, g2⟩, g3, g4⟩ : Lat) v4_2)) (sts l (posAt (⟨⟨g0, g1, g2⟩, g3, g4⟩ : Lat) v4_3)) (v4_4.getD i 0) (v4_0.getD j 0))
 | 6, [nn6, nn4, nn2, nn0] => ∃ (v6_0 : (List Int)) (v6_1 : Int) (v6_2 : Int) (v6_3 : Int) (v6_4 : Int) (v6_5 : (List Int)), s = mk_ref06_Pair_6 l g0 g1 g2 g3 g4 v6_0 v6_1 v6_2 v6_3 v6_4 v6_5 ∧ ((hitsE l = 0 ∧ latE (⟨⟨g0, g1, g2⟩, g3, g4⟩ : Lat) = 0) ∧ (0 ≤ v6_3 ∧ v6_3 < (⟨⟨g0, g1, g2⟩, g3, g4⟩ : Lat).sz ∧ (nn0 : Int) + v6_3 = (⟨⟨g0, g1, g2⟩, g3, g4⟩ : Lat).sz) ∧ (v6_3 ≤ v6_4 ∧ v6_4 < (⟨⟨g0, g1, g2⟩, g3, g4⟩ : Lat).sz ∧ (nn2 : Int) + v6_4 = (⟨⟨g0, g1, g2⟩, g3, g4⟩ : Lat).sz) ∧ (0 ≤ v6_1 ∧ v6_1 < v6_5.length ∧ (nn4 : Int) + v6_1 = v6_5.length) ∧ (0 ≤ v6_2 ∧ v6_2 ≤ v6_0.length ∧ (nn6 : Int) + v6_2 = v6_0.length + 1) ∧ (v6_5 = strS (sts l (posAt (⟨⟨g0, g1, g2⟩, g3, g4⟩ : Lat) v6_3)) ∧ v6_0 = strS (sts l (posAt (⟨⟨g0, g1, g2⟩, g3, g4⟩ : Lat) v6_4))) ∧ (∀ j, j < v6_3.toNat * (allS l (⟨⟨g0, g1, g2⟩, g3, g4⟩ : Lat)).length + v6_4.toNat → prB (allS l (⟨⟨g0, g1, g2⟩, g3, g4⟩ : Lat)) j = false) ∧ (∀ i j : Nat, (i : Int) < v6_1 → j < v6_0.length → ¬ okT (sts l (posAt (⟨⟨g0, g1, g2⟩, g3, g4⟩ : Lat) v6_3)) (sts l (posAt (⟨⟨g0, g1, g2⟩, g3, g4⟩ : Lat) v6_4)) (v6_5.getD i 0) (v6_0.getD j 0)) ∧ ∀ j : Nat, (j : Int) < v6_2 → ¬ okT (sts l (posAt (⟨⟨g0, g1, g2⟩, g3, g4⟩ : Lat) v6_3)) (sts l (posAt (⟨⟨g0, g1, g2⟩, g3, g4⟩ : Lat) v6_4)) (v6_5.getD v6_1.toNat 0) (v6_0.getD j 0))
 | _, _ => False
set_option maxHeartbeats 8000000 in
set_option maxRecDepth 100000 in
theorem rnd_ref06_Pair_0 (l : List FHit) (g0 g1 g2 g3 g4 : Int) (v0_0 : Int) (nn0 : Nat) (hp : hitsE l = 0 ∧ latE (⟨⟨g0, g1, g2⟩, g3, g4⟩ : Lat) = 0) (hi : (hitsE l = 0 ∧ latE (⟨⟨g0, g1, g2⟩, g3, g4⟩ : Lat) = 0) ∧ 0 ≤ v0_0 ∧ v0_0 ≤ (⟨⟨g0, g1, g2⟩, g3, g4⟩ : Lat).sz ∧ ((nn0 + 1) : Int) + v0_0 = (⟨⟨g0, g1, g2⟩, g3, g4⟩ : Lat).sz + 1 ∧ ∀ j, j < v0_0.toNat * (allS l (⟨⟨g0, g1, g2⟩, g3, g4⟩ : Lat)).length + v0_0.toNat → j < (allS l (⟨⟨g0, g1, g2⟩, g3, g4⟩ : Lat)).length * (allS l (⟨⟨g0, g1, g2⟩, g3, g4⟩ : Lat)).length → prB (allS l (⟨⟨g0, g1, g2⟩, g3, g4⟩ : Lat)) j = false) : rd_ref06_Pair_0 (J_ref06_Pair l g0 g1 g2 g3 g4) l g0 g1 g2 g3 g4 v0_0 nn0 (fun r => LeD r (.tu [.a [.v (.int .i64 ((prV (allS l (⟨⟨g0, g1, g2⟩, g3, g4⟩ : Lat))).a)), .v (.int .i64 ((prV (allS l (⟨⟨g0, g1, g2⟩, g3, g4⟩ : Lat))).b)), .v (.int .i64 ((prV (allS l (⟨⟨g0, g1, g2⟩, g3, g4⟩ : Lat))).s)), .v (.int .i64 ((prV (allS l (⟨⟨g0, g1, g2⟩, g3, g4⟩ : Lat))).t))], .c (.v (.bool (hasP (allS l (⟨⟨g0, g1, g2⟩, g3, g4⟩ : Lat)))))])) := by
 obtain ⟨i0, i1, i2, i3, i4⟩ := hi
 obtain ⟨k, rfl⟩ : ∃ k : Nat, v0_0 = k := ⟨v0_0.toNat, by omega⟩
 have hk : (k : Int).toNat = k := rfl
 rw [hk] at i4
 have hz := sz_rg i0.2
 have hL := allS_len (l := l) (x := (⟨⟨g0, g1, g2⟩, g3, g4⟩ : Lat))
 unfold rd_ref06_Pair_0
 simp only [allP_len]
 refine cond_i (fun h => ?_) (fun h => ?_)
 ·have h := of_decide_eq_true h
  refine ⟨(⟨⟨g0, g1, g2⟩, g3, g4⟩ : Lat).sz.toNat + 1 - k, _, _, rfl, i0, by omega, by omega, fun j hj => i4 j (by rw [hk] at hj; exact hj) ?_⟩
  rw [hk] at hj
  have := pr_lt (n := (allS l (⟨⟨g0, g1, g2⟩, g3, g4⟩ : Lat)).length) (i := k) (k := k) (by omega) (by omega)
  omega
 ·have h := of_decide_eq_false h
  have e : k = (allS l (⟨⟨g0, g1, g2⟩, g3, g4⟩ : Lat)).length := by omega
  obtain ⟨u1, u2⟩ := prV_none (sp := allS l (⟨⟨g0, g1, g2⟩, g3, g4⟩ : Lat)) fun j hj => i4 j (by rw [e]; omega) hj
  rw [u1, u2]
  exact LeD.refl _
theorem zero_ref06_Pair_0 (l : List FHit) (g0 g1 g2 g3 g4 : Int) (v0_0 : Int)  (hi : (hitsE l = 0 ∧ latE (⟨⟨g0, g1, g2⟩, g3, g4⟩ : Lat) = 0) ∧ 0 ≤ v0_0 ∧ v0_0 ≤ (⟨⟨g0, g1, g2⟩, g3, g4⟩ : Lat).sz ∧ (0 : Int) + v0_0 = (⟨⟨g0, g1, g2⟩, g3, g4⟩ : Lat).sz + 1 ∧ ∀ j, j < v0_0.toNat * (allS l (⟨⟨g0, g1, g2⟩, g3, g4⟩ : Lat)).length + v0_0.toNat → j < (allS l (⟨⟨g0, g1, g2⟩, g3, g4⟩ : Lat)).length * (allS l (⟨⟨g0, g1, g2⟩, g3, g4⟩ : Lat)).length → prB (allS l (⟨⟨g0, g1, g2⟩, g3, g4⟩ : Lat)) j = false) : False := by
 omega
set_option maxHeartbeats 8000000 in
set_option maxRecDepth 100000 in
theorem rnd_ref06_Pair_2 (l : List FHit) (g0 g1 g2 g3 g4 : Int) (v2_0 : Int) (v2_1 : Int) (nn2 nn0 : Nat) (hp : hitsE l = 0 ∧ latE (⟨⟨g0, g1, g2⟩, g3, g4⟩ : Lat) = 0) (hi : (hitsE l = 0 ∧ latE (⟨⟨g0, g1, g2⟩, g3, g4⟩ : Lat) = 0) ∧ (0 ≤ v2_0 ∧ v2_0 < (⟨⟨g0, g1, g2⟩, g3, g4⟩ : Lat).sz ∧ (nn0 : Int) + v2_0 = (⟨⟨g0, g1, g2⟩, g3, g4⟩ : Lat).sz) ∧ (v2_0 ≤ v2_1 ∧ v2_1 ≤ (⟨⟨g0, g1, g2⟩, g3, g4⟩ : Lat).sz ∧ ((nn2 + 1) : Int) + v2_1 = (⟨⟨g0, g1, g2⟩, g3, g4⟩ : Lat).sz + 1) ∧ ∀ j, j < v2_0.toNat * (allS l (⟨⟨g0, g1, g2⟩, g3, g4⟩ : Lat)).length + v2_1.toNat → prB (allS l (⟨⟨g0, g1, g2⟩, g3, g4⟩ : Lat)) j = false) : rd_ref06_Pair_2 (J_ref06_Pair l g0 g1 g2 g3 g4) l g0 g1 g2 g3 g4 v2_0 v2_1 nn2 nn0 (fun r => LeD r (.tu [.a [.v (.int .i64 ((prV (allS l (⟨⟨g0, g1, g2⟩, g3, g4⟩ : Lat))).a)), .v (.int .i64 ((prV (allS l (⟨⟨g0, g1, g2⟩, g3, g4⟩ : Lat))).b)), .v (.int .i64 ((prV (allS l (⟨⟨g0, g1, g2⟩, g3, g4⟩ : Lat))).s)), .v (.int .i64 ((prV (allS l (⟨⟨g0, g1, g2⟩, g3, g4⟩ : Lat))).t))], .c (.v (.bool (hasP (allS l (⟨⟨g0, g1, g2⟩, g3, g4⟩ : Lat)))))])) := by
 obtain ⟨i0, i1, i2, i3⟩ := hi
 obtain ⟨k, rfl⟩ : ∃ k : Nat, v2_0 = k := ⟨v2_0.toNat, by omega⟩
 have hk : (k : Int).toNat = k := rfl
 obtain ⟨j, rfl⟩ : ∃ j : Nat, v2_1 = j := ⟨v2_1.toNat, by omega⟩
 have hj : (j : Int).toNat = j := rfl
 rw [hk, hj] at i3
 have hz := sz_rg i0.2
 have hL := allS_len (l := l) (x := (⟨⟨g0, g1, g2⟩, g3, g4⟩ : Lat))
 unfold rd_ref06_Pair_2
 simp only [hits_listC, allP_len, hk, hj]
 refine cond_i (fun h => ?_) (fun h => lt_i fun x hx => ?_)
 ·have hlt : j < (⟨⟨g0, g1, g2⟩, g3, g4⟩ : Lat).sz.toNat := by have := of_decide_eq_true h; omega
  rw [plAt_all (k := k) (by omega), plAt_all (k := j) hlt]
  have p1 := posAt_bd i0.2 (k := (k : Int)) (by omega) (by omega)
  have p2 := posAt_bd i0.2 (k := (j : Int)) (by omega) (by omega)
  exact ⟨by omega, ⟨numsP_hits l, i0.1, p1⟩, by omega, ⟨numsP_hits l, i0.1, p2⟩, (strS (sts l (posAt (⟨⟨g0, g1, g2⟩, g3, g4⟩ : Lat) (k : Int)))).length + 1, _, _, _, _, _, rfl, i0, by omega, by omega, by omega, ⟨rfl, rfl⟩, i3, fun i j hi => by omega⟩
 ·have h := of_decide_eq_false h
  have e : j = (allS l (⟨⟨g0, g1, g2⟩, g3, g4⟩ : Lat)).length := by omega
  rw [wi (by omega)] at hx
  subst hx
  rw [e] at i3
  refine ⟨_, rfl, i0, by omega, by omega, by omega, ?_⟩
  rw [show ((k : Int) + 1).toNat = k + 1 by omega]
  exact prB_row (by omega) i3
theorem zero_ref06_Pair_2 (l : List FHit) (g0 g1 g2 g3 g4 : Int) (v2_0 : Int) (v2_1 : Int) (nn0 : Nat) (hi : (hitsE l = 0 ∧ latE (⟨⟨g0, g1, g2⟩, g3, g4⟩ : Lat) = 0) ∧ (0 ≤ v2_0 ∧ v2_0 < (⟨⟨g0, g1, g2⟩, g3, g4⟩ : Lat).sz ∧ (nn0 : Int) + v2_0 = (⟨⟨g0, g1, g2⟩, g3, g4⟩ : Lat).sz) ∧ (v2_0 ≤ v2_1 ∧ v2_1 ≤ (⟨⟨g0, g1, g2⟩, g3, g4⟩ : Lat).sz ∧ (0 : Int) + v2_1 = (⟨⟨g0, g1, g2⟩, g3, g4⟩ : Lat).sz + 1) ∧ ∀ j, j < v2_0.toNat * (allS l (⟨⟨g0, g1, g2⟩, g3, g4⟩ : Lat)).length + v2_1.toNat → prB (allS l (⟨⟨g0, g1, g2⟩, g3, g4⟩ : Lat)) j = false) : False := by
 omega
set_option maxHeartbeats 8000000 in
set_option maxRecDepth 100000 in
theorem rnd_ref06_Pair_4 (l : List FHit) (g0 g1 g2 g3 g4 : Int) (v4_0 : (List Int)) (v4_1 : Int) (v4_2 : Int) (v4_3 : Int) (v4_4 : (List Int)) (nn4 nn2 nn0 : Nat) (hp : hitsE l = 0 ∧ latE (⟨⟨g0, g1, g2⟩, g3, g4⟩ : Lat) = 0) (hi : (hitsE l = 0 ∧ latE (⟨⟨g0, g1, g2⟩, g3, g4⟩ : Lat) = 0) ∧ (0 ≤ v4_2 ∧ v4_2 < (⟨⟨g0, g1, g2⟩, g3, g4⟩ : Lat).sz ∧ (nn0 : Int) + v4_2 = (⟨⟨g0, g1, g2⟩, g3, g4⟩ : Lat).sz) ∧ (v4_2 ≤ v4_3 ∧ v4_3 < (⟨⟨g0, g1, g2⟩, g3, g4⟩ : Lat).sz ∧ (nn2 : Int) + v4_3 = (⟨⟨g0, g1, g2⟩, g3, g4⟩ : Lat).sz) ∧ (0 ≤ v4_1 ∧ v4_1 ≤ v4_4.length ∧ ((nn4 + 1) : Int) + v4_1 = v4_4.length + 1) ∧ (v4_4 = strS (sts l (posAt (⟨⟨g0, g1, g2⟩, g3, g4⟩ : Lat) v4_2)) ∧ v4_0 = strS (sts l (posAt (⟨⟨g0, g1, g2⟩, g3, g4⟩ : Lat) v4_3))) ∧ (∀ j, j < v4_2.toNat * (allS l (⟨⟨g0, g1, g2⟩, g3, g4⟩ : Lat)).length + v4_3.toNat → prB (allS l (⟨⟨g0, g1, g2⟩, g3, g4⟩ : Lat)) j = false) ∧ ∀ i j : Nat, (i : Int) < v4_1 → j < v4_0.length → ¬ okT (sts l (posAt (⟨⟨g0, g1, g2⟩, g3, g4⟩ : Lat) v4_2)) (sts l (posAt (⟨⟨g0, g1, g2⟩, g3, g4⟩ : Lat) v4_3)) (v4_4.getD i 0) (v4_0.getD j 0)) : rd_ref06_Pair_4 (J_ref06_Pair l g0 g1 g2 g3 g4) l g0 g1 g2 g3 g4 v4_0 v4_1 v4_2 v4_3 v4_4 nn4 nn2 nn0 (fun r => LeD r (.tu [.a [.v (.int .i64 ((prV (allS l (⟨⟨g0, g1, g2⟩, g3, g4⟩ : Lat))).a)), .v (.int .i64 ((prV (allS l (⟨⟨g0, g1, g2⟩, g3, g4⟩ : Lat))).b)), .v (.int .i64 ((prV (allS l (⟨⟨g0, g1, g2⟩, g3, g4⟩ : Lat))).s)), .v (.int .i64 ((prV (allS l (⟨⟨g0, g1, g2⟩, g3, g4⟩ : Lat))).t))], .c (.v (.bool (hasP (allS l (⟨⟨g0, g1, g2⟩, g3, g4⟩ : Lat)))))])) := by
 obtain ⟨i0, i1, i2, i3, ⟨e1, e2⟩, i4, i5⟩ := hi
 obtain ⟨k, rfl⟩ : ∃ k : Nat, v4_1 = k := ⟨v4_1.toNat, by omega⟩
 have hk : (k : Int).toNat = k := rfl
 have hz := sz_rg i0.2
 have hL := allS_len (l := l) (x := (⟨⟨g0, g1, g2⟩, g3, g4⟩ : Lat))
 have l8 := (hitsE_ok i0.1).1
 have a8 := (strS_ok (sts l (posAt (⟨⟨g0, g1, g2⟩, g3, g4⟩ : Lat) v4_2))).2.2
 rw [sts_len, ← e1] at a8
 unfold rd_ref06_Pair_4
 refine cond_i (fun h => ?_) (fun h => lt_i fun x hx => ?_)
 ·have h := of_decide_eq_true h
  exact ⟨v4_0.length + 1, _, _, _, _, _, _, rfl, i0, i1, i2, by omega, by omega, ⟨e1, e2⟩, i4, fun i j hi hj => i5 i j (by omega) hj, fun j hj => by omega⟩
 ·have h := of_decide_eq_false h
  obtain ⟨I, rfl⟩ : ∃ I : Nat, v4_2 = I := ⟨v4_2.toNat, by omega⟩
  obtain ⟨K, rfl⟩ : ∃ K : Nat, v4_3 = K := ⟨v4_3.toNat, by omega⟩
  have hI : (I : Int).toNat = I := rfl
  have hK : (K : Int).toNat = K := rfl
  rw [hI, hK] at i4
  rw [wi (by omega)] at hx
  subst hx
  refine ⟨_, _, rfl, i0, i1, by omega, fun q hq => ?_⟩
  rw [hI, show ((K : Int) + 1).toNat = K + 1 by omega] at hq
  by_cases c : q = I * (allS l (⟨⟨g0, g1, g2⟩, g3, g4⟩ : Lat)).length + K
  ·rw [c]
   refine prB_none (by omega) ?_
   rw [rlAt_all (by omega), rlAt_all (by omega)]
   refine none_T (by rw [sts_len, sts_len]) fun m hm n hn => ?_
   rw [← e1] at hm ⊢
   rw [← e2] at hn ⊢
   exact i5 m n (by omega) hn
  ·exact i4 q (by omega)
theorem zero_ref06_Pair_4 (l : List FHit) (g0 g1 g2 g3 g4 : Int) (v4_0 : (List Int)) (v4_1 : Int) (v4_2 : Int) (v4_3 : Int) (v4_4 : (List Int)) (nn2 nn0 : Nat) (hi : (hitsE l = 0 ∧ latE (⟨⟨g0, g1, g2⟩, g3, g4⟩ : Lat) = 0) ∧ (0 ≤ v4_2 ∧ v4_2 < (⟨⟨g0, g1, g2⟩, g3, g4⟩ : Lat).sz ∧ (nn0 : Int) + v4_2 = (⟨⟨g0, g1, g2⟩, g3, g4⟩ : Lat).sz) ∧ (v4_2 ≤ v4_3 ∧ v4_3 < (⟨⟨g0, g1, g2⟩, g3, g4⟩ : Lat).sz ∧ (nn2 : Int) + v4_3 = (⟨⟨g0, g1, g2⟩, g3, g4⟩ : Lat).sz) ∧ (0 ≤ v4_1 ∧ v4_1 ≤ v4_4.length ∧ (0 : Int) + v4_1 = v4_4.length + 1) ∧ (v4_4 = strS (sts l (posAt (⟨⟨g0, g1, g2⟩, g3, g4⟩ : Lat) v4_2)) ∧ v4_0 = strS (sts l (posAt (⟨⟨g0, g1, g2⟩, g3, g4⟩ : Lat) v4_3))) ∧ (∀ j, j < v4_2.toNat * (allS l (⟨⟨g0, g1, g2⟩, g3, g4⟩ : Lat)).length + v4_3.toNat → prB (allS l (⟨⟨g0, g1, g2⟩, g3, g4⟩ : Lat)) j = false) ∧ ∀ i j : Nat, (i : Int) < v4_1 → j < v4_0.length → ¬ okT (sts l (posAt (⟨⟨g0, g1, g2⟩, g3, g4⟩ : Lat) v4_2)) (sts l (posAt (⟨⟨g0, g1, g2⟩, g3, g4⟩ : Lat) v4_3)) (v4_4.getD i 0) (v4_0.getD j 0)) : False := by
 omega
set_option maxHeartbeats 8000000 in
set_option maxRecDepth 100000 in
theorem rnd_ref06_Pair_6 (l : List FHit) (g0 g1 g2 g3 g4 : Int) (v6_0 : (List Int)) (v6_1 : Int) (v6_2 : Int) (v6_3 : Int) (v6_4 : Int) (v6_5 : (List Int)) (nn6 nn4 nn2 nn0 : Nat) (hp : hitsE l = 0 ∧ latE (⟨⟨g0, g1, g2⟩, g3, g4⟩ : Lat) = 0) (hi : (hitsE l = 0 ∧ latE (⟨⟨g0, g1, g2⟩, g3, g4⟩ : Lat) = 0) ∧ (0 ≤ v6_3 ∧ v6_3 < (⟨⟨g0, g1, g2⟩, g3, g4⟩ : Lat).sz ∧ (nn0 : Int) + v6_3 = (⟨⟨g0, g1, g2⟩, g3, g4⟩ : Lat).sz) ∧ (v6_3 ≤ v6_4 ∧ v6_4 < (⟨⟨g0, g1, g2⟩, g3, g4⟩ : Lat).sz ∧ (nn2 : Int) + v6_4 = (⟨⟨g0, g1, g2⟩, g3, g4⟩ : Lat).sz) ∧ (0 ≤ v6_1 ∧ v6_1 < v6_5.length ∧ (nn4 : Int) + v6_1 = v6_5.length) ∧ (0 ≤ v6_2 ∧ v6_2 ≤ v6_0.length ∧ ((nn6 + 1) : Int) + v6_2 = v6_0.length + 1) ∧ (v6_5 = strS (sts l (posAt (⟨⟨g0, g1, g2⟩, g3, g4⟩ : Lat) v6_3)) ∧ v6_0 = strS (sts l (posAt (⟨⟨g0, g1, g2⟩, g3, g4⟩ : Lat) v6_4))) ∧ (∀ j, j < v6_3.toNat * (allS l (⟨⟨g0, g1, g2⟩, g3, g4⟩ : Lat)).length + v6_4.toNat → prB (allS l (⟨⟨g0, g1, g2⟩, g3, g4⟩ : Lat)) j = false) ∧ (∀ i j : Nat, (i : Int) < v6_1 → j < v6_0.length → ¬ okT (sts l (posAt (⟨⟨g0, g1, g2⟩, g3, g4⟩ : Lat) v6_3)) (sts l (posAt (⟨⟨g0, g1, g2⟩, g3, g4⟩ : Lat) v6_4)) (v6_5.getD i 0) (v6_0.getD j 0)) ∧ ∀ j : Nat, (j : Int) < v6_2 → ¬ okT (sts l (posAt (⟨⟨g0, g1, g2⟩, g3, g4⟩ : Lat) v6_3)) (sts l (posAt (⟨⟨g0, g1, g2⟩, g3, g4⟩ : Lat) v6_4)) (v6_5.getD v6_1.toNat 0) (v6_0.getD j 0)) : rd_ref06_Pair_6 (J_ref06_Pair l g0 g1 g2 g3 g4) l g0 g1 g2 g3 g4 v6_0 v6_1 v6_2 v6_3 v6_4 v6_5 nn6 nn4 nn2 nn0 (fun r => LeD r (.tu [.a [.v (.int .i64 ((prV (allS l (⟨⟨g0, g1, g2⟩, g3, g4⟩ : Lat))).a)), .v (.int .i64 ((prV (allS l (⟨⟨g0, g1, g2⟩, g3, g4⟩ : Lat))).b)), .v (.int .i64 ((prV (allS l (⟨⟨g0, g1, g2⟩, g3, g4⟩ : Lat))).s)), .v (.int .i64 ((prV (allS l (⟨⟨g0, g1, g2⟩, g3, g4⟩ : Lat))).t))], .c (.v (.bool (hasP (allS l (⟨⟨g0, g1, g2⟩, g3, g4⟩ : Lat)))))])) := by
 obtain ⟨i0, i1, i2, i3, i4, ⟨e1, e2⟩, i5, i6, i7⟩ := hi
 obtain ⟨k, rfl⟩ : ∃ k : Nat, v6_1 = k := ⟨v6_1.toNat, by omega⟩
 have hk : (k : Int).toNat = k := rfl
 obtain ⟨j, rfl⟩ : ∃ j : Nat, v6_2 = j := ⟨v6_2.toNat, by omega⟩
 have hj : (j : Int).toNat = j := rfl
 obtain ⟨I, rfl⟩ : ∃ I : Nat, v6_3 = I := ⟨v6_3.toNat, by omega⟩
 obtain ⟨K, rfl⟩ : ∃ K : Nat, v6_4 = K := ⟨v6_4.toNat, by omega⟩
 have hI : (I : Int).toNat = I := rfl
 have hK : (K : Int).toNat = K := rfl
 rw [hI, hK] at i5
 rw [hk] at i7
 have hz := sz_rg i0.2
 have hL := allS_len (l := l) (x := (⟨⟨g0, g1, g2⟩, g3, g4⟩ : Lat))
 have l8 := (hitsE_ok i0.1).1
 have hb : bothE l (⟨⟨g0, g1, g2⟩, g3, g4⟩ : Lat) = 0 := by unfold bothE; rw [i0.1, i0.2]; rfl
 have a8 := (strS_ok (sts l (posAt (⟨⟨g0, g1, g2⟩, g3, g4⟩ : Lat) (I : Int)))).2.2
 have b8 := (strS_ok (sts l (posAt (⟨⟨g0, g1, g2⟩, g3, g4⟩ : Lat) (K : Int)))).2.2
 rw [sts_len, ← e1] at a8
 rw [sts_len, ← e2] at b8
 unfold rd_ref06_Pair_6
 simp only [hits_listC, allP_len, hk, hj, hI, hK]
 rw [plAt_all (k := I) (by omega), plAt_all (k := K) (by omega)]
 refine cond_i (fun h => ?_) (fun h => lt_i fun x hx => ?_)
 ·have hlt : j < v6_0.length := by have := of_decide_eq_true h; omega
  have hm : k < v6_5.length := by omega
  have p1 := posAt_bd i0.2 (k := (I : Int)) (by omega) (by omega)
  have p2 := posAt_bd i0.2 (k := (K : Int)) (by omega) (by omega)
  have t1 := rg_bd hb (k := I) (s := v6_5.getD k 0) (by omega) (by rw [rlAt_all (by omega)]; exact ((strS_ok _).2.1 _).1 (by rw [← e1]; exact getD_mem hm))
  have t2 := rg_bd hb (k := K) (s := v6_0.getD j 0) (by omega) (by rw [rlAt_all (by omega)]; exact ((strS_ok _).2.1 _).1 (by rw [← e2]; exact getD_mem hlt))
  refine ⟨by omega, by omega, by omega, by omega, ⟨numsP_hits l, i0.1, p1, p2, t1, t2⟩, cond_i (fun e => ⟨by omega, by omega, ?_⟩) (fun e => lt_i fun x hx => ?_)⟩
  ·have ho := jdB_ok.1 (of_decide_eq_true e)
   have hT : timF (rlAt (allS l (⟨⟨g0, g1, g2⟩, g3, g4⟩ : Lat)) I) (rlAt (allS l (⟨⟨g0, g1, g2⟩, g3, g4⟩ : Lat)) K) = some (v6_5.getD k 0, v6_0.getD j 0) := by
    rw [rlAt_all (by omega), rlAt_all (by omega), e1, e2]
    refine first_T (by rw [sts_len, sts_len]) (by rw [← e1]; exact hm) (by rw [← e2]; exact hlt) (by rw [← e1, ← e2]; exact ho) (fun m' hm' n' hn' => ?_) (fun n' hn' => ?_)
    ·rw [← e1, ← e2]; exact i6 m' n' (by omega) (by rw [e2]; exact hn')
    ·rw [← e1, ← e2]; exact i7 n' (by omega)
   obtain ⟨u1, u2⟩ := prV_at (sp := allS l (⟨⟨g0, g1, g2⟩, g3, g4⟩ : Lat)) (i := I) (k := K) (by omega) (by omega) (by omega) hT i5
   rw [u1, u2]
   exact LeD.refl _
  ·have e := of_decide_eq_false e
   rw [wi (by omega)] at hx
   subst hx
   refine ⟨_, _, _, _, _, _, rfl, i0, i1, i2, i3, by omega, ⟨e1, e2⟩, i5, i6, fun q hq => ?_⟩
   rw [hk]
   by_cases c : q = j
   ·rw [c]; exact fun o => e (jdB_ok.2 o)
   ·exact i7 q (by omega)
 ·have h := of_decide_eq_false h
  rw [wi (by omega)] at hx
  subst hx
  refine ⟨_, _, _, _, _, rfl, i0, i1, i2, by omega, ⟨e1, e2⟩, i5, fun m n hm hn => ?_⟩
  by_cases c : m = k
  ·rw [c]; exact i7 n (by omega)
  ·exact i6 m n (by omega) hn
theorem zero_ref06_Pair_6 (l : List FHit) (g0 g1 g2 g3 g4 : Int) (v6_0 : (List Int)) (v6_1 : Int) (v6_2 : Int) (v6_3 : Int) (v6_4 : Int) (v6_5 : (List Int)) (nn4 nn2 nn0 : Nat) (hi : (hitsE l = 0 ∧ latE (⟨⟨g0, g1, g2⟩, g3, g4⟩ : Lat) = 0) ∧ (0 ≤ v6_3 ∧ v6_3 < (⟨⟨g0, g1, g2⟩, g3, g4⟩ : Lat).sz ∧ (nn0 : Int) + v6_3 = (⟨⟨g0, g1, g2⟩, g3, g4⟩ : Lat).sz) ∧ (v6_3 ≤ v6_4 ∧ v6_4 < (⟨⟨g0, g1, g2⟩, g3, g4⟩ : Lat).sz ∧ (nn2 : Int) + v6_4 = (⟨⟨g0, g1, g2⟩, g3, g4⟩ : Lat).sz) ∧ (0 ≤ v6_1 ∧ v6_1 < v6_5.length ∧ (nn4 : Int) + v6_1 = v6_5.length) ∧ (0 ≤ v6_2 ∧ v6_2 ≤ v6_0.length ∧ (0 : Int) + v6_2 = v6_0.length + 1) ∧ (v6_5 = strS (sts l (posAt (⟨⟨g0, g1, g2⟩, g3, g4⟩ : Lat) v6_3)) ∧ v6_0 = strS (sts l (posAt (⟨⟨g0, g1, g2⟩, g3, g4⟩ : Lat) v6_4))) ∧ (∀ j, j < v6_3.toNat * (allS l (⟨⟨g0, g1, g2⟩, g3, g4⟩ : Lat)).length + v6_4.toNat → prB (allS l (⟨⟨g0, g1, g2⟩, g3, g4⟩ : Lat)) j = false) ∧ (∀ i j : Nat, (i : Int) < v6_1 → j < v6_0.length → ¬ okT (sts l (posAt (⟨⟨g0, g1, g2⟩, g3, g4⟩ : Lat) v6_3)) (sts l (posAt (⟨⟨g0, g1, g2⟩, g3, g4⟩ : Lat) v6_4)) (v6_5.getD i 0) (v6_0.getD j 0)) ∧ ∀ j : Nat, (j : Int) < v6_2 → ¬ okT (sts l (posAt (⟨⟨g0, g1, g2⟩, g3, g4⟩ : Lat) v6_3)) (sts l (posAt (⟨⟨g0, g1, g2⟩, g3, g4⟩ : Lat) v6_4)) (v6_5.getD v6_1.toNat 0) (v6_0.getD j 0)) : False := by
 omega
set_option maxHeartbeats 8000000 in
set_option maxRecDepth 100000 in
theorem spec_ref06_Pair (l : List FHit) (g0 g1 g2 g3 g4 : Int) (hp : hitsE l = 0 ∧ latE (⟨⟨g0, g1, g2⟩, g3, g4⟩ : Lat) = 0) : vc_ref06_Pair (J_ref06_Pair l g0 g1 g2 g3 g4) l g0 g1 g2 g3 g4 (fun r => LeD r (.tu [.a [.v (.int .i64 ((prV (allS l (⟨⟨g0, g1, g2⟩, g3, g4⟩ : Lat))).a)), .v (.int .i64 ((prV (allS l (⟨⟨g0, g1, g2⟩, g3, g4⟩ : Lat))).b)), .v (.int .i64 ((prV (allS l (⟨⟨g0, g1, g2⟩, g3, g4⟩ : Lat))).s)), .v (.int .i64 ((prV (allS l (⟨⟨g0, g1, g2⟩, g3, g4⟩ : Lat))).t))], .c (.v (.bool (hasP (allS l (⟨⟨g0, g1, g2⟩, g3, g4⟩ : Lat)))))])) := by
 have hz := sz_rg hp.2
 unfold vc_ref06_Pair
 exact ⟨hp.2, (⟨⟨g0, g1, g2⟩, g3, g4⟩ : Lat).sz.toNat + 1, 0, rfl, hp, by omega, by omega, by omega, fun j hj _ => by simp at hj⟩
theorem all_ref06_Pair (l : List FHit) (g0 g1 g2 g3 g4 : Int) (hp : hitsE l = 0 ∧ latE (⟨⟨g0, g1, g2⟩, g3, g4⟩ : Lat) = 0) : AllG (J_ref06_Pair l g0 g1 g2 g3 g4) (loopsFn Tryd.prog tab Sh149 ann_ref06_Pair (J_ref06_Pair l g0 g1 g2 g3 g4) Tryd.f80 (fun r => LeD r (.tu [.a [.v (.int .i64 ((prV (allS l (⟨⟨g0, g1, g2⟩, g3, g4⟩ : Lat))).a)), .v (.int .i64 ((prV (allS l (⟨⟨g0, g1, g2⟩, g3, g4⟩ : Lat))).b)), .v (.int .i64 ((prV (allS l (⟨⟨g0, g1, g2⟩, g3, g4⟩ : Lat))).s)), .v (.int .i64 ((prV (allS l (⟨⟨g0, g1, g2⟩, g3, g4⟩ : Lat))).t))], .c (.v (.bool (hasP (allS l (⟨⟨g0, g1, g2⟩, g3, g4⟩ : Lat)))))]))) := by
 rw [lp_ref06_Pair]
 refine ⟨⟨?_, ?_⟩, ⟨?_, ?_⟩, ⟨?_, ?_⟩, ⟨?_, ?_⟩, trivial⟩
 ·intro F s h
  obtain _ | ⟨g, F⟩ := F
  case cons => exact h.elim
  obtain ⟨w0, rfl, hi⟩ := h
  exact zero_ref06_Pair_0 l g0 g1 g2 g3 g4 w0 hi
 ·intro n F s h
  obtain _ | ⟨g, F⟩ := F
  case cons => exact h.elim
  obtain ⟨w0, rfl, hi⟩ := h
  rw [er_ref06_Pair_0]
  exact rnd_ref06_Pair_0 l g0 g1 g2 g3 g4 _ _ hp hi
 ·intro F s h
  obtain _ | ⟨f0, F⟩ := F
  ·exact h.elim
  obtain _ | ⟨g, F⟩ := F
  case cons => exact h.elim
  obtain ⟨w0, w1, rfl, hi⟩ := h
  exact zero_ref06_Pair_2 l g0 g1 g2 g3 g4 w0 w1 _ hi
 ·intro n F s h
  obtain _ | ⟨f0, F⟩ := F
  ·exact h.elim
  obtain _ | ⟨g, F⟩ := F
  case cons => exact h.elim
  obtain ⟨w0, w1, rfl, hi⟩ := h
  rw [er_ref06_Pair_2]
  exact rnd_ref06_Pair_2 l g0 g1 g2 g3 g4 _ _ _ _ hp hi
 ·intro F s h
  obtain _ | ⟨f0, F⟩ := F
  ·exact h.elim
  obtain _ | ⟨f1, F⟩ := F
  ·exact h.elim
  obtain _ | ⟨g, F⟩ := F
  case cons => exact h.elim
  obtain ⟨w0, w1, w2, w3, w4, rfl, hi⟩ := h
  exact zero_ref06_Pair_4 l g0 g1 g2 g3 g4 w0 w1 w2 w3 w4 _ _ hi
 ·intro n F s h
  obtain _ | ⟨f0, F⟩ := F
  ·exact h.elim
  obtain _ | ⟨f1, F⟩ := F
  ·exact h.elim
  obtain _ | ⟨g, F⟩ := F
  case cons => exact h.elim
  obtain ⟨w0, w1, w2, w3, w4, rfl, hi⟩ := h
  rw [er_ref06_Pair_4]
  exact rnd_ref06_Pair_4 l g0 g1 g2 g3 g4 _ _ _ _ _ _ _ _ hp hi
 ·intro F s h
  obtain _ | ⟨f0, F⟩ := F
  ·exact h.elim
  obtain _ | ⟨f1, F⟩ := F
  ·exact h.elim
  obtain _ | ⟨f2, F⟩ := F
  ·exact h.elim
  obtain _ | ⟨g, F⟩ := F
  case cons => exact h.elim
  obtain ⟨w0, w1, w2, w3, w4, w5, rfl, hi⟩ := h
  exact zero_ref06_Pair_6 l g0 g1 g2 g3 g4 w0 w1 w2 w3 w4 w5 _ _ _ hi
 ·intro n F s h
  obtain _ | ⟨f0, F⟩ := F
  ·exact h.elim
  obtain _ | ⟨f1, F⟩ := F
  ·exact h.elim
  obtain _ | ⟨f2, F⟩ := F
  ·exact h.elim
  obtain _ | ⟨g, F⟩ := F
  case cons => exact h.elim
  obtain ⟨w0, w1, w2, w3, w4, w5, rfl, hi⟩ := h
  rw [er_ref06_Pair_6]
  exact rnd_ref06_Pair_6 l g0 g1 g2 g3 g4 _ _ _ _ _ _ _ _ _ _ hp hi
def con_ref06_Pair : Con := fun args => match args with
 | [.t (.c (.sl 7 n_l c_l)), .t (.a [.v (.int .i64 g0), .v (.int .i64 g1), .v (.int .i64 g2), .v (.int .i64 g3), .v (.int .i64 g4)])] => some (.tu [.a [.v (.int .i64 ((prV (allS (listC n_l mkHit c_l) (⟨⟨g0, g1, g2⟩, g3, g4⟩ : Lat))).a)), .v (.int .i64 ((prV (allS (listC n_l mkHit c_l) (⟨⟨g0, g1, g2⟩, g3, g4⟩ : Lat))).b)), .v (.int .i64 ((prV (allS (listC n_l mkHit c_l) (⟨⟨g0, g1, g2⟩, g3, g4⟩ : Lat))).s)), .v (.int .i64 ((prV (allS (listC n_l mkHit c_l) (⟨⟨g0, g1, g2⟩, g3, g4⟩ : Lat))).t))], .c (.v (.bool (hasP (allS (listC n_l mkHit c_l) (⟨⟨g0, g1, g2⟩, g3, g4⟩ : Lat)))))], some (numsP 7 n_l c_l ∧ hitsE (listC n_l mkHit c_l) = 0 ∧ latE (⟨⟨g0, g1, g2⟩, g3, g4⟩ : Lat) = 0), false)
 | _ => none
theorem ok_ref06_Pair : Ok Tryd.prog 80 con_ref06_Pair := by
 refine Ok.fn (ann := ann_ref06_Pair) mixed tabOK VSh149 VI1 (fn := Tryd.f80) (by kernel_rfl) (by kernel_rfl) fit_ref06_Pair fun args r pre fresh h hp => ?_
 unfold con_ref06_Pair at h
 split at h
 ·rename_i n_l c_l g0 g1 g2 g3 g4
  cases h
  obtain ⟨hp0, hp⟩ := hp
  refine ⟨rfl, J_ref06_Pair (listC n_l mkHit c_l) g0 g1 g2 g3 g4, [.t (.c (.sl 7 ((listC n_l mkHit c_l).length) (hitsC (listC n_l mkHit c_l)))), .t (.a [.v (.int .i64 g0), .v (.int .i64 g1), .v (.int .i64 g2), .v (.int .i64 g3), .v (.int .i64 g4)])], ?_, Nat.le_of_ble_eq_true (by kernel_rfl), ?_, ?_⟩
  ·exact (LeA_cons (leT_c ((leL_FHit hp0))) (LeA_cons (LeD.refl _) LeA_nil))
  ·rw [ev_ref06_Pair]; exact spec_ref06_Pair (listC n_l mkHit c_l) g0 g1 g2 g3 g4 hp
  ·exact all_ref06_Pair (listC n_l mkHit c_l) g0 g1 g2 g3 g4 hp
 ·cases h
noncomputable def Sh150 : Sum := addS Sh149 80 con_ref06_Pair
theorem VSh150 : Valid Tryd.prog Sh150 := Valid.add VSh149 ok_ref06_Pair
def vc_ref06_CheckPair (l : List FHit) (g0 g1 g2 g3 g4 : Int) (qa : Int) (qb : Int) (qs : Int) (qt : Int) (post : DV → Prop) : Prop := (latE (⟨⟨g0, g1, g2⟩, g3, g4⟩ : Lat) = 0) ∧ (lt (IntKind.i64.wrap ((((allP (⟨⟨g0, g1, g2⟩, g3, g4⟩ : Lat)).length : Nat) : Int) - (1 : Int))) fun x1 => (cond (!(inB qa (0 : Int) x1)) ((true = true) ∧ (True)) (lt (IntKind.i64.wrap ((((allP (⟨⟨g0, g1, g2⟩, g3, g4⟩ : Lat)).length : Nat) : Int) - (1 : Int))) fun x3 => True)) ∧ (lt ((bif (!(inB qa (0 : Int) x1)) then true else (!(inB qb (0 : Int) (IntKind.i64.wrap ((((allP (⟨⟨g0, g1, g2⟩, g3, g4⟩ : Lat)).length : Nat) : Int) - (1 : Int))))))) fun x4 => cond x4 (post (.tu [.c (.v (.int .i64 0)), .c (.v (.int .i64 6))])) (cond (decide (qa > qb)) (post (.tu [.c (.v (.int .i64 0)), .c (.v (.int .i64 9))])) ((cond (!(inB qs (-2000000000 : Int) (2000000000 : Int))) ((true = true) ∧ (True)) (True)) ∧ (lt ((bif (!(inB qs (-2000000000 : Int) (2000000000 : Int))) then true else (!(inB qt (-2000000000 : Int) (2000000000 : Int))))) fun x5 => cond x5 (post (.tu [.c (.v (.int .i64 0)), .c (.v (.int .i64 2))])) ((0 ≤ qa ∧ qa < (((allP (⟨⟨g0, g1, g2⟩, g3, g4⟩ : Lat)).length : Nat) : Int)) ∧ ((0 ≤ qb ∧ qb < (((allP (⟨⟨g0, g1, g2⟩, g3, g4⟩ : Lat)).length : Nat) : Int)) ∧ ((numsP 7 l.length (hitsC l) ∧ hitsE (listC l.length mkHit (hitsC l)) = 0 ∧ ((plAt (allP (⟨⟨g0, g1, g2⟩, g3, g4⟩ : Lat)) qa.toNat)).bd 15000 ∧ ((plAt (allP (⟨⟨g0, g1, g2⟩, g3, g4⟩ : Lat)) qb.toNat)).bd 15000 ∧ (-2000000000 ≤ qs ∧ qs ≤ 2000000000) ∧ -2000000000 ≤ qt ∧ qt ≤ 2000000000) ∧ (cond (decide ((jdB (listC l.length mkHit (hitsC l)) (plAt (allP (⟨⟨g0, g1, g2⟩, g3, g4⟩ : Lat)) qa.toNat) (plAt (allP (⟨⟨g0, g1, g2⟩, g3, g4⟩ : Lat)) qb.toNat) qs qt) ≥ (0 : Int))) (post (.tu [.c (.v (.int .i64 (jdB (listC l.length mkHit (hitsC l)) (plAt (allP (⟨⟨g0, g1, g2⟩, g3, g4⟩ : Lat)) qa.toNat) (plAt (allP (⟨⟨g0, g1, g2⟩, g3, g4⟩ : Lat)) qb.toNat) qs qt))), .c (.v (.int .i64 19))])) ((cond ((cntB (exH (listC l.length mkHit (hitsC l)) (plAt (allP (⟨⟨g0, g1, g2⟩, g3, g4⟩ : Lat)) qa.toNat) qs) ((listC l.length mkHit (hitsC l))).length) == (0 : Int)) ((true = true) ∧ (True)) (True)) ∧ (lt ((bif ((cntB (exH (listC l.length mkHit (hitsC l)) (plAt (allP (⟨⟨g0, g1, g2⟩, g3, g4⟩ : Lat)) qa.toNat) qs) ((listC l.length mkHit (hitsC l))).length) == (0 : Int)) then true else ((cntB (exH (listC l.length mkHit (hitsC l)) (plAt (allP (⟨⟨g0, g1, g2⟩, g3, g4⟩ : Lat)) qb.toNat) qt) ((listC l.length mkHit (hitsC l))).length) == (0 : Int)))) fun x6 => cond x6 (post (.tu [.c (.v (.int .i64 0)), .c (.v (.int .i64 3))])) (post (.tu [.c (.v (.int .i64 (cntB (exH (listC l.length mkHit (hitsC l)) (plAt (allP (⟨⟨g0, g1, g2⟩, g3, g4⟩ : Lat)) qa.toNat) qs) ((listC l.length mkHit (hitsC l))).length))), .c (.v (.int .i64 0))])))))))))))))
def ann_ref06_CheckPair : Ann := ⟨fun r => lookA r [(9, ([[], [], [], [2], [1, 2, 3], [1, 2, 3, 4], [], [], [7], [6, 7, 8], [6, 7, 8, 9], [], [11], [], [13], [0, 1, 2, 3, 4, 5, 6, 7, 8, 9, 10, 11, 12, 13, 14], [0, 1, 2, 3, 4, 5, 6, 7, 8, 9, 10, 11, 12, 13, 14, 15], [0, 1, 2, 3, 4, 5, 6, 7, 8, 9, 10, 11, 12, 13, 14, 15, 16], [0, 1, 2, 3, 4, 5, 6, 7, 8, 9, 10, 11, 12, 13, 14, 15, 16], [0, 1, 2, 3, 4, 5, 6, 7, 8, 9, 10, 11, 12, 13, 14, 15, 16], [0, 1, 2, 3, 4, 5, 6, 7, 8, 9, 10, 11, 12, 13, 14, 15, 16, 17], [0, 1, 2, 3, 4, 5, 6, 7, 8, 9, 10, 11, 12, 13, 14, 15, 16, 17, 18, 20], [0, 1, 2, 3, 4, 5, 6, 7, 8, 9, 10, 11, 12, 13, 14, 15, 16, 17, 18, 19, 20, 21]], [[68], [68], [68], [68], [68], [68], [68], [68], [68], [68], [68], [68], [68], [68], [68], [], [], [], [], [], [], [], []]))], fun _ => none, fun _ => [], I1, false, fun r => lookA r [(2, (8, [30])), (7, (8, [51])), (12, (3, [80]))], fun _ => none⟩
theorem ev_ref06_CheckPair (J : Inv) (l : List FHit) (g0 g1 g2 g3 g4 : Int) (qa : Int) (qb : Int) (qs : Int) (qt : Int) (post : DV → Prop) : evFn Tryd.prog tab Sh150 ann_ref06_CheckPair J Tryd.f79 [.t (.c (.sl 7 l.length (hitsC l))), .t (.a [.v (.int .i64 g0), .v (.int .i64 g1), .v (.int .i64 g2), .v (.int .i64 g3), .v (.int .i64 g4)]), .t (.a [.v (.int .i64 qa), .v (.int .i64 qb), .v (.int .i64 qs), .v (.int .i64 qt)])] post = vc_ref06_CheckPair l g0 g1 g2 g3 g4 qa qb qs qt post := by kernel_rfl
theorem fit_ref06_CheckPair : okFn ann_ref06_CheckPair Tryd.f79 = true := by kernel_rfl
theorem lp_ref06_CheckPair (J : Inv) (post : DV → Prop) : AllG J (loopsFn Tryd.prog tab Sh150 ann_ref06_CheckPair J Tryd.f79 post) = (True) := by kernel_rfl
set_option maxHeartbeats 8000000 in
set_option maxRecDepth 100000 in
theorem spec_ref06_CheckPair (l : List FHit) (g0 g1 g2 g3 g4 : Int) (qa : Int) (qb : Int) (qs : Int) (qt : Int) (hp : hitsE l = 0 ∧ latE (⟨⟨g0, g1, g2⟩, g3, g4⟩ : Lat) = 0) : vc_ref06_CheckPair l g0 g1 g2 g3 g4 qa qb qs qt (fun r => LeD r (.tu [.c (.v (.int .i64 (cpV l (⟨⟨g0, g1, g2⟩, g3, g4⟩ : Lat) qa qb qs qt))), .c (.v (.int .i64 (cpE l (⟨⟨g0, g1, g2⟩, g3, g4⟩ : Lat) qa qb qs qt)))])) := by
 have hz := sz_rg hp.2
 have hL := allS_len (l := l) (x := (⟨⟨g0, g1, g2⟩, g3, g4⟩ : Lat))
 have hb : bothE l (⟨⟨g0, g1, g2⟩, g3, g4⟩ : Lat) = 0 := by unfold bothE; rw [hp.1, hp.2]; rfl
 have eV : cpV l (⟨⟨g0, g1, g2⟩, g3, g4⟩ : Lat) qa qb qs qt = if cpF (⟨⟨g0, g1, g2⟩, g3, g4⟩ : Lat) qa qb qs qt ≠ 0 then 0 else jdV (exF l (⟨⟨g0, g1, g2⟩, g3, g4⟩ : Lat) qa qs) (exF l (⟨⟨g0, g1, g2⟩, g3, g4⟩ : Lat) qb qt) l.length := if_neg (by rw [hb]; simp)
 have eE : cpE l (⟨⟨g0, g1, g2⟩, g3, g4⟩ : Lat) qa qb qs qt = if cpF (⟨⟨g0, g1, g2⟩, g3, g4⟩ : Lat) qa qb qs qt ≠ 0 then cpF (⟨⟨g0, g1, g2⟩, g3, g4⟩ : Lat) qa qb qs qt else jdE (exF l (⟨⟨g0, g1, g2⟩, g3, g4⟩ : Lat) qa qs) (exF l (⟨⟨g0, g1, g2⟩, g3, g4⟩ : Lat) qb qt) l.length := if_neg (by rw [hb]; simp)
 have bad : ∀ e : Int, e ≠ 0 → cpF (⟨⟨g0, g1, g2⟩, g3, g4⟩ : Lat) qa qb qs qt = e → LeD (.tu [.c (.v (.int .i64 0)), .c (.v (.int .i64 e))]) (.tu [.c (.v (.int .i64 (cpV l (⟨⟨g0, g1, g2⟩, g3, g4⟩ : Lat) qa qb qs qt))), .c (.v (.int .i64 (cpE l (⟨⟨g0, g1, g2⟩, g3, g4⟩ : Lat) qa qb qs qt)))]) := fun e h1 h2 => by
  rw [eV, eE, h2, if_pos h1, if_pos h1]
  exact LeD.refl _
 have eF : cpF (⟨⟨g0, g1, g2⟩, g3, g4⟩ : Lat) qa qb qs qt = firstNZ [unl (inB qa 0 ((⟨⟨g0, g1, g2⟩, g3, g4⟩ : Lat).sz - 1) && inB qb 0 ((⟨⟨g0, g1, g2⟩, g3, g4⟩ : Lat).sz - 1)) 6, unl (decide (qa ≤ qb)) 9, unl (inB qs (-2000000000) 2000000000 && inB qt (-2000000000) 2000000000) 2] := rfl
 have hw : IntKind.i64.wrap (((((⟨⟨g0, g1, g2⟩, g3, g4⟩ : Lat).sz.toNat : Nat) : Int)) - 1) = (⟨⟨g0, g1, g2⟩, g3, g4⟩ : Lat).sz - 1 := by rw [wi (by omega)]; omega
 unfold vc_ref06_CheckPair
 simp only [hits_listC, allP_len, hw]
 refine ⟨hp.2, lt_i fun x1 h1 => ?_⟩
 subst h1
 refine ⟨cond_i (fun _ => ⟨by trivial, trivial⟩) (fun _ => lt_i fun _ _ => trivial), lt_i fun x4 h4 => ?_⟩
 have e4 : (inB qa 0 ((⟨⟨g0, g1, g2⟩, g3, g4⟩ : Lat).sz - 1) && inB qb 0 ((⟨⟨g0, g1, g2⟩, g3, g4⟩ : Lat).sz - 1)) = !x4 := by rw [← h4]; cases inB qa 0 ((⟨⟨g0, g1, g2⟩, g3, g4⟩ : Lat).sz - 1) <;> cases inB qb 0 ((⟨⟨g0, g1, g2⟩, g3, g4⟩ : Lat).sz - 1) <;> rfl
 rw [e4] at eF
 refine cond_i (fun c => ?_) (fun c => cond_i (fun c2 => ?_) (fun c2 => ⟨cond_i (fun _ => ⟨by trivial, trivial⟩) (fun _ => trivial), lt_i fun x5 h5 => ?_⟩))
 ·exact bad 6 (by decide) (by rw [eF, c]; rfl)
 ·have c2 := of_decide_eq_true c2
  exact bad 9 (by decide) (by rw [eF, c, decide_eq_false (by omega)]; rfl)
 ·have c2 := of_decide_eq_false c2
  have e5 : (inB qs (-2000000000) 2000000000 && inB qt (-2000000000) 2000000000) = !x5 := by rw [← h5]; cases inB qs (-2000000000) 2000000000 <;> cases inB qt (-2000000000) 2000000000 <;> rfl
  rw [e5, c, decide_eq_true (show qa ≤ qb by omega)] at eF
  refine cond_i (fun c3 => bad 2 (by decide) (by rw [eF, c3]; rfl)) (fun c3 => ?_)
  rw [c3] at eF e5
  rw [c] at e4
  rw [Bool.not_false, Bool.and_eq_true, inB_true, inB_true] at e4 e5
  have eF : cpF (⟨⟨g0, g1, g2⟩, g3, g4⟩ : Lat) qa qb qs qt = 0 := eF
  rw [eF, if_neg (by simp)] at eV eE
  have r1 : plAt (allP (⟨⟨g0, g1, g2⟩, g3, g4⟩ : Lat)) qa.toNat = posAt (⟨⟨g0, g1, g2⟩, g3, g4⟩ : Lat) qa := by rw [plAt_all (by omega), show ((qa.toNat : Nat) : Int) = qa by omega]
  have r2 : plAt (allP (⟨⟨g0, g1, g2⟩, g3, g4⟩ : Lat)) qb.toNat = posAt (⟨⟨g0, g1, g2⟩, g3, g4⟩ : Lat) qb := by rw [plAt_all (by omega), show ((qb.toNat : Nat) : Int) = qb by omega]
  rw [r1, r2]
  have p1 := posAt_bd hp.2 (k := qa) (by omega) (by omega)
  have p2 := posAt_bd hp.2 (k := qb) (by omega) (by omega)
  have f1 : exH l (posAt (⟨⟨g0, g1, g2⟩, g3, g4⟩ : Lat) qa) qs = exF l (⟨⟨g0, g1, g2⟩, g3, g4⟩ : Lat) qa qs := rfl
  have f2 : exH l (posAt (⟨⟨g0, g1, g2⟩, g3, g4⟩ : Lat) qb) qt = exF l (⟨⟨g0, g1, g2⟩, g3, g4⟩ : Lat) qb qt := rfl
  rw [f1, f2]
  refine ⟨by omega, by omega, ⟨numsP_hits l, hp.1, p1, p2, by omega, by omega⟩, cond_i (fun g => ?_) (fun g => ⟨cond_i (fun _ => ⟨by trivial, trivial⟩) (fun _ => trivial), lt_i fun x6 h6 => ?_⟩)⟩
  ·have g := of_decide_eq_true g
   rcases jdB_cases l (posAt (⟨⟨g0, g1, g2⟩, g3, g4⟩ : Lat) qa) (posAt (⟨⟨g0, g1, g2⟩, g3, g4⟩ : Lat) qb) qs qt with ⟨q, _⟩ | ⟨m, m1, m2, m3, m4⟩
   ·omega
   ·rw [f1, f2] at m3 m4
    have hbm : badB (exF l (⟨⟨g0, g1, g2⟩, g3, g4⟩ : Lat) qa qs) (exF l (⟨⟨g0, g1, g2⟩, g3, g4⟩ : Lat) qb qt) m = 19 := by unfold badB; rw [if_neg (by rw [m3]; simp)]
    have hz : ∀ j, j < m → badB (exF l (⟨⟨g0, g1, g2⟩, g3, g4⟩ : Lat) qa qs) (exF l (⟨⟨g0, g1, g2⟩, g3, g4⟩ : Lat) qb qt) j = 0 := fun j hj => by unfold badB; rw [if_pos (m4 j hj)]
    have s1 := scan_at (f := badB (exF l (⟨⟨g0, g1, g2⟩, g3, g4⟩ : Lat) qa qs) (exF l (⟨⟨g0, g1, g2⟩, g3, g4⟩ : Lat) qb qt)) hz m1 (by rw [hbm]; decide)
    have s2 := scanI_at (f := badB (exF l (⟨⟨g0, g1, g2⟩, g3, g4⟩ : Lat) qa qs) (exF l (⟨⟨g0, g1, g2⟩, g3, g4⟩ : Lat) qb qt)) hz m1 (by rw [hbm]; decide)
    rw [hbm] at s1
    have hne : scan (badB (exF l (⟨⟨g0, g1, g2⟩, g3, g4⟩ : Lat) qa qs) (exF l (⟨⟨g0, g1, g2⟩, g3, g4⟩ : Lat) qb qt)) l.length ≠ 0 := by rw [s1]; decide
    rw [eV, eE, show jdV (exF l (⟨⟨g0, g1, g2⟩, g3, g4⟩ : Lat) qa qs) (exF l (⟨⟨g0, g1, g2⟩, g3, g4⟩ : Lat) qb qt) l.length = _ from if_pos hne, show jdE (exF l (⟨⟨g0, g1, g2⟩, g3, g4⟩ : Lat) qa qs) (exF l (⟨⟨g0, g1, g2⟩, g3, g4⟩ : Lat) qb qt) l.length = _ from if_pos hne, s1, s2, m2]
    exact LeD.refl _
  ·have g := of_decide_eq_false g
   rcases jdB_cases l (posAt (⟨⟨g0, g1, g2⟩, g3, g4⟩ : Lat) qa) (posAt (⟨⟨g0, g1, g2⟩, g3, g4⟩ : Lat) qb) qs qt with ⟨q, q2⟩ | ⟨m, m1, m2, m3, m4⟩
   ·rw [f1, f2] at q2
    have s0 : scan (badB (exF l (⟨⟨g0, g1, g2⟩, g3, g4⟩ : Lat) qa qs) (exF l (⟨⟨g0, g1, g2⟩, g3, g4⟩ : Lat) qb qt)) l.length = 0 := scan_end fun j hj => by unfold badB; rw [if_pos (q2 j hj)]
    rw [eV, eE, show jdV (exF l (⟨⟨g0, g1, g2⟩, g3, g4⟩ : Lat) qa qs) (exF l (⟨⟨g0, g1, g2⟩, g3, g4⟩ : Lat) qb qt) l.length = _ from if_neg (by rw [s0]; simp), show jdE (exF l (⟨⟨g0, g1, g2⟩, g3, g4⟩ : Lat) qa qs) (exF l (⟨⟨g0, g1, g2⟩, g3, g4⟩ : Lat) qb qt) l.length = _ from if_neg (by rw [s0]; simp)]
    refine cond_i (fun e => ?_) (fun e => ?_)
    ·have hz : cntB (exF l (⟨⟨g0, g1, g2⟩, g3, g4⟩ : Lat) qa qs) l.length = 0 ∨ cntB (exF l (⟨⟨g0, g1, g2⟩, g3, g4⟩ : Lat) qb qt) l.length = 0 := by
      subst h6
      by_cases c : cntB (exF l (⟨⟨g0, g1, g2⟩, g3, g4⟩ : Lat) qa qs) l.length = 0 <;> simp_all
     rw [if_pos hz, if_pos hz]
     exact LeD.refl _
    ·have hz : ¬ (cntB (exF l (⟨⟨g0, g1, g2⟩, g3, g4⟩ : Lat) qa qs) l.length = 0 ∨ cntB (exF l (⟨⟨g0, g1, g2⟩, g3, g4⟩ : Lat) qb qt) l.length = 0) := by
      subst h6
      by_cases c : cntB (exF l (⟨⟨g0, g1, g2⟩, g3, g4⟩ : Lat) qa qs) l.length = 0 <;> simp_all
     rw [if_neg hz, if_neg hz]
     exact LeD.refl _
   ·omega
def con_ref06_CheckPair : Con := fun args => match args with
 | [.t (.c (.sl 7 n_l c_l)), .t (.a [.v (.int .i64 g0), .v (.int .i64 g1), .v (.int .i64 g2), .v (.int .i64 g3), .v (.int .i64 g4)]), .t (.a [.v (.int .i64 qa), .v (.int .i64 qb), .v (.int .i64 qs), .v (.int .i64 qt)])] => some (.tu [.c (.v (.int .i64 (cpV (listC n_l mkHit c_l) (⟨⟨g0, g1, g2⟩, g3, g4⟩ : Lat) qa qb qs qt))), .c (.v (.int .i64 (cpE (listC n_l mkHit c_l) (⟨⟨g0, g1, g2⟩, g3, g4⟩ : Lat) qa qb qs qt)))], some (numsP 7 n_l c_l ∧ hitsE (listC n_l mkHit c_l) = 0 ∧ latE (⟨⟨g0, g1, g2⟩, g3, g4⟩ : Lat) = 0), false)
 | _ => none
theorem ok_ref06_CheckPair : Ok Tryd.prog 79 con_ref06_CheckPair := by
 refine Ok.fn (ann := ann_ref06_CheckPair) mixed tabOK VSh150 VI1 (fn := Tryd.f79) (by kernel_rfl) (by kernel_rfl) fit_ref06_CheckPair fun args r pre fresh h hp => ?_
 unfold con_ref06_CheckPair at h
 split at h
 ·rename_i n_l c_l g0 g1 g2 g3 g4 qa qb qs qt
  cases h
  obtain ⟨hp0, hp⟩ := hp
  refine ⟨rfl, fun _ _ _ => False, [.t (.c (.sl 7 ((listC n_l mkHit c_l).length) (hitsC (listC n_l mkHit c_l)))), .t (.a [.v (.int .i64 g0), .v (.int .i64 g1), .v (.int .i64 g2), .v (.int .i64 g3), .v (.int .i64 g4)]), .t (.a [.v (.int .i64 qa), .v (.int .i64 qb), .v (.int .i64 qs), .v (.int .i64 qt)])], ?_, Nat.le_of_ble_eq_true (by kernel_rfl), ?_, ?_⟩
  ·exact (LeA_cons (leT_c ((leL_FHit hp0))) (LeA_cons (LeD.refl _) (LeA_cons (leT_a (LeCs.cons (LeC1.refl _) (LeCs.cons (LeC1.refl _) (LeCs.cons (LeC1.refl _) (LeCs.cons (LeC1.refl _) LeCs.nil))))) LeA_nil)))
  ·rw [ev_ref06_CheckPair]; exact spec_ref06_CheckPair (listC n_l mkHit c_l) g0 g1 g2 g3 g4 qa qb qs qt hp
  ·rw [lp_ref06_CheckPair]; trivial
 ·cases h
noncomputable def Sh151 : Sum := addS Sh150 79 con_ref06_CheckPair
theorem VSh151 : Valid Tryd.prog Sh151 := Valid.add VSh150 ok_ref06_CheckPair
end Go.Proofs.YtmhgjlapkhdlmaaDoor
set_option linter.unusedVariables false
set_option linter.unusedSimpArgs false
namespace Go.Proofs.YtmhgjlapkhdlmaaDoor
open Go.RowKit Ev
theorem pr_cases (l : List FHit) (x : Lat) (qa qb qs qt : Int) : (bothE l x ≠ 0 ∧ pairE l x = bothE l x ∧ prO l x = ⟨0, 0, 0, 0⟩ ∧ cpE l x qa qb qs qt = bothE l x ∧ cpV l x qa qb qs qt = 0 ∧ dblB l x = false) ∨
  (bothE l x = 0 ∧ hitsE l = 0 ∧ latE x = 0 ∧ hasP (allS l x) = true ∧ pairE l x = 0 ∧ prO l x = prV (allS l x) ∧ dblB l x = decide ((vtxR l x).length = 0)) ∨
  (bothE l x = 0 ∧ hitsE l = 0 ∧ latE x = 0 ∧ hasP (allS l x) = false ∧ pairE l x = 12 ∧ prO l x = ⟨0, 0, 0, 0⟩ ∧ dblB l x = false) := by
 by_cases h : bothE l x = 0
 ·obtain ⟨h1, h2⟩ := fn2 (show firstNZ [hitsE l, latE x] = 0 from h)
  have e1 : pairE l x = unl (hasP (allS l x)) 12 := if_neg (by rw [h]; simp)
  have e2 : prO l x = prV (allS l x) := if_pos h
  have e3 : dblB l x = (decide ((vtxR l x).length = 0) && hasP (allS l x)) := by unfold dblB; rw [decide_eq_true h]; rfl
  cases hp : hasP (allS l x) with
  | true =>
   rw [hp] at e1 e3
   exact Or.inr (Or.inl ⟨h, h1, h2, rfl, e1, e2, by rw [e3, Bool.and_true]⟩)
  | false =>
   rw [hp] at e1 e3
   exact Or.inr (Or.inr ⟨h, h1, h2, rfl, e1, by rw [e2]; exact if_neg (by rw [hp]; simp), by rw [e3, Bool.and_false]⟩)
 ·exact Or.inl ⟨h, if_pos h, if_neg h, if_pos h, if_pos h, by unfold dblB; rw [decide_eq_false h]; rfl⟩
def vc_law06_FlashPairs (l : List FHit) (g0 g1 g2 g3 g4 : Int) (qa : Int) (qb : Int) (qs : Int) (qt : Int) (post : DV → Prop) : Prop := (numsP 7 l.length (hitsC l)) ∧ (cond (!(decide (((listC l.length mkHit (hitsC l))).length ≤ 10))) ((true = true) ∧ (post (.t (.c (.v (.bool true)))))) (cond ((latE (⟨⟨g0, g1, g2⟩, g3, g4⟩ : Lat)) == (0 : Int)) (cond (decide (g4 > (3 : Int))) (post (.t (.c (.v (.bool true))))) ((numsP 7 l.length (hitsC l) ∧ ((listC l.length mkHit (hitsC l))).length ≤ 1000) ∧ ((numsP 7 ((listC l.length mkHit (hitsC l)).length) (hitsC (listC l.length mkHit (hitsC l)))) ∧ ((numsP 7 l.length (hitsC l) ∧ ((listC l.length mkHit (hitsC l))).length ≤ 1000) ∧ ((numsP 7 ((listC l.length mkHit (hitsC l)).length) (hitsC (listC l.length mkHit (hitsC l)))) ∧ ((numsP 7 l.length (hitsC l) ∧ ((listC l.length mkHit (hitsC l))).length ≤ 1000) ∧ ((numsP 7 ((listC l.length mkHit (hitsC l)).length) (hitsC (listC l.length mkHit (hitsC l)))) ∧ ((numsP 7 l.length (hitsC l)) ∧ (cond ((bothE (listC l.length mkHit (hitsC l)) (⟨⟨g0, g1, g2⟩, g3, g4⟩ : Lat)) != (0 : Int)) (cond ((pairE (listC ((listC l.length mkHit (hitsC l)).length) mkHit (hitsC (listC l.length mkHit (hitsC l)))) (⟨⟨g0, g1, g2⟩, g3, g4⟩ : Lat)) == (bothE (listC l.length mkHit (hitsC l)) (⟨⟨g0, g1, g2⟩, g3, g4⟩ : Lat))) (cond (bif (((prO (listC ((listC l.length mkHit (hitsC l)).length) mkHit (hitsC (listC l.length mkHit (hitsC l)))) (⟨⟨g0, g1, g2⟩, g3, g4⟩ : Lat)).a) == (0 : Int)) then (bif (((prO (listC ((listC l.length mkHit (hitsC l)).length) mkHit (hitsC (listC l.length mkHit (hitsC l)))) (⟨⟨g0, g1, g2⟩, g3, g4⟩ : Lat)).b) == (0 : Int)) then (bif (((prO (listC ((listC l.length mkHit (hitsC l)).length) mkHit (hitsC (listC l.length mkHit (hitsC l)))) (⟨⟨g0, g1, g2⟩, g3, g4⟩ : Lat)).s) == (0 : Int)) then (bif (((prO (listC ((listC l.length mkHit (hitsC l)).length) mkHit (hitsC (listC l.length mkHit (hitsC l)))) (⟨⟨g0, g1, g2⟩, g3, g4⟩ : Lat)).t) == (0 : Int)) then true else false) else false) else false) else false) (cond ((cpE (listC ((listC l.length mkHit (hitsC l)).length) mkHit (hitsC (listC l.length mkHit (hitsC l)))) (⟨⟨g0, g1, g2⟩, g3, g4⟩ : Lat) qa qb qs qt) == (bothE (listC l.length mkHit (hitsC l)) (⟨⟨g0, g1, g2⟩, g3, g4⟩ : Lat))) (cond ((cpV (listC ((listC l.length mkHit (hitsC l)).length) mkHit (hitsC (listC l.length mkHit (hitsC l)))) (⟨⟨g0, g1, g2⟩, g3, g4⟩ : Lat) qa qb qs qt) == (0 : Int)) (cond ((bothE (listC ((listC l.length mkHit (hitsC l)).length) mkHit (hitsC (listC l.length mkHit (hitsC l)))) (⟨⟨g0, g1, g2⟩, g3, g4⟩ : Lat)) == (bothE (listC l.length mkHit (hitsC l)) (⟨⟨g0, g1, g2⟩, g3, g4⟩ : Lat))) (post (.t (.c (.v (.bool (!(dblB (listC ((listC l.length mkHit (hitsC l)).length) mkHit (hitsC (listC l.length mkHit (hitsC l)))) (⟨⟨g0, g1, g2⟩, g3, g4⟩ : Lat)))))))) ((false = false) ∧ (post (.t (.c (.v (.bool false))))))) ((false = false) ∧ ((false = false) ∧ (post (.t (.c (.v (.bool false)))))))) ((false = false) ∧ ((false = false) ∧ ((false = false) ∧ (post (.t (.c (.v (.bool false))))))))) ((false = false) ∧ ((false = false) ∧ ((false = false) ∧ ((false = false) ∧ (post (.t (.c (.v (.bool false)))))))))) ((false = false) ∧ ((false = false) ∧ ((false = false) ∧ ((false = false) ∧ ((false = false) ∧ (post (.t (.c (.v (.bool false))))))))))) ((numsP 7 l.length (hitsC l) ∧ hitsE (listC l.length mkHit (hitsC l)) = 0 ∧ latE (⟨⟨g0, g1, g2⟩, g3, g4⟩ : Lat) = 0) ∧ (cond ((cpE (listC ((listC l.length mkHit (hitsC l)).length) mkHit (hitsC (listC l.length mkHit (hitsC l)))) (⟨⟨g0, g1, g2⟩, g3, g4⟩ : Lat) qa qb qs qt) != (cpE (listC l.length mkHit (hitsC l)) (⟨⟨g0, g1, g2⟩, g3, g4⟩ : Lat) qa qb qs qt)) ((true = true) ∧ (post (.t (.c (.v (.bool false)))))) (cond ((cpV (listC ((listC l.length mkHit (hitsC l)).length) mkHit (hitsC (listC l.length mkHit (hitsC l)))) (⟨⟨g0, g1, g2⟩, g3, g4⟩ : Lat) qa qb qs qt) != (cpV (listC l.length mkHit (hitsC l)) (⟨⟨g0, g1, g2⟩, g3, g4⟩ : Lat) qa qb qs qt)) (post (.t (.c (.v (.bool false))))) ((numsP 7 l.length (hitsC l) ∧ hitsE (listC l.length mkHit (hitsC l)) = 0 ∧ latE (⟨⟨g0, g1, g2⟩, g3, g4⟩ : Lat) = 0) ∧ (cond ((bothE (listC ((listC l.length mkHit (hitsC l)).length) mkHit (hitsC (listC l.length mkHit (hitsC l)))) (⟨⟨g0, g1, g2⟩, g3, g4⟩ : Lat)) != (0 : Int)) ((true = true) ∧ (post (.t (.c (.v (.bool false)))))) (cond (hasP (allS (listC l.length mkHit (hitsC l)) (⟨⟨g0, g1, g2⟩, g3, g4⟩ : Lat))) ((numsP 7 l.length (hitsC l) ∧ hitsE (listC l.length mkHit (hitsC l)) = 0 ∧ latE (⟨⟨g0, g1, g2⟩, g3, g4⟩ : Lat) = 0) ∧ (cond ((dblB (listC ((listC l.length mkHit (hitsC l)).length) mkHit (hitsC (listC l.length mkHit (hitsC l)))) (⟨⟨g0, g1, g2⟩, g3, g4⟩ : Lat)) != ((((vtxR (listC l.length mkHit (hitsC l)) (⟨⟨g0, g1, g2⟩, g3, g4⟩ : Lat)).length : Nat) : Int) == (0 : Int))) (post (.t (.c (.v (.bool false))))) (cond (hasP (allS (listC l.length mkHit (hitsC l)) (⟨⟨g0, g1, g2⟩, g3, g4⟩ : Lat))) (cond ((pairE (listC ((listC l.length mkHit (hitsC l)).length) mkHit (hitsC (listC l.length mkHit (hitsC l)))) (⟨⟨g0, g1, g2⟩, g3, g4⟩ : Lat)) == (0 : Int)) (cond (bif (((prO (listC ((listC l.length mkHit (hitsC l)).length) mkHit (hitsC (listC l.length mkHit (hitsC l)))) (⟨⟨g0, g1, g2⟩, g3, g4⟩ : Lat)).a) == ((prV (allS (listC l.length mkHit (hitsC l)) (⟨⟨g0, g1, g2⟩, g3, g4⟩ : Lat))).a)) then (bif (((prO (listC ((listC l.length mkHit (hitsC l)).length) mkHit (hitsC (listC l.length mkHit (hitsC l)))) (⟨⟨g0, g1, g2⟩, g3, g4⟩ : Lat)).b) == ((prV (allS (listC l.length mkHit (hitsC l)) (⟨⟨g0, g1, g2⟩, g3, g4⟩ : Lat))).b)) then (bif (((prO (listC ((listC l.length mkHit (hitsC l)).length) mkHit (hitsC (listC l.length mkHit (hitsC l)))) (⟨⟨g0, g1, g2⟩, g3, g4⟩ : Lat)).s) == ((prV (allS (listC l.length mkHit (hitsC l)) (⟨⟨g0, g1, g2⟩, g3, g4⟩ : Lat))).s)) then (bif (((prO (listC ((listC l.length mkHit (hitsC l)).length) mkHit (hitsC (listC l.length mkHit (hitsC l)))) (⟨⟨g0, g1, g2⟩, g3, g4⟩ : Lat)).t) == ((prV (allS (listC l.length mkHit (hitsC l)) (⟨⟨g0, g1, g2⟩, g3, g4⟩ : Lat))).t)) then true else false) else false) else false) else false) ((true = true) ∧ (post (.t (.c (.v (.bool true)))))) (cond (!(hasP (allS (listC l.length mkHit (hitsC l)) (⟨⟨g0, g1, g2⟩, g3, g4⟩ : Lat)))) (cond ((pairE (listC ((listC l.length mkHit (hitsC l)).length) mkHit (hitsC (listC l.length mkHit (hitsC l)))) (⟨⟨g0, g1, g2⟩, g3, g4⟩ : Lat)) == (12 : Int)) (post (.t (.c (.v (.bool (bif (((prO (listC ((listC l.length mkHit (hitsC l)).length) mkHit (hitsC (listC l.length mkHit (hitsC l)))) (⟨⟨g0, g1, g2⟩, g3, g4⟩ : Lat)).a) == (0 : Int)) then (bif (((prO (listC ((listC l.length mkHit (hitsC l)).length) mkHit (hitsC (listC l.length mkHit (hitsC l)))) (⟨⟨g0, g1, g2⟩, g3, g4⟩ : Lat)).b) == (0 : Int)) then (bif (((prO (listC ((listC l.length mkHit (hitsC l)).length) mkHit (hitsC (listC l.length mkHit (hitsC l)))) (⟨⟨g0, g1, g2⟩, g3, g4⟩ : Lat)).s) == (0 : Int)) then (bif (((prO (listC ((listC l.length mkHit (hitsC l)).length) mkHit (hitsC (listC l.length mkHit (hitsC l)))) (⟨⟨g0, g1, g2⟩, g3, g4⟩ : Lat)).t) == (0 : Int)) then true else false) else false) else false) else false)))))) ((false = false) ∧ (post (.t (.c (.v (.bool false))))))) ((false = false) ∧ ((false = false) ∧ (post (.t (.c (.v (.bool false))))))))) ((false = false) ∧ (cond (!(hasP (allS (listC l.length mkHit (hitsC l)) (⟨⟨g0, g1, g2⟩, g3, g4⟩ : Lat)))) (cond ((pairE (listC ((listC l.length mkHit (hitsC l)).length) mkHit (hitsC (listC l.length mkHit (hitsC l)))) (⟨⟨g0, g1, g2⟩, g3, g4⟩ : Lat)) == (12 : Int)) (post (.t (.c (.v (.bool (bif (((prO (listC ((listC l.length mkHit (hitsC l)).length) mkHit (hitsC (listC l.length mkHit (hitsC l)))) (⟨⟨g0, g1, g2⟩, g3, g4⟩ : Lat)).a) == (0 : Int)) then (bif (((prO (listC ((listC l.length mkHit (hitsC l)).length) mkHit (hitsC (listC l.length mkHit (hitsC l)))) (⟨⟨g0, g1, g2⟩, g3, g4⟩ : Lat)).b) == (0 : Int)) then (bif (((prO (listC ((listC l.length mkHit (hitsC l)).length) mkHit (hitsC (listC l.length mkHit (hitsC l)))) (⟨⟨g0, g1, g2⟩, g3, g4⟩ : Lat)).s) == (0 : Int)) then (bif (((prO (listC ((listC l.length mkHit (hitsC l)).length) mkHit (hitsC (listC l.length mkHit (hitsC l)))) (⟨⟨g0, g1, g2⟩, g3, g4⟩ : Lat)).t) == (0 : Int)) then true else false) else false) else false) else false)))))) ((false = false) ∧ (post (.t (.c (.v (.bool false))))))) ((false = false) ∧ ((false = false) ∧ (post (.t (.c (.v (.bool false)))))))))) ((false = false) ∧ ((false = false) ∧ (cond (!(hasP (allS (listC l.length mkHit (hitsC l)) (⟨⟨g0, g1, g2⟩, g3, g4⟩ : Lat)))) (cond ((pairE (listC ((listC l.length mkHit (hitsC l)).length) mkHit (hitsC (listC l.length mkHit (hitsC l)))) (⟨⟨g0, g1, g2⟩, g3, g4⟩ : Lat)) == (12 : Int)) (post (.t (.c (.v (.bool (bif (((prO (listC ((listC l.length mkHit (hitsC l)).length) mkHit (hitsC (listC l.length mkHit (hitsC l)))) (⟨⟨g0, g1, g2⟩, g3, g4⟩ : Lat)).a) == (0 : Int)) then (bif (((prO (listC ((listC l.length mkHit (hitsC l)).length) mkHit (hitsC (listC l.length mkHit (hitsC l)))) (⟨⟨g0, g1, g2⟩, g3, g4⟩ : Lat)).b) == (0 : Int)) then (bif (((prO (listC ((listC l.length mkHit (hitsC l)).length) mkHit (hitsC (listC l.length mkHit (hitsC l)))) (⟨⟨g0, g1, g2⟩, g3, g4⟩ : Lat)).s) == (0 : Int)) then (bif (((prO (listC ((listC l.length mkHit (hitsC l)).length) mkHit (hitsC (listC l.length mkHit (hitsC l)))) (⟨⟨g0, g1, g2⟩, g3, g4⟩ : Lat)).t) == (0 : Int)) then true else false) else false) else false) else false)))))) ((false = false) ∧ (post (.t (.c (.v (.bool false))))))) ((false = false) ∧ ((false = false) ∧ (post (.t (.c (.v (.bool false))))))))))))) ((false = false) ∧ (cond ((dblB (listC ((listC l.length mkHit (hitsC l)).length) mkHit (hitsC (listC l.length mkHit (hitsC l)))) (⟨⟨g0, g1, g2⟩, g3, g4⟩ : Lat)) != false) (post (.t (.c (.v (.bool false))))) (cond (hasP (allS (listC l.length mkHit (hitsC l)) (⟨⟨g0, g1, g2⟩, g3, g4⟩ : Lat))) (cond ((pairE (listC ((listC l.length mkHit (hitsC l)).length) mkHit (hitsC (listC l.length mkHit (hitsC l)))) (⟨⟨g0, g1, g2⟩, g3, g4⟩ : Lat)) == (0 : Int)) (cond (bif (((prO (listC ((listC l.length mkHit (hitsC l)).length) mkHit (hitsC (listC l.length mkHit (hitsC l)))) (⟨⟨g0, g1, g2⟩, g3, g4⟩ : Lat)).a) == ((prV (allS (listC l.length mkHit (hitsC l)) (⟨⟨g0, g1, g2⟩, g3, g4⟩ : Lat))).a)) then (bif (((prO (listC ((listC l.length mkHit (hitsC l)).length) mkHit (hitsC (listC l.length mkHit (hitsC l)))) (⟨⟨g0, g1, g2⟩, g3, g4⟩ : Lat)).b) == ((prV (allS (listC l.length mkHit (hitsC l)) (⟨⟨g0, g1, g2⟩, g3, g4⟩ : Lat))).b)) then (bif (((prO (listC ((listC l.length mkHit (hitsC l)).length) mkHit (hitsC (listC l.length mkHit (hitsC l)))) (⟨⟨g0, g1, g2⟩, g3, g4⟩ : Lat)).s) == ((prV (allS (listC l.length mkHit (hitsC l)) (⟨⟨g0, g1, g2⟩, g3, g4⟩ : Lat))).s)) then (bif (((prO (listC ((listC l.length mkHit (hitsC l)).length) mkHit (hitsC (listC l.length mkHit (hitsC l)))) (⟨⟨g0, g1, g2⟩, g3, g4⟩ : Lat)).t) == ((prV (allS (listC l.length mkHit (hitsC l)) (⟨⟨g0, g1, g2⟩, g3, g4⟩ : Lat))).t)) then true else false) else false) else false) else false) ((true = true) ∧ (post (.t (.c (.v (.bool true)))))) (cond (!(hasP (allS (listC l.length mkHit (hitsC l)) (⟨⟨g0, g1, g2⟩, g3, g4⟩ : Lat)))) (cond ((pairE (listC ((listC l.length mkHit (hitsC l)).length) mkHit (hitsC (listC l.length mkHit (hitsC l)))) (⟨⟨g0, g1, g2⟩, g3, g4⟩ : Lat)) == (12 : Int)) (post (.t (.c (.v (.bool (bif (((prO (listC ((listC l.length mkHit (hitsC l)).length) mkHit (hitsC (listC l.length mkHit (hitsC l)))) (⟨⟨g0, g1, g2⟩, g3, g4⟩ : Lat)).a) == (0 : Int)) then (bif (((prO (listC ((listC l.length mkHit (hitsC l)).length) mkHit (hitsC (listC l.length mkHit (hitsC l)))) (⟨⟨g0, g1, g2⟩, g3, g4⟩ : Lat)).b) == (0 : Int)) then (bif (((prO (listC ((listC l.length mkHit (hitsC l)).length) mkHit (hitsC (listC l.length mkHit (hitsC l)))) (⟨⟨g0, g1, g2⟩, g3, g4⟩ : Lat)).s) == (0 : Int)) then (bif (((prO (listC ((listC l.length mkHit (hitsC l)).length) mkHit (hitsC (listC l.length mkHit (hitsC l)))) (⟨⟨g0, g1, g2⟩, g3, g4⟩ : Lat)).t) == (0 : Int)) then true else false) else false) else false) else false)))))) ((false = false) ∧ (post (.t (.c (.v (.bool false))))))) ((false = false) ∧ ((false = false) ∧ (post (.t (.c (.v (.bool false))))))))) ((false = false) ∧ (cond (!(hasP (allS (listC l.length mkHit (hitsC l)) (⟨⟨g0, g1, g2⟩, g3, g4⟩ : Lat)))) (cond ((pairE (listC ((listC l.length mkHit (hitsC l)).length) mkHit (hitsC (listC l.length mkHit (hitsC l)))) (⟨⟨g0, g1, g2⟩, g3, g4⟩ : Lat)) == (12 : Int)) (post (.t (.c (.v (.bool (bif (((prO (listC ((listC l.length mkHit (hitsC l)).length) mkHit (hitsC (listC l.length mkHit (hitsC l)))) (⟨⟨g0, g1, g2⟩, g3, g4⟩ : Lat)).a) == (0 : Int)) then (bif (((prO (listC ((listC l.length mkHit (hitsC l)).length) mkHit (hitsC (listC l.length mkHit (hitsC l)))) (⟨⟨g0, g1, g2⟩, g3, g4⟩ : Lat)).b) == (0 : Int)) then (bif (((prO (listC ((listC l.length mkHit (hitsC l)).length) mkHit (hitsC (listC l.length mkHit (hitsC l)))) (⟨⟨g0, g1, g2⟩, g3, g4⟩ : Lat)).s) == (0 : Int)) then (bif (((prO (listC ((listC l.length mkHit (hitsC l)).length) mkHit (hitsC (listC l.length mkHit (hitsC l)))) (⟨⟨g0, g1, g2⟩, g3, g4⟩ : Lat)).t) == (0 : Int)) then true else false) else false) else false) else false)))))) ((false = false) ∧ (post (.t (.c (.v (.bool false))))))) ((false = false) ∧ ((false = false) ∧ (post (.t (.c (.v (.bool false)))))))))) ((false = false) ∧ ((false = false) ∧ (cond (!(hasP (allS (listC l.length mkHit (hitsC l)) (⟨⟨g0, g1, g2⟩, g3, g4⟩ : Lat)))) (cond ((pairE (listC ((listC l.length mkHit (hitsC l)).length) mkHit (hitsC (listC l.length mkHit (hitsC l)))) (⟨⟨g0, g1, g2⟩, g3, g4⟩ : Lat)) == (12 : Int)) (post (.t (.c (.v (.bool (bif (((prO (listC ((listC l.length mkHit (hitsC l)).length) mkHit (hitsC (listC l.length mkHit (hitsC l)))) (⟨⟨g0, g1, g2⟩, g3, g4⟩ : Lat)).a) == (0 : Int)) then (bif (((prO (listC ((listC l.length mkHit (hitsC l)).length) mkHit (hitsC (listC l.length mkHit (hitsC l)))) (⟨⟨g0, g1, g2⟩, g3, g4⟩ : Lat)).b) == (0 : Int)) then (bif (((prO (listC ((listC l.length mkHit (hitsC l)).length) mkHit (hitsC (listC l.length mkHit (hitsC l)))) (⟨⟨g0, g1, g2⟩, g3, g4⟩ : Lat)).s) == (0 : Int)) then (bif (((prO (listC ((listC l.length mkHit (hitsC l)).length) mkHit (hitsC (listC l.length mkHit (hitsC l)))) (⟨⟨g0, g1, g2⟩, g3, g4⟩ : Lat)).t) == (0 : Int)) then true else false) else false) else false) else false)))))) ((false = false) ∧ (post (.t (.c (.v (.bool false))))))) ((false = false) ∧ ((false = false) ∧ (post (.t (.c (.v (.bool false)))))))))))))))))))))))))))) ((false = false) ∧ ((numsP 7 l.length (hitsC l) ∧ ((listC l.length mkHit (hitsC l))).length ≤ 1000) ∧ ((numsP 7 ((listC l.length mkHit (hitsC l)).length) (hitsC (listC l.length mkHit (hitsC l)))) ∧ ((numsP 7 l.length (hitsC l) ∧ ((listC l.length mkHit (hitsC l))).length ≤ 1000) ∧ ((numsP 7 ((listC l.length mkHit (hitsC l)).length) (hitsC (listC l.length mkHit (hitsC l)))) ∧ ((numsP 7 l.length (hitsC l) ∧ ((listC l.length mkHit (hitsC l))).length ≤ 1000) ∧ ((numsP 7 ((listC l.length mkHit (hitsC l)).length) (hitsC (listC l.length mkHit (hitsC l)))) ∧ ((numsP 7 l.length (hitsC l)) ∧ (cond ((bothE (listC l.length mkHit (hitsC l)) (⟨⟨g0, g1, g2⟩, g3, g4⟩ : Lat)) != (0 : Int)) (cond ((pairE (listC ((listC l.length mkHit (hitsC l)).length) mkHit (hitsC (listC l.length mkHit (hitsC l)))) (⟨⟨g0, g1, g2⟩, g3, g4⟩ : Lat)) == (bothE (listC l.length mkHit (hitsC l)) (⟨⟨g0, g1, g2⟩, g3, g4⟩ : Lat))) (cond (bif (((prO (listC ((listC l.length mkHit (hitsC l)).length) mkHit (hitsC (listC l.length mkHit (hitsC l)))) (⟨⟨g0, g1, g2⟩, g3, g4⟩ : Lat)).a) == (0 : Int)) then (bif (((prO (listC ((listC l.length mkHit (hitsC l)).length) mkHit (hitsC (listC l.length mkHit (hitsC l)))) (⟨⟨g0, g1, g2⟩, g3, g4⟩ : Lat)).b) == (0 : Int)) then (bif (((prO (listC ((listC l.length mkHit (hitsC l)).length) mkHit (hitsC (listC l.length mkHit (hitsC l)))) (⟨⟨g0, g1, g2⟩, g3, g4⟩ : Lat)).s) == (0 : Int)) then (bif (((prO (listC ((listC l.length mkHit (hitsC l)).length) mkHit (hitsC (listC l.length mkHit (hitsC l)))) (⟨⟨g0, g1, g2⟩, g3, g4⟩ : Lat)).t) == (0 : Int)) then true else false) else false) else false) else false) (cond ((cpE (listC ((listC l.length mkHit (hitsC l)).length) mkHit (hitsC (listC l.length mkHit (hitsC l)))) (⟨⟨g0, g1, g2⟩, g3, g4⟩ : Lat) qa qb qs qt) == (bothE (listC l.length mkHit (hitsC l)) (⟨⟨g0, g1, g2⟩, g3, g4⟩ : Lat))) (cond ((cpV (listC ((listC l.length mkHit (hitsC l)).length) mkHit (hitsC (listC l.length mkHit (hitsC l)))) (⟨⟨g0, g1, g2⟩, g3, g4⟩ : Lat) qa qb qs qt) == (0 : Int)) (cond ((bothE (listC ((listC l.length mkHit (hitsC l)).length) mkHit (hitsC (listC l.length mkHit (hitsC l)))) (⟨⟨g0, g1, g2⟩, g3, g4⟩ : Lat)) == (bothE (listC l.length mkHit (hitsC l)) (⟨⟨g0, g1, g2⟩, g3, g4⟩ : Lat))) (post (.t (.c (.v (.bool (!(dblB (listC ((listC l.length mkHit (hitsC l)).length) mkHit (hitsC (listC l.length mkHit (hitsC l)))) (⟨⟨g0, g1, g2⟩, g3, g4⟩ : Lat)))))))) ((false = false) ∧ (post (.t (.c (.v (.bool false))))))) ((false = false) ∧ ((false = false) ∧ (post (.t (.c (.v (.bool false)))))))) ((false = false) ∧ ((false = false) ∧ ((false = false) ∧ (post (.t (.c (.v (.bool false))))))))) ((false = false) ∧ ((false = false) ∧ ((false = false) ∧ ((false = false) ∧ (post (.t (.c (.v (.bool false)))))))))) ((false = false) ∧ ((false = false) ∧ ((false = false) ∧ ((false = false) ∧ ((false = false) ∧ (post (.t (.c (.v (.bool false))))))))))) ((numsP 7 l.length (hitsC l) ∧ hitsE (listC l.length mkHit (hitsC l)) = 0 ∧ latE (⟨⟨g0, g1, g2⟩, g3, g4⟩ : Lat) = 0) ∧ (cond ((cpE (listC ((listC l.length mkHit (hitsC l)).length) mkHit (hitsC (listC l.length mkHit (hitsC l)))) (⟨⟨g0, g1, g2⟩, g3, g4⟩ : Lat) qa qb qs qt) != (cpE (listC l.length mkHit (hitsC l)) (⟨⟨g0, g1, g2⟩, g3, g4⟩ : Lat) qa qb qs qt)) ((true = true) ∧ (post (.t (.c (.v (.bool false)))))) (cond ((cpV (listC ((listC l.length mkHit (hitsC l)).length) mkHit (hitsC (listC l.length mkHit (hitsC l)))) (⟨⟨g0, g1, g2⟩, g3, g4⟩ : Lat) qa qb qs qt) != (cpV (listC l.length mkHit (hitsC l)) (⟨⟨g0, g1, g2⟩, g3, g4⟩ : Lat) qa qb qs qt)) (post (.t (.c (.v (.bool false))))) ((numsP 7 l.length (hitsC l) ∧ hitsE (listC l.length mkHit (hitsC l)) = 0 ∧ latE (⟨⟨g0, g1, g2⟩, g3, g4⟩ : Lat) = 0) ∧ (cond ((bothE (listC ((listC l.length mkHit (hitsC l)).length) mkHit (hitsC (listC l.length mkHit (hitsC l)))) (⟨⟨g0, g1, g2⟩, g3, g4⟩ : Lat)) != (0 : Int)) ((true = true) ∧ (post (.t (.c (.v (.bool false)))))) (cond (hasP (allS (listC l.length mkHit (hitsC l)) (⟨⟨g0, g1, g2⟩, g3, g4⟩ : Lat))) ((numsP 7 l.length (hitsC l) ∧ hitsE (listC l.length mkHit (hitsC l)) = 0 ∧ latE (⟨⟨g0, g1, g2⟩, g3, g4⟩ : Lat) = 0) ∧ (cond ((dblB (listC ((listC l.length mkHit (hitsC l)).length) mkHit (hitsC (listC l.length mkHit (hitsC l)))) (⟨⟨g0, g1, g2⟩, g3, g4⟩ : Lat)) != ((((vtxR (listC l.length mkHit (hitsC l)) (⟨⟨g0, g1, g2⟩, g3, g4⟩ : Lat)).length : Nat) : Int) == (0 : Int))) (post (.t (.c (.v (.bool false))))) (cond (hasP (allS (listC l.length mkHit (hitsC l)) (⟨⟨g0, g1, g2⟩, g3, g4⟩ : Lat))) (cond ((pairE (listC ((listC l.length mkHit (hitsC l)).length) mkHit (hitsC (listC l.length mkHit (hitsC l)))) (⟨⟨g0, g1, g2⟩, g3, g4⟩ : Lat)) == (0 : Int)) (cond (bif (((prO (listC ((listC l.length mkHit (hitsC l)).length) mkHit (hitsC (listC l.length mkHit (hitsC l)))) (⟨⟨g0, g1, g2⟩, g3, g4⟩ : Lat)).a) == ((prV (allS (listC l.length mkHit (hitsC l)) (⟨⟨g0, g1, g2⟩, g3, g4⟩ : Lat))).a)) then (bif (((prO (listC ((listC l.length mkHit (hitsC l)).length) mkHit (hitsC (listC l.length mkHit (hitsC l)))) (⟨⟨g0, g1, g2⟩, g3, g4⟩ : Lat)).b) == ((prV (allS (listC l.length mkHit (hitsC l)) (⟨⟨g0, g1, g2⟩, g3, g4⟩ : Lat))).b)) then (bif (((prO (listC ((listC l.length mkHit (hitsC l)).length) mkHit (hitsC (listC l.length mkHit (hitsC l)))) (⟨⟨g0, g1, g2⟩, g3, g4⟩ : Lat)).s) == ((prV (allS (listC l.length mkHit (hitsC l)) (⟨⟨g0, g1, g2⟩, g3, g4⟩ : Lat))).s)) then (bif (((prO (listC ((listC l.length mkHit (hitsC l)).length) mkHit (hitsC (listC l.length mkHit (hitsC l)))) (⟨⟨g0, g1, g2⟩, g3, g4⟩ : Lat)).t) == ((prV (allS (listC l.length mkHit (hitsC l)) (⟨⟨g0, g1, g2⟩, g3, g4⟩ : Lat))).t)) then true else false) else false) else false) else false) ((true = true) ∧ (post (.t (.c (.v (.bool true)))))) (cond (!(hasP (allS (listC l.length mkHit (hitsC l)) (⟨⟨g0, g1, g2⟩, g3, g4⟩ : Lat)))) (cond ((pairE (listC ((listC l.length mkHit (hitsC l)).length) mkHit (hitsC (listC l.length mkHit (hitsC l)))) (⟨⟨g0, g1, g2⟩, g3, g4⟩ : Lat)) == (12 : Int)) (post (.t (.c (.v (.bool (bif (((prO (listC ((listC l.length mkHit (hitsC l)).length) mkHit (hitsC (listC l.length mkHit (hitsC l)))) (⟨⟨g0, g1, g2⟩, g3, g4⟩ : Lat)).a) == (0 : Int)) then (bif (((prO (listC ((listC l.length mkHit (hitsC l)).length) mkHit (hitsC (listC l.length mkHit (hitsC l)))) (⟨⟨g0, g1, g2⟩, g3, g4⟩ : Lat)).b) == (0 : Int)) then (bif (((prO (listC ((listC l.length mkHit (hitsC l)).length) mkHit (hitsC (listC l.length mkHit (hitsC l)))) (⟨⟨g0, g1, g2⟩, g3, g4⟩ : Lat)).s) == (0 : Int)) then (bif (((prO (listC ((listC l.length mkHit (hitsC l)).length) mkHit (hitsC (listC l.length mkHit (hitsC l)))) (⟨⟨g0, g1, g2⟩, g3, g4⟩ : Lat)).t) == (0 : Int)) then true else false) else false) else false) else false)))))) ((false = false) ∧ (post (.t (.c (.v (.bool false))))))) ((false = false) ∧ ((false = false) ∧ (post (.t (.c (.v (.bool false))))))))) ((false = false) ∧ (cond (!(hasP (allS (listC l.length mkHit (hitsC l)) (⟨⟨g0, g1, g2⟩, g3, g4⟩ : Lat)))) (cond ((pairE (listC ((listC l.length mkHit (hitsC l)).length) mkHit (hitsC (listC l.length mkHit (hitsC l)))) (⟨⟨g0, g1, g2⟩, g3, g4⟩ : Lat)) == (12 : Int)) (post (.t (.c (.v (.bool (bif (((prO (listC ((listC l.length mkHit (hitsC l)).length) mkHit (hitsC (listC l.length mkHit (hitsC l)))) (⟨⟨g0, g1, g2⟩, g3, g4⟩ : Lat)).a) == (0 : Int)) then (bif (((prO (listC ((listC l.length mkHit (hitsC l)).length) mkHit (hitsC (listC l.length mkHit (hitsC l)))) (⟨⟨g0, g1, g2⟩, g3, g4⟩ : Lat)).b) == (0 : Int)) then (bif (((prO (listC ((listC l.length mkHit (hitsC l)).length) mkHit (hitsC (listC l.length mkHit (hitsC l)))) (⟨⟨g0, g1, g2⟩, g3, g4⟩ : Lat)).s) == (0 : Int)) then (bif (((prO (listC ((listC l.length mkHit (hitsC l)).length) mkHit (hitsC (listC l.length mkHit (hitsC l)))) (⟨⟨g0, g1, g2⟩, g3, g4⟩ : Lat)).t) == (0 : Int)) then true else false) else false) else false) else false)))))) ((false = false) ∧ (post (.t (.c (.v (.bool false))))))) ((false = false) ∧ ((false = false) ∧ (post (.t (.c (.v (.bool false)))))))))) ((false = false) ∧ ((false = false) ∧ (cond (!(hasP (allS (listC l.length mkHit (hitsC l)) (⟨⟨g0, g1, g2⟩, g3, g4⟩ : Lat)))) (cond ((pairE (listC ((listC l.length mkHit (hitsC l)).length) mkHit (hitsC (listC l.length mkHit (hitsC l)))) (⟨⟨g0, g1, g2⟩, g3, g4⟩ : Lat)) == (12 : Int)) (post (.t (.c (.v (.bool (bif (((prO (listC ((listC l.length mkHit (hitsC l)).length) mkHit (hitsC (listC l.length mkHit (hitsC l)))) (⟨⟨g0, g1, g2⟩, g3, g4⟩ : Lat)).a) == (0 : Int)) then (bif (((prO (listC ((listC l.length mkHit (hitsC l)).length) mkHit (hitsC (listC l.length mkHit (hitsC l)))) (⟨⟨g0, g1, g2⟩, g3, g4⟩ : Lat)).b) == (0 : Int)) then (bif (((prO (listC ((listC l.length mkHit (hitsC l)).length) mkHit (hitsC (listC l.length mkHit (hitsC l)))) (⟨⟨g0, g1, g2⟩, g3, g4⟩ : Lat)).s) == (0 : Int)) then (bif (((prO (listC ((listC l.length mkHit (hitsC l)).length) mkHit (hitsC (listC l.length mkHit (hitsC l)))) (⟨⟨g0, g1, g2⟩, g3, g4⟩ : Lat)).t) == (0 : Int)) then true else false) else false) else false) else false)))))) ((false = false) ∧ (post (.t (.c (.v (.bool false))))))) ((false = false) ∧ ((false = false) ∧ (post (.t (.c (.v (.bool false))))))))))))) ((false = false) ∧ (cond ((dblB (listC ((listC l.length mkHit (hitsC l)).length) mkHit (hitsC (listC l.length mkHit (hitsC l)))) (⟨⟨g0, g1, g2⟩, g3, g4⟩ : Lat)) != false) (post (.t (.c (.v (.bool false))))) (cond (hasP (allS (listC l.length mkHit (hitsC l)) (⟨⟨g0, g1, g2⟩, g3, g4⟩ : Lat))) (cond ((pairE (listC ((listC l.length mkHit (hitsC l)).length) mkHit (hitsC (listC l.length mkHit (hitsC l)))) (⟨⟨g0, g1, g2⟩, g3, g4⟩ : Lat)) == (0 : Int)) (cond (bif (((prO (listC ((listC l.length mkHit (hitsC l)).length) mkHit (hitsC (listC l.length mkHit (hitsC l)))) (⟨⟨g0, g1, g2⟩, g3, g4⟩ : Lat)).a) == ((prV (allS (listC l.length mkHit (hitsC l)) (⟨⟨g0, g1, g2⟩, g3, g4⟩ : Lat))).a)) then (bif (((prO (listC ((listC l.length mkHit (hitsC l)).length) mkHit (hitsC (listC l.length mkHit (hitsC l)))) (⟨⟨g0, g1, g2⟩, g3, g4⟩ : Lat)).b) == ((prV (allS (listC l.length mkHit (hitsC l)) (⟨⟨g0, g1, g2⟩, g3, g4⟩ : Lat))).b)) then (bif (((prO (listC ((listC l.length mkHit (hitsC l)).length) mkHit (hitsC (listC l.length mkHit (hitsC l)))) (⟨⟨g0, g1, g2⟩, g3, g4⟩ : Lat)).s) == ((prV (allS (listC l.length mkHit (hitsC l)) (⟨⟨g0, g1, g2⟩, g3, g4⟩ : Lat))).s)) then (bif (((prO (listC ((listC l.length mkHit (hitsC l)).length) mkHit (hitsC (listC l.length mkHit (hitsC l)))) (⟨⟨g0, g1, g2⟩, g3, g4⟩ : Lat)).t) == ((prV (allS (listC l.length mkHit (hitsC l)) (⟨⟨g0, g1, g2⟩, g3, g4⟩ : Lat))).t)) then true else false) else false) else false) else false) ((true = true) ∧ (post (.t (.c (.v (.bool true)))))) (cond (!(hasP (allS (listC l.length mkHit (hitsC l)) (⟨⟨g0, g1, g2⟩, g3, g4⟩ : Lat)))) (cond ((pairE (listC ((listC l.length mkHit (hitsC l)).length) mkHit (hitsC (listC l.length mkHit (hitsC l)))) (⟨⟨g0, g1, g2⟩, g3, g4⟩ : Lat)) == (12 : Int)) (post (.t (.c (.v (.bool (bif (((prO (listC ((listC l.length mkHit (hitsC l)).length) mkHit (hitsC (listC l.length mkHit (hitsC l)))) (⟨⟨g0, g1, g2⟩, g3, g4⟩ : Lat)).a) == (0 : Int)) then (bif (((prO (listC ((listC l.length mkHit (hitsC l)).length) mkHit (hitsC (listC l.length mkHit (hitsC l)))) (⟨⟨g0, g1, g2⟩, g3, g4⟩ : Lat)).b) == (0 : Int)) then (bif (((prO (listC ((listC l.length mkHit (hitsC l)).length) mkHit (hitsC (listC l.length mkHit (hitsC l)))) (⟨⟨g0, g1, g2⟩, g3, g4⟩ : Lat)).s) == (0 : Int)) then (bif (((prO (listC ((listC l.length mkHit (hitsC l)).length) mkHit (hitsC (listC l.length mkHit (hitsC l)))) (⟨⟨g0, g1, g2⟩, g3, g4⟩ : Lat)).t) == (0 : Int)) then true else false) else false) else false) else false)))))) ((false = false) ∧ (post (.t (.c (.v (.bool false))))))) ((false = false) ∧ ((false = false) ∧ (post (.t (.c (.v (.bool false))))))))) ((false = false) ∧ (cond (!(hasP (allS (listC l.length mkHit (hitsC l)) (⟨⟨g0, g1, g2⟩, g3, g4⟩ : Lat)))) (cond ((pairE (listC ((listC l.length mkHit (hitsC l)).length) mkHit (hitsC (listC l.length mkHit (hitsC l)))) (⟨⟨g0, g1, g2⟩, g3, g4⟩ : Lat)) == (12 : Int)) (post (.t (.c (.v (.bool (bif (((prO (listC ((listC l.length mkHit (hitsC l)).length) mkHit (hitsC (listC l.length mkHit (hitsC l)))) (⟨⟨g0, g1, g2⟩, g3, g4⟩ : Lat)).a) == (0 : Int)) then (bif (((prO (listC ((listC l.length mkHit (hitsC l)).length) mkHit (hitsC (listC l.length mkHit (hitsC l)))) (⟨⟨g0, g1, g2⟩, g3, g4⟩ : Lat)).b) == (0 : Int)) then (bif (((prO (listC ((listC l.length mkHit (hitsC l)).length) mkHit (hitsC (listC l.length mkHit (hitsC l)))) (⟨⟨g0, g1, g2⟩, g3, g4⟩ : Lat)).s) == (0 : Int)) then (bif (((prO (listC ((listC l.length mkHit (hitsC l)).length) mkHit (hitsC (listC l.length mkHit (hitsC l)))) (⟨⟨g0, g1, g2⟩, g3, g4⟩ : Lat)).t) == (0 : Int)) then true else false) else false) else false) else false)))))) ((false = false) ∧ (post (.t (.c (.v (.bool false))))))) ((false = false) ∧ ((false = false) ∧ (post (.t (.c (.v (.bool false)))))))))) ((false = false) ∧ ((false = false) ∧ (cond (!(hasP (allS (listC l.length mkHit (hitsC l)) (⟨⟨g0, g1, g2⟩, g3, g4⟩ : Lat)))) (cond ((pairE (listC ((listC l.length mkHit (hitsC l)).length) mkHit (hitsC (listC l.length mkHit (hitsC l)))) (⟨⟨g0, g1, g2⟩, g3, g4⟩ : Lat)) == (12 : Int)) (post (.t (.c (.v (.bool (bif (((prO (listC ((listC l.length mkHit (hitsC l)).length) mkHit (hitsC (listC l.length mkHit (hitsC l)))) (⟨⟨g0, g1, g2⟩, g3, g4⟩ : Lat)).a) == (0 : Int)) then (bif (((prO (listC ((listC l.length mkHit (hitsC l)).length) mkHit (hitsC (listC l.length mkHit (hitsC l)))) (⟨⟨g0, g1, g2⟩, g3, g4⟩ : Lat)).b) == (0 : Int)) then (bif (((prO (listC ((listC l.length mkHit (hitsC l)).length) mkHit (hitsC (listC l.length mkHit (hitsC l)))) (⟨⟨g0, g1, g2⟩, g3, g4⟩ : Lat)).s) == (0 : Int)) then (bif (((prO (listC ((listC l.length mkHit (hitsC l)).length) mkHit (hitsC (listC l.length mkHit (hitsC l)))) (⟨⟨g0, g1, g2⟩, g3, g4⟩ : Lat)).t) == (0 : Int)) then true else false) else false) else false) else false)))))) ((false = false) ∧ (post (.t (.c (.v (.bool false))))))) ((false = false) ∧ ((false = false) ∧ (post (.t (.c (.v (.bool false))))))))))))))))))))))))))))))
def ann_law06_FlashPairs : Ann := ⟨fun r => lookA r [(5, ([[], [0], [], [0, 1, 2], [0, 1, 2, 3], [0, 1, 2, 3, 4], [0, 1, 2, 3, 4], [], [0, 1, 2, 3, 4, 5, 7], [0, 1, 2, 3, 4, 5, 6, 7, 8]], [[35, 37, 7], [37, 7], [35, 37, 7], [7], [7], [7], [7], [35, 37], [], []])), (6, ([[], [0], [], [], [0, 1, 2, 3], [0, 1, 2, 3, 4], [0, 1, 2, 3, 4, 5], [0, 1, 2, 3, 4, 5], [0, 1, 2, 3, 4, 5, 6], [0, 1, 2, 3, 4, 5, 6, 7, 8]], [[42, 45], [45], [42, 45], [42, 45], [], [], [], [], [], []])), (7, ([[], [0], [], [0, 1, 2], [0, 1, 2, 3], [0, 1, 2, 3, 4], [0, 1, 2, 3, 4], [0, 1, 2, 3, 4, 5], [0, 1, 2, 3, 4, 5, 6, 7]], [[50, 52], [52], [50, 52], [], [], [], [], [], []]))], fun _ => none, fun _ => [], I1, false, fun _ => none, fun _ => none⟩
theorem ev_law06_FlashPairs (J : Inv) (l : List FHit) (g0 g1 g2 g3 g4 : Int) (qa : Int) (qb : Int) (qs : Int) (qt : Int) (post : DV → Prop) : evFn Tryd.prog tab Sh151 ann_law06_FlashPairs J Tryd.f12 [.t (.c (.sl 7 l.length (hitsC l))), .t (.a [.v (.int .i64 g0), .v (.int .i64 g1), .v (.int .i64 g2), .v (.int .i64 g3), .v (.int .i64 g4)]), .t (.a [.v (.int .i64 qa), .v (.int .i64 qb), .v (.int .i64 qs), .v (.int .i64 qt)])] post = vc_law06_FlashPairs l g0 g1 g2 g3 g4 qa qb qs qt post := by kernel_rfl
theorem fit_law06_FlashPairs : okFn ann_law06_FlashPairs Tryd.f12 = true := by kernel_rfl
theorem lp_law06_FlashPairs (J : Inv) (post : DV → Prop) : AllG J (loopsFn Tryd.prog tab Sh151 ann_law06_FlashPairs J Tryd.f12 post) = (True) := by kernel_rfl
set_option maxHeartbeats 8000000 in
set_option maxRecDepth 100000 in
theorem spec_law06_FlashPairs (l : List FHit) (g0 g1 g2 g3 g4 : Int) (qa : Int) (qb : Int) (qs : Int) (qt : Int) : vc_law06_FlashPairs l g0 g1 g2 g3 g4 qa qb qs qt (fun r => LeD r (.t (.c (.v (.bool true))))) := by
  unfold vc_law06_FlashPairs
  simp only [nums_ints, hd_eq, hits_listC, ints_listC]
  have d1 := numsP_hits l
  refine ⟨d1, cond_i (fun _ => (by (repeat' first | exact LeD.refl _ | trivial | (refine And.intro ?_ ?_)))) (fun e1 => ?_)⟩
  have hl : l.length ≤ 1000 := by have : l.length ≤ 10 := by simpa using e1
                                  omega
  refine cond_i (fun e2 => cond_i (fun _ => LeD.refl _) (fun e3 => ?_)) (fun e2 => ⟨by trivial, ?_⟩)
  · rcases pr_cases l (⟨⟨g0, g1, g2⟩, g3, g4⟩ : Lat) qa qb qs qt with ⟨v1, v2, v3, v4, v5, v6⟩ | ⟨v1, v2, v3, v4, v5, v6, v7⟩ | ⟨v1, v2, v3, v4, v5, v6, v7⟩
    · have w : (bothE l (⟨⟨g0, g1, g2⟩, g3, g4⟩ : Lat) != 0) = true := by simpa using v1
      simp only [w, v2, v3, v4, v5, v6, beq_self_eq_true, bne_self_eq_false, Bool.not_true, Bool.not_false, _root_.cond_true, _root_.cond_false, Option.isSome_none, Option.isSome_some, Option.getD_some, decide_true, eq_self_iff_true, List.length_nil, wr00, n00, lt_v]
      (repeat' with_reducible first | assumption | trivial | (refine And.intro ?_ ?_))
      all_goals first | omega | exact LeD.refl _ | exact leB rfl | exact numsP_ints _
    · have w2 : (dblB l (⟨⟨g0, g1, g2⟩, g3, g4⟩ : Lat) != ((((vtxR l (⟨⟨g0, g1, g2⟩, g3, g4⟩ : Lat)).length : Nat) : Int) == 0)) = false := by
        rw [v7]
        by_cases c : (vtxR l (⟨⟨g0, g1, g2⟩, g3, g4⟩ : Lat)).length = 0 <;> simp [c]
      simp only [v1, v4, v5, v6, w2, beq_self_eq_true, bne_self_eq_false, Bool.not_true, Bool.not_false, _root_.cond_true, _root_.cond_false, Option.isSome_none, Option.isSome_some, Option.getD_some, decide_true, eq_self_iff_true, List.length_nil, wr00, n00, lt_v]
      (repeat' with_reducible first | assumption | trivial | (refine And.intro ?_ ?_))
      all_goals first | omega | exact LeD.refl _ | exact leB rfl | exact numsP_ints _
    · skip
      simp only [v1, v4, v5, v6, v7, beq_self_eq_true, bne_self_eq_false, Bool.not_true, Bool.not_false, _root_.cond_true, _root_.cond_false, Option.isSome_none, Option.isSome_some, Option.getD_some, decide_true, eq_self_iff_true, List.length_nil, wr00, n00, lt_v]
      (repeat' with_reducible first | assumption | trivial | (refine And.intro ?_ ?_))
      all_goals first | omega | exact LeD.refl _ | exact leB rfl | exact numsP_ints _
  · rcases pr_cases l (⟨⟨g0, g1, g2⟩, g3, g4⟩ : Lat) qa qb qs qt with ⟨v1, v2, v3, v4, v5, v6⟩ | ⟨v1, v2, v3, v4, v5, v6, v7⟩ | ⟨v1, v2, v3, v4, v5, v6, v7⟩
    · have w : (bothE l (⟨⟨g0, g1, g2⟩, g3, g4⟩ : Lat) != 0) = true := by simpa using v1
      simp only [w, v2, v3, v4, v5, v6, beq_self_eq_true, bne_self_eq_false, Bool.not_true, Bool.not_false, _root_.cond_true, _root_.cond_false, Option.isSome_none, Option.isSome_some, Option.getD_some, decide_true, eq_self_iff_true, List.length_nil, wr00, n00, lt_v]
      (repeat' with_reducible first | assumption | trivial | (refine And.intro ?_ ?_))
      all_goals first | omega | exact LeD.refl _ | exact leB rfl | exact numsP_ints _
    · rw [v3] at e2; cases e2
    · rw [v3] at e2; cases e2
theorem law_law06_FlashPairs (l : List FHit) (g0 g1 g2 g3 g4 : Int) (qa : Int) (qb : Int) (qs : Int) (qt : Int) (W : World) (N : Nat → Prop) (vs : List Value) (hG : Gd W) (h : All2 (RelD (RelF W N)) [.t (.c (.sl 7 l.length (hitsC l))), .t (.a [.v (.int .i64 g0), .v (.int .i64 g1), .v (.int .i64 g2), .v (.int .i64 g3), .v (.int .i64 g4)]), .t (.a [.v (.int .i64 qa), .v (.int .i64 qb), .v (.int .i64 qs), .v (.int .i64 qt)])] vs) : Calls Tryd.prog 12 vs.toArray W fun e w' => e = .returned (.bool true) ∧ Below W.heap.size W w' :=
 law_end (fn_sound mixed tabOK VSh151 (ann := ann_law06_FlashPairs) VI1 (fn := Tryd.f12) (J := fun _ _ _ => False) (by kernel_rfl) fit_law06_FlashPairs (args := [.t (.c (.sl 7 l.length (hitsC l))), .t (.a [.v (.int .i64 g0), .v (.int .i64 g1), .v (.int .i64 g2), .v (.int .i64 g3), .v (.int .i64 g4)]), .t (.a [.v (.int .i64 qa), .v (.int .i64 qb), .v (.int .i64 qs), .v (.int .i64 qt)])]) (post := (fun r => LeD r (.t (.c (.v (.bool true)))))) (by rw [ev_law06_FlashPairs]; exact spec_law06_FlashPairs l g0 g1 g2 g3 g4 qa qb qs qt) (by rw [lp_law06_FlashPairs]; trivial) (Nat.le_of_ble_eq_true (by kernel_rfl)) W N vs hG h)
end Go.Proofs.YtmhgjlapkhdlmaaDoor