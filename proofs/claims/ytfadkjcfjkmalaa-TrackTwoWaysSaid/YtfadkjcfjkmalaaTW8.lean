/- Texts of this claim, together. -/
import Derived.Test.YtfadkjcfjkmalaaTW7

set_option linter.unusedVariables false
set_option linter.unusedSimpArgs false
namespace Go.Proofs.Ytfadkjcfjkmalaa
open Go.RowKit Ev
def dotW (s t : V3) : Int := IntKind.i64.wrap (IntKind.i64.wrap (IntKind.i64.wrap (s.x * t.x) + IntKind.i64.wrap (s.y * t.y)) + IntKind.i64.wrap (s.z * t.z))
theorem dotW_eq {s t : V3} {A B : Int} (hs : s.inS A = true) (ht : t.inS B = true) (h : A * B ≤ 1000000000000000000) : dotW s t = s.dot t := by
 obtain ⟨a1, a2, a3⟩ := inS_iff.1 hs
 obtain ⟨b1, b2, b3⟩ := inS_iff.1 ht
 have m1 := mul_rg a1 b1 h
 have m2 := mul_rg a2 b2 h
 have m3 := mul_rg a3 b3 h
 unfold dotW V3.dot
 rw [wi (n := s.x * t.x) (by omega), wi (n := s.y * t.y) (by omega), wi (n := s.z * t.z) (by omega), wi (n := s.x * t.x + s.y * t.y) (by omega), wi (by omega)]
theorem fz2 {x : Int} : firstNZ [0, x] = x := by
 simp only [firstNZ]
 by_cases h : x = 0 <;> simp [h]
theorem fz3 {a b c : Int} (h : firstNZ [a, b] ≠ 0) : firstNZ [a, firstNZ [b, c]] = firstNZ [a, b] := by
 simp only [firstNZ] at h ⊢
 by_cases h1 : a = 0 <;> by_cases h2 : b = 0 <;> simp_all
theorem wri {n : Int} (h : -9000000000000000000 ≤ n ∧ n ≤ 9000000000000000000) : wr n = n := wi h
theorem slow_wi {m : TMod} (ho : m.Ok) : wr (wr (m.li * m.tk) * m.tk) = m.slow := by
 have k1 := ho.tk; have k2 := ho.li
 have k3 := mul_rg (x := m.li) (y := m.tk) (A := 100) (B := 20) (C := 2000) (by omega) (by omega) (by decide)
 have k4 := mul_rg (x := m.li * m.tk) (y := m.tk) (A := 2000) (B := 20) (C := 40000) k3 (by omega) (by decide)
 have s1 : wr (m.li * m.tk) = m.li * m.tk := wi (by omega)
 rw [s1]
 exact wi (by omega)
theorem dotW_sm {s t : V3} (h : s.sm t) : dotW s t = s.dot t := by
 unfold V3.sm at h
 obtain ⟨m1, m2, m3⟩ := h
 unfold dotW V3.dot
 rw [wi (n := s.x * t.x) (by omega), wi (n := s.y * t.y) (by omega), wi (n := s.z * t.z) (by omega), wi (n := s.x * t.x + s.y * t.y) (by omega), wi (by omega)]
theorem sm_in20 {s : V3} (h : s.inS 20 = true) : s.sm s := by
 have h1 := dot_sz h h (by omega) (by omega)
 unfold V3.sm; omega
theorem numsP3 {a b c : CV} {x y z : Int} (ha : a = .v (.int .i64 x)) (hb : b = .v (.int .i64 y)) (hc : c = .v (.int .i64 z)) : numsP 1 3 (fun i j => boxC [a, b, c] (0 + i * 1 + j)) := by
 subst ha hb hc
 intro i j hi hj
 obtain rfl : j = 0 := by omega
 rcases (by omega : i = 0 ∨ i = 1 ∨ i = 2) with rfl | rfl | rfl <;> rfl
def vc_track_within (a : Int) (b : Int) (c : Int) (post : DV → Prop) : Prop := cond (decide (b ≤ a)) (post (.t (.c (.v (.bool (decide (a ≤ c))))))) ((false = false) ∧ (post (.t (.c (.v (.bool false))))))
def ann_track_within : Ann := ⟨fun _ => none, fun _ => none, fun _ => [], noIt, false, fun _ => none, fun _ => none⟩
theorem ev_track_within (J : Inv) (a : Int) (b : Int) (c : Int) (post : DV → Prop) : evFn Try.prog tab noS ann_track_within J Try.f34 [.t (.c (.v (.int .i64 a))), .t (.c (.v (.int .i64 b))), .t (.c (.v (.int .i64 c)))] post = vc_track_within a b c post := by kernel_rfl
theorem fit_track_within : okFn ann_track_within Try.f34 = true := by kernel_rfl
theorem lp_track_within (J : Inv) (post : DV → Prop) : AllG J (loopsFn Try.prog tab noS ann_track_within J Try.f34 post) = (True) := by kernel_rfl
theorem spec_track_within (a : Int) (b : Int) (c : Int) : vc_track_within a b c (fun r => LeD r (.t (.c (.v (.bool (inB a b c)))))) := by
 unfold vc_track_within
 refine cond_i (fun h => leB ?_) (fun h => ⟨rfl, leB ?_⟩)
 ·unfold inB; rw [h]; rfl
 ·unfold inB; rw [h]; rfl
def con_track_within : Con := fun args => match args with
 | [.t (.c (.v (.int .i64 a))), .t (.c (.v (.int .i64 b))), .t (.c (.v (.int .i64 c)))] => some (.t (.c (.v (.bool (inB a b c)))), none, false)
 | _ => none
theorem ok_track_within : Ok Try.prog 34 con_track_within := by
 refine Ok.fn (ann := ann_track_within) mixed tabOK Valid.no ValidIt.no (fn := Try.f34) (by kernel_rfl) (by kernel_rfl) fit_track_within fun args r pre fresh h hp => ?_
 unfold con_track_within at h
 split at h
 ·rename_i a b c
  cases h
  refine ⟨rfl, fun _ _ _ => False, _, LeA.refl _, Nat.le_of_ble_eq_true (by kernel_rfl), ?_, ?_⟩
  ·rw [ev_track_within]; exact spec_track_within a b c
  ·rw [lp_track_within]; trivial
 ·cases h
def Skp1 : Sum := addS noS 34 con_track_within
theorem VSkp1 : Valid Try.prog Skp1 := Valid.add Valid.no ok_track_within
def vc_track_unless (b : Bool) (n : Int) (post : DV → Prop) : Prop := cond b (post (.t (.c (.v (.int .i64 0))))) (post (.t (.c (.v (.int .i64 n)))))
def ann_track_unless : Ann := ⟨fun _ => none, fun _ => none, fun _ => [], noIt, false, fun _ => none, fun _ => none⟩
theorem ev_track_unless (J : Inv) (b : Bool) (n : Int) (post : DV → Prop) : evFn Try.prog tab Skp1 ann_track_unless J Try.f33 [.t (.c (.v (.bool b))), .t (.c (.v (.int .i64 n)))] post = vc_track_unless b n post := by kernel_rfl
theorem fit_track_unless : okFn ann_track_unless Try.f33 = true := by kernel_rfl
theorem lp_track_unless (J : Inv) (post : DV → Prop) : AllG J (loopsFn Try.prog tab Skp1 ann_track_unless J Try.f33 post) = (True) := by kernel_rfl
theorem spec_track_unless (b : Bool) (n : Int) : vc_track_unless b n (fun r => LeD r (.t (.c (.v (.int .i64 (unl b n)))))) := by
 unfold vc_track_unless
 exact cond_i (fun h => leI (by rw [h]; rfl)) (fun h => leI (by rw [h]; rfl))
def con_track_unless : Con := fun args => match args with
 | [.t (.c (.v (.bool b))), .t (.c (.v (.int .i64 n)))] => some (.t (.c (.v (.int .i64 (unl b n)))), none, false)
 | _ => none
theorem ok_track_unless : Ok Try.prog 33 con_track_unless := by
 refine Ok.fn (ann := ann_track_unless) mixed tabOK VSkp1 ValidIt.no (fn := Try.f33) (by kernel_rfl) (by kernel_rfl) fit_track_unless fun args r pre fresh h hp => ?_
 unfold con_track_unless at h
 split at h
 ·rename_i b n
  cases h
  refine ⟨rfl, fun _ _ _ => False, _, LeA.refl _, Nat.le_of_ble_eq_true (by kernel_rfl), ?_, ?_⟩
  ·rw [ev_track_unless]; exact spec_track_unless b n
  ·rw [lp_track_unless]; trivial
 ·cases h
def Skp2 : Sum := addS Skp1 33 con_track_unless
theorem VSkp2 : Valid Try.prog Skp2 := Valid.add VSkp1 ok_track_unless
def mk_track_first_0 (l : List Int) (v0_0 : Int) : DS := ⟨[none, none, none, none, none, some (.t (.c (.sl 1 l.length (intsC l)))), some (.t (.c (.v (.int .i64 ((l.length : Nat) : Int))))), some (.t (.c (.v (.int .i64 v0_0)))), none, none, none, none, none, none, none], [none, none, none, none, none, none, none, none, none, none, none, none, none, none, none]⟩
def vc_track_first (J : Inv) (l : List Int) (post : DV → Prop) : Prop := ∃ n, J 0 (n :: []) (mk_track_first_0 l 0)
def ann_track_first : Ann := ⟨fun _ => none, fun b => lookA b [(0, (none, some ⟨[5, 6, 7], [], []⟩))], fun _ => [], noIt, false, fun _ => none, fun _ => none⟩
theorem ev_track_first (J : Inv) (l : List Int) (post : DV → Prop) : evFn Try.prog tab Skp2 ann_track_first J Try.f32 [.t (.c (.sl 1 l.length (intsC l)))] post = vc_track_first J l post := by kernel_rfl
theorem fit_track_first : okFn ann_track_first Try.f32 = true := by kernel_rfl
def rd_track_first_0 (J : Inv) (l : List Int) (v0_0 : Int) (nn0 : Nat) (post : DV → Prop) : Prop := cond (decide (v0_0 < ((l.length : Nat) : Int))) ((0 ≤ v0_0 ∧ v0_0 < ((l.length : Nat) : Int)) ∧ (cond ((l.getD v0_0.toNat 0) != (0 : Int)) (post (.t (.c (.v (.int .i64 (l.getD v0_0.toNat 0)))))) (lt (IntKind.i64.wrap (v0_0 + (1 : Int))) fun x1 => J 0 (nn0 :: []) (mk_track_first_0 l x1)))) (post (.t (.c (.v (.int .i64 0)))))
theorem er_track_first_0 (J : Inv) (l : List Int) (v0_0 : Int) (nn0 : Nat) (post : DV → Prop) : round Try.prog tab Skp2 ann_track_first J Try.f32 post 0 (nn0 :: []) (mk_track_first_0 l v0_0) = rd_track_first_0 J l v0_0 nn0 post := by kernel_rfl
theorem lp_track_first (J : Inv) (post : DV → Prop) : AllG J (loopsFn Try.prog tab Skp2 ann_track_first J Try.f32 post) = (((∀ F s, ¬ J 0 (0 :: F) s) ∧ ∀ n F s, J 0 ((n + 1) :: F) s → round Try.prog tab Skp2 ann_track_first J Try.f32 post 0 (n :: F) s) ∧ True) := by kernel_rfl
def J_track_first (l : List Int) : Inv := fun b F s => match b, F with
 | 0, [nn0] => ∃ (v0_0 : Int), s = mk_track_first_0 l v0_0 ∧ (0 ≤ v0_0 ∧ v0_0 ≤ l.length ∧ (nn0 : Int) + v0_0 = l.length + 1 ∧ ∀ j : Nat, (j : Int) < v0_0 → l.getD j 0 = 0)
 | _, _ => False
theorem rnd_track_first_0 (l : List Int) (v0_0 : Int) (nn0 : Nat) (hp : (l).length ≤ 100) (hi : 0 ≤ v0_0 ∧ v0_0 ≤ l.length ∧ ((nn0 + 1) : Int) + v0_0 = l.length + 1 ∧ ∀ j : Nat, (j : Int) < v0_0 → l.getD j 0 = 0) : rd_track_first_0 (J_track_first l) l v0_0 nn0 (fun r => LeD r (.t (.c (.v (.int .i64 (firstNZ l)))))) := by
 obtain ⟨i1, i2, i3, i4⟩ := hi
 obtain ⟨k, rfl⟩ : ∃ k : Nat, v0_0 = k := ⟨v0_0.toNat, by omega⟩
 have hk : (k : Int).toNat = k := rfl
 unfold rd_track_first_0
 rw [hk]
 have el : firstNZ l = scan (fun i => l.getD i 0) l.length := by
  unfold scan
  congr 1
  apply List.ext_getElem?
  intro i
  by_cases hi : i < l.length
  ·simp [hi, List.getD]
  ·rw [List.getElem?_eq_none (by omega), List.getElem?_eq_none (by simpa using hi)]
 refine cond_i (fun h => ⟨by have := of_decide_eq_true h; omega, cond_i (fun e => leI ?_) (fun e => lt_i fun x hx => ?_)⟩) (fun h => leI ?_)
 ·have h := of_decide_eq_true h
  rw [el, scan_at (k := k) (fun j hj => i4 j (by omega)) (by omega) (by simpa using e)]
 ·have h := of_decide_eq_true h
  rw [IntWalk.i64_in _ (by have := l.length; omega)] at hx
  subst hx
  refine ⟨_, rfl, by omega, by omega, by omega, fun j hj => ?_⟩
  by_cases q : j = k
  ·rw [q]; simpa using e
  ·exact i4 j (by omega)
 ·have h := of_decide_eq_false h
  rw [el, scan_end fun j hj => i4 j (by omega)]
theorem zero_track_first_0 (l : List Int) (v0_0 : Int)  (hi : 0 ≤ v0_0 ∧ v0_0 ≤ l.length ∧ (0 : Int) + v0_0 = l.length + 1 ∧ ∀ j : Nat, (j : Int) < v0_0 → l.getD j 0 = 0) : False := by
 omega
theorem spec_track_first (l : List Int) (hp : (l).length ≤ 100) : vc_track_first (J_track_first l) l (fun r => LeD r (.t (.c (.v (.int .i64 (firstNZ l)))))) := by
 unfold vc_track_first
 exact ⟨l.length + 1, 0, rfl, by omega, by omega, by omega, fun j hj => by omega⟩
theorem all_track_first (l : List Int) (hp : (l).length ≤ 100) : AllG (J_track_first l) (loopsFn Try.prog tab Skp2 ann_track_first (J_track_first l) Try.f32 (fun r => LeD r (.t (.c (.v (.int .i64 (firstNZ l))))))) := by
 rw [lp_track_first]
 refine ⟨⟨?_, ?_⟩, trivial⟩
 ·intro F s h
  obtain _ | ⟨g, F⟩ := F
  case cons => exact h.elim
  obtain ⟨w0, rfl, hi⟩ := h
  exact zero_track_first_0 l w0 hi
 ·intro n F s h
  obtain _ | ⟨g, F⟩ := F
  case cons => exact h.elim
  obtain ⟨w0, rfl, hi⟩ := h
  rw [er_track_first_0]
  exact rnd_track_first_0 l _ _ hp hi
def con_track_first : Con := fun args => match args with
 | [.t (.c (.sl 1 n_l c_l))] => some (.t (.c (.v (.int .i64 (firstNZ (listC n_l mkInt c_l))))), some (numsP 1 n_l c_l ∧ ((listC n_l mkInt c_l)).length ≤ 100), false)
 | _ => none
theorem ok_track_first : Ok Try.prog 32 con_track_first := by
 refine Ok.fn (ann := ann_track_first) mixed tabOK VSkp2 ValidIt.no (fn := Try.f32) (by kernel_rfl) (by kernel_rfl) fit_track_first fun args r pre fresh h hp => ?_
 unfold con_track_first at h
 split at h
 ·rename_i n_l c_l
  cases h
  obtain ⟨hp0, hp⟩ := hp
  refine ⟨rfl, J_track_first (listC n_l mkInt c_l), [.t (.c (.sl 1 ((listC n_l mkInt c_l).length) (intsC (listC n_l mkInt c_l))))], ?_, Nat.le_of_ble_eq_true (by kernel_rfl), ?_, ?_⟩
  ·exact (LeA_cons (leT_c ((leL_int hp0))) LeA_nil)
  ·rw [ev_track_first]; exact spec_track_first (listC n_l mkInt c_l) hp
  ·exact all_track_first (listC n_l mkInt c_l) hp
 ·cases h
def Skp3 : Sum := addS Skp2 32 con_track_first
theorem VSkp3 : Valid Try.prog Skp3 := Valid.add VSkp2 ok_track_first
def vc_track_vector_fits_1 (n : Int) (k : Int) (post : DV → Prop) : Prop := lt (IntKind.i64.wrap ((0 : Int) - k)) fun x1 => post (.t (.c (.v (.bool (!(inB n x1 k))))))
def ann_track_vector_fits_1 : Ann := ⟨fun _ => none, fun _ => none, fun _ => [], noIt, false, fun _ => none, fun _ => none⟩
theorem ev_track_vector_fits_1 (J : Inv) (n : Int) (k : Int) (post : DV → Prop) : evFn Try.prog tab Skp3 ann_track_vector_fits_1 J Try.f88 [.t (.c (.v (.int .i64 n))), .t (.c (.px 1 0 (boxC [.v (.int .i64 k)])))] post = vc_track_vector_fits_1 n k post := by kernel_rfl
theorem fit_track_vector_fits_1 : okFn ann_track_vector_fits_1 Try.f88 = true := by kernel_rfl
theorem lp_track_vector_fits_1 (J : Inv) (post : DV → Prop) : AllG J (loopsFn Try.prog tab Skp3 ann_track_vector_fits_1 J Try.f88 post) = (True) := by kernel_rfl
theorem spec_track_vector_fits_1 (n : Int) (k : Int) (hp : 0 ≤ k ∧ k ≤ 100000) : vc_track_vector_fits_1 n k (fun r => LeD r (.t (.c (.v (.bool (!inB n (-k) k)))))) := by
 unfold vc_track_vector_fits_1
 refine lt_i fun x hx => leB ?_
 rw [wi (by omega)] at hx
 rw [← hx, Int.zero_sub]
def con_track_vector_fits_1 : Con := fun args => match args with
 | [.t (.c (.v (.int .i64 n))), .t (.c (.px 1 0 c_q))] => some (.t (.c (.v (.bool (!inB n (-(cvInt (c_q 0))) (cvInt (c_q 0)))))), some (intsB [0] c_q = true ∧ 0 ≤ (cvInt (c_q 0)) ∧ (cvInt (c_q 0)) ≤ 100000), false)
 | _ => none
theorem ok_track_vector_fits_1 : Ok Try.prog 88 con_track_vector_fits_1 := by
 refine Ok.fn (ann := ann_track_vector_fits_1) mixed tabOK VSkp3 ValidIt.no (fn := Try.f88) (by kernel_rfl) (by kernel_rfl) fit_track_vector_fits_1 fun args r pre fresh h hp => ?_
 unfold con_track_vector_fits_1 at h
 split at h
 ·rename_i n c_q
  cases h
  obtain ⟨hp0, hp⟩ := hp
  refine ⟨rfl, fun _ _ _ => False, [.t (.c (.v (.int .i64 n))), .t (.c (.px 1 0 (boxC [.v (.int .i64 (cvInt (c_q 0)))])))], ?_, Nat.le_of_ble_eq_true (by kernel_rfl), ?_, ?_⟩
  ·exact (LeA_cons (LeD.refl _) (LeA_cons (leT_c (leC_p (LeCs.cons (leC_i (intsB_get hp0 0 (by decide))) LeCs.nil))) LeA_nil))
  ·rw [ev_track_vector_fits_1]; exact spec_track_vector_fits_1 n (cvInt (c_q 0)) hp
  ·rw [lp_track_vector_fits_1]; trivial
 ·cases h
def Skp4 : Sum := addS Skp3 88 con_track_vector_fits_1
theorem VSkp4 : Valid Try.prog Skp4 := Valid.add VSkp3 ok_track_vector_fits_1
def mk_slices_IndexFunc_int_int_a_0 (l : List Int) (k : Int) (v0_0 : Int) : DS := ⟨[some (.t (.c (.sl 1 l.length (intsC l)))), some (.t (.fn 88 [.px 1 0 (boxC [.v (.int .i64 k)])])), none, none, none, none, none, some (.t (.c (.v (.int .i64 ((l.length : Nat) : Int))))), some (.t (.c (.v (.int .i64 v0_0)))), none, none, none, none, none, none, none, none, none, none], [none, none, none, none, none, none, none, none, none, none, none, none, none, none, none, none, none, none, none]⟩
def vc_slices_IndexFunc_int_int_a (J : Inv) (l : List Int) (k : Int) (post : DV → Prop) : Prop := ∃ n, J 0 (n :: []) (mk_slices_IndexFunc_int_int_a_0 l k 0)
def ann_slices_IndexFunc_int_int_a : Ann := ⟨fun _ => none, fun b => lookA b [(0, (none, some ⟨[0, 1, 7, 8], [], []⟩))], fun _ => [], noIt, false, fun _ => none, fun _ => none⟩
theorem ev_slices_IndexFunc_int_int_a (J : Inv) (l : List Int) (k : Int) (post : DV → Prop) : evFn Try.prog tab Skp4 ann_slices_IndexFunc_int_int_a J Try.f94 [.t (.c (.sl 1 l.length (intsC l))), .t (.fn 88 [.px 1 0 (boxC [.v (.int .i64 k)])])] post = vc_slices_IndexFunc_int_int_a J l k post := by kernel_rfl
theorem fit_slices_IndexFunc_int_int_a : okFn ann_slices_IndexFunc_int_int_a Try.f94 = true := by kernel_rfl
def rd_slices_IndexFunc_int_int_a_0 (J : Inv) (l : List Int) (k : Int) (v0_0 : Int) (nn0 : Nat) (post : DV → Prop) : Prop := cond (decide (v0_0 < ((l.length : Nat) : Int))) ((0 ≤ v0_0 ∧ v0_0 < ((l.length : Nat) : Int)) ∧ ((intsB [0] (boxC [.v (.int .i64 k)]) = true ∧ 0 ≤ k ∧ k ≤ 100000) ∧ (cond (!inB (l.getD v0_0.toNat 0) (-k) k) (post (.t (.c (.v (.int .i64 v0_0))))) (lt (IntKind.i64.wrap (v0_0 + (1 : Int))) fun x1 => J 0 (nn0 :: []) (mk_slices_IndexFunc_int_int_a_0 l k x1))))) (post (.t (.c (.v (.int .i64 (-1))))))
theorem er_slices_IndexFunc_int_int_a_0 (J : Inv) (l : List Int) (k : Int) (v0_0 : Int) (nn0 : Nat) (post : DV → Prop) : round Try.prog tab Skp4 ann_slices_IndexFunc_int_int_a J Try.f94 post 0 (nn0 :: []) (mk_slices_IndexFunc_int_int_a_0 l k v0_0) = rd_slices_IndexFunc_int_int_a_0 J l k v0_0 nn0 post := by kernel_rfl
theorem lp_slices_IndexFunc_int_int_a (J : Inv) (post : DV → Prop) : AllG J (loopsFn Try.prog tab Skp4 ann_slices_IndexFunc_int_int_a J Try.f94 post) = (((∀ F s, ¬ J 0 (0 :: F) s) ∧ ∀ n F s, J 0 ((n + 1) :: F) s → round Try.prog tab Skp4 ann_slices_IndexFunc_int_int_a J Try.f94 post 0 (n :: F) s) ∧ True) := by kernel_rfl
def J_slices_IndexFunc_int_int_a (l : List Int) (k : Int) : Inv := fun b F s => match b, F with
 | 0, [nn0] => ∃ (v0_0 : Int), s = mk_slices_IndexFunc_int_int_a_0 l k v0_0 ∧ (l.length ≤ 1000000 ∧ 0 ≤ v0_0 ∧ v0_0 ≤ l.length ∧ (nn0 : Int) + v0_0 = l.length + 1 ∧ ∀ j : Nat, (j : Int) < v0_0 → (!inB (l.getD j 0) (-k) k) = false)
 | _, _ => False
theorem rnd_slices_IndexFunc_int_int_a_0 (l : List Int) (k : Int) (v0_0 : Int) (nn0 : Nat) (hp : (l).length ≤ 1000000 ∧ 0 ≤ k ∧ k ≤ 100000) (hi : l.length ≤ 1000000 ∧ 0 ≤ v0_0 ∧ v0_0 ≤ l.length ∧ ((nn0 + 1) : Int) + v0_0 = l.length + 1 ∧ ∀ j : Nat, (j : Int) < v0_0 → (!inB (l.getD j 0) (-k) k) = false) : rd_slices_IndexFunc_int_int_a_0 (J_slices_IndexFunc_int_int_a l k) l k v0_0 nn0 (fun r => LeD r (.t (.c (.v (.int .i64 (idxP (fun n => !inB n (-k) k) l)))))) := by
 obtain ⟨i0, i1, i2, i3, i4⟩ := hi
 obtain ⟨c, rfl⟩ : ∃ c : Nat, v0_0 = c := ⟨v0_0.toNat, by omega⟩
 have hc : (c : Int).toNat = c := rfl
 unfold rd_slices_IndexFunc_int_int_a_0
 rw [hc]
 refine cond_i (fun h => ?_) (fun h => leI ?_)
 ·have hlt : c < l.length := by have := of_decide_eq_true h; omega
  refine ⟨by omega, ⟨rfl, hp.2⟩, cond_i (fun e => leI ?_) (fun e => lt_i fun x hx => ?_)⟩
  ·exact (idxP_at (d := (0 : Int)) hlt (fun j hj => i4 j (by omega)) (by simpa using e)).symm
  ·rw [wi (by omega)] at hx
   subst hx
   exact ⟨_, rfl, i0, by omega, by omega, by omega, fun j hj => by
    by_cases q : j = c
    ·rw [q]; simpa using e
    ·exact i4 j (by omega)⟩
 ·have hge : c = l.length := by have := of_decide_eq_false h; omega
  subst hge
  exact (idxP_none (d := (0 : Int)) fun j hj => i4 j (by omega)).symm
theorem zero_slices_IndexFunc_int_int_a_0 (l : List Int) (k : Int) (v0_0 : Int)  (hi : l.length ≤ 1000000 ∧ 0 ≤ v0_0 ∧ v0_0 ≤ l.length ∧ (0 : Int) + v0_0 = l.length + 1 ∧ ∀ j : Nat, (j : Int) < v0_0 → (!inB (l.getD j 0) (-k) k) = false) : False := by
 omega
theorem spec_slices_IndexFunc_int_int_a (l : List Int) (k : Int) (hp : (l).length ≤ 1000000 ∧ 0 ≤ k ∧ k ≤ 100000) : vc_slices_IndexFunc_int_int_a (J_slices_IndexFunc_int_int_a l k) l k (fun r => LeD r (.t (.c (.v (.int .i64 (idxP (fun n => !inB n (-k) k) l)))))) := by
 unfold vc_slices_IndexFunc_int_int_a
 exact ⟨l.length + 1, 0, rfl, hp.1, by omega, by omega, by omega, fun j hj => by omega⟩
theorem all_slices_IndexFunc_int_int_a (l : List Int) (k : Int) (hp : (l).length ≤ 1000000 ∧ 0 ≤ k ∧ k ≤ 100000) : AllG (J_slices_IndexFunc_int_int_a l k) (loopsFn Try.prog tab Skp4 ann_slices_IndexFunc_int_int_a (J_slices_IndexFunc_int_int_a l k) Try.f94 (fun r => LeD r (.t (.c (.v (.int .i64 (idxP (fun n => !inB n (-k) k) l))))))) := by
 rw [lp_slices_IndexFunc_int_int_a]
 refine ⟨⟨?_, ?_⟩, trivial⟩
 ·intro F s h
  obtain _ | ⟨g, F⟩ := F
  case cons => exact h.elim
  obtain ⟨w0, rfl, hi⟩ := h
  exact zero_slices_IndexFunc_int_int_a_0 l k w0 hi
 ·intro n F s h
  obtain _ | ⟨g, F⟩ := F
  case cons => exact h.elim
  obtain ⟨w0, rfl, hi⟩ := h
  rw [er_slices_IndexFunc_int_int_a_0]
  exact rnd_slices_IndexFunc_int_int_a_0 l k _ _ hp hi
def con_slices_IndexFunc_int_int_a : Con := fun args => match args with
 | [.t (.c (.sl 1 n_l c_l)), .t (.fn 88 [.px 1 0 c_q])] => some (.t (.c (.v (.int .i64 (idxP (fun n => !inB n (-(cvInt (c_q 0))) (cvInt (c_q 0))) (listC n_l mkInt c_l))))), some (numsP 1 n_l c_l ∧ intsB [0] c_q = true ∧ ((listC n_l mkInt c_l)).length ≤ 1000000 ∧ 0 ≤ (cvInt (c_q 0)) ∧ (cvInt (c_q 0)) ≤ 100000), false)
 | _ => none
theorem ok_slices_IndexFunc_int_int_a : Ok Try.prog 94 con_slices_IndexFunc_int_int_a := by
 refine Ok.fn (ann := ann_slices_IndexFunc_int_int_a) mixed tabOK VSkp4 ValidIt.no (fn := Try.f94) (by kernel_rfl) (by kernel_rfl) fit_slices_IndexFunc_int_int_a fun args r pre fresh h hp => ?_
 unfold con_slices_IndexFunc_int_int_a at h
 split at h
 ·rename_i n_l c_l c_q
  cases h
  obtain ⟨hp0, hp1, hp⟩ := hp
  refine ⟨rfl, J_slices_IndexFunc_int_int_a (listC n_l mkInt c_l) (cvInt (c_q 0)), [.t (.c (.sl 1 ((listC n_l mkInt c_l).length) (intsC (listC n_l mkInt c_l)))), .t (.fn 88 [.px 1 0 (boxC [.v (.int .i64 (cvInt (c_q 0)))])])], ?_, Nat.le_of_ble_eq_true (by kernel_rfl), ?_, ?_⟩
  ·exact (LeA_cons (leT_c ((leL_int hp0))) (LeA_cons (leT_f (LeCs.cons (leC_p (LeCs.cons (leC_i (intsB_get hp1 0 (by decide))) LeCs.nil)) LeCs.nil)) LeA_nil))
  ·rw [ev_slices_IndexFunc_int_int_a]; exact spec_slices_IndexFunc_int_int_a (listC n_l mkInt c_l) (cvInt (c_q 0)) hp
  ·exact all_slices_IndexFunc_int_int_a (listC n_l mkInt c_l) (cvInt (c_q 0)) hp
 ·cases h
def Skp5 : Sum := addF Skp4 94 con_slices_IndexFunc_int_int_a
theorem VSkp5 : Valid Try.prog Skp5 := Valid.addF VSkp4 ok_slices_IndexFunc_int_int_a
def vc_slices_ContainsFunc_int_int_a (l : List Int) (k : Int) (post : DV → Prop) : Prop := (numsP 1 l.length (intsC l) ∧ intsB [0] (boxC [.v (.int .i64 k)]) = true ∧ ((listC l.length mkInt (intsC l))).length ≤ 1000000 ∧ 0 ≤ k ∧ k ≤ 100000) ∧ (post (.t (.c (.v (.bool (decide ((idxP (fun n => !inB n (-k) k) (listC l.length mkInt (intsC l))) ≥ (0 : Int))))))))
def ann_slices_ContainsFunc_int_int_a : Ann := ⟨fun _ => none, fun _ => none, fun _ => [], noIt, false, fun _ => none, fun _ => none⟩
theorem ev_slices_ContainsFunc_int_int_a (J : Inv) (l : List Int) (k : Int) (post : DV → Prop) : evFn Try.prog tab Skp5 ann_slices_ContainsFunc_int_int_a J Try.f87 [.t (.c (.sl 1 l.length (intsC l))), .t (.fn 88 [.px 1 0 (boxC [.v (.int .i64 k)])])] post = vc_slices_ContainsFunc_int_int_a l k post := by kernel_rfl
theorem fit_slices_ContainsFunc_int_int_a : okFn ann_slices_ContainsFunc_int_int_a Try.f87 = true := by kernel_rfl
theorem lp_slices_ContainsFunc_int_int_a (J : Inv) (post : DV → Prop) : AllG J (loopsFn Try.prog tab Skp5 ann_slices_ContainsFunc_int_int_a J Try.f87 post) = (True) := by kernel_rfl
theorem spec_slices_ContainsFunc_int_int_a (l : List Int) (k : Int) (hp : (l).length ≤ 1000000 ∧ 0 ≤ k ∧ k ≤ 100000) : vc_slices_ContainsFunc_int_int_a l k (fun r => LeD r (.t (.c (.v (.bool ((l).any fun n => !inB n (-k) k)))))) := by
 unfold vc_slices_ContainsFunc_int_int_a
 rw [ints_listC]
 refine ⟨⟨numsP_ints l, rfl, hp⟩, leB ?_⟩
 rw [idxP_any]
def con_slices_ContainsFunc_int_int_a : Con := fun args => match args with
 | [.t (.c (.sl 1 n_l c_l)), .t (.fn 88 [.px 1 0 c_q])] => some (.t (.c (.v (.bool (((listC n_l mkInt c_l)).any fun n => !inB n (-(cvInt (c_q 0))) (cvInt (c_q 0)))))), some (numsP 1 n_l c_l ∧ intsB [0] c_q = true ∧ ((listC n_l mkInt c_l)).length ≤ 1000000 ∧ 0 ≤ (cvInt (c_q 0)) ∧ (cvInt (c_q 0)) ≤ 100000), false)
 | _ => none
theorem ok_slices_ContainsFunc_int_int_a : Ok Try.prog 87 con_slices_ContainsFunc_int_int_a := by
 refine Ok.fn (ann := ann_slices_ContainsFunc_int_int_a) mixed tabOK VSkp5 ValidIt.no (fn := Try.f87) (by kernel_rfl) (by kernel_rfl) fit_slices_ContainsFunc_int_int_a fun args r pre fresh h hp => ?_
 unfold con_slices_ContainsFunc_int_int_a at h
 split at h
 ·rename_i n_l c_l c_q
  cases h
  obtain ⟨hp0, hp1, hp⟩ := hp
  refine ⟨rfl, fun _ _ _ => False, [.t (.c (.sl 1 ((listC n_l mkInt c_l).length) (intsC (listC n_l mkInt c_l)))), .t (.fn 88 [.px 1 0 (boxC [.v (.int .i64 (cvInt (c_q 0)))])])], ?_, Nat.le_of_ble_eq_true (by kernel_rfl), ?_, ?_⟩
  ·exact (LeA_cons (leT_c ((leL_int hp0))) (LeA_cons (leT_f (LeCs.cons (leC_p (LeCs.cons (leC_i (intsB_get hp1 0 (by decide))) LeCs.nil)) LeCs.nil)) LeA_nil))
  ·rw [ev_slices_ContainsFunc_int_int_a]; exact spec_slices_ContainsFunc_int_int_a (listC n_l mkInt c_l) (cvInt (c_q 0)) hp
  ·rw [lp_slices_ContainsFunc_int_int_a]; trivial
 ·cases h
def Skp6 : Sum := addF Skp5 87 con_slices_ContainsFunc_int_int_a
theorem VSkp6 : Valid Try.prog Skp6 := Valid.addF VSkp5 ok_slices_ContainsFunc_int_int_a
def vc_track_vector_fits (v0 v1 v2 : Int) (k : Int) (post : DV → Prop) : Prop := (numsP 1 3 (fun i j => boxC [.v (.int .i64 v0), .v (.int .i64 v1), .v (.int .i64 v2)] (0 + i * 1 + j)) ∧ intsB [0] (boxC [.v (.int .i64 k)]) = true ∧ (([v0, v1, v2] : List Int)).length ≤ 1000000 ∧ 0 ≤ k ∧ k ≤ 100000) ∧ (post (.t (.c (.v (.bool (!((([v0, v1, v2] : List Int)).any fun n => !inB n (-k) k)))))))
def ann_track_vector_fits : Ann := ⟨fun _ => none, fun _ => none, fun _ => [], noIt, false, fun _ => none, fun _ => none⟩
theorem ev_track_vector_fits (J : Inv) (v0 v1 v2 : Int) (k : Int) (post : DV → Prop) : evFn Try.prog tab Skp6 ann_track_vector_fits J Try.f75 [.t (.a [.v (.int .i64 v0), .v (.int .i64 v1), .v (.int .i64 v2)]), .t (.c (.v (.int .i64 k)))] post = vc_track_vector_fits v0 v1 v2 k post := by kernel_rfl
theorem fit_track_vector_fits : okFn ann_track_vector_fits Try.f75 = true := by kernel_rfl
theorem lp_track_vector_fits (J : Inv) (post : DV → Prop) : AllG J (loopsFn Try.prog tab Skp6 ann_track_vector_fits J Try.f75 post) = (True) := by kernel_rfl
theorem spec_track_vector_fits (v0 v1 v2 : Int) (k : Int) (hp : 0 ≤ k ∧ k ≤ 100000) : vc_track_vector_fits v0 v1 v2 k (fun r => LeD r (.t (.c (.v (.bool (((⟨v0, v1, v2⟩ : V3) : V3).inS k)))))) := by
 unfold vc_track_vector_fits
 refine ⟨⟨numsP3 rfl rfl rfl, rfl, Nat.le_of_ble_eq_true rfl, hp⟩, leB ?_⟩
 unfold V3.inS
 show (!(List.any [v0, v1, v2] fun n => !inB n (-k) k)) = _
 simp [List.any, Bool.and_assoc]
def con_track_vector_fits : Con := fun args => match args with
 | [.t (.a [.v (.int .i64 v0), .v (.int .i64 v1), .v (.int .i64 v2)]), .t (.c (.v (.int .i64 k)))] => some (.t (.c (.v (.bool (((⟨v0, v1, v2⟩ : V3) : V3).inS k)))), some (0 ≤ k ∧ k ≤ 100000), false)
 | _ => none
theorem ok_track_vector_fits : Ok Try.prog 75 con_track_vector_fits := by
 refine Ok.fn (ann := ann_track_vector_fits) mixed tabOK VSkp6 ValidIt.no (fn := Try.f75) (by kernel_rfl) (by kernel_rfl) fit_track_vector_fits fun args r pre fresh h hp => ?_
 unfold con_track_vector_fits at h
 split at h
 ·rename_i v0 v1 v2 k
  cases h
  refine ⟨rfl, fun _ _ _ => False, _, LeA.refl _, Nat.le_of_ble_eq_true (by kernel_rfl), ?_, ?_⟩
  ·rw [ev_track_vector_fits]; exact spec_track_vector_fits v0 v1 v2 k hp
  ·rw [lp_track_vector_fits]; trivial
 ·cases h
def Skp7 : Sum := addS Skp6 75 con_track_vector_fits
theorem VSkp7 : Valid Try.prog Skp7 := Valid.add VSkp6 ok_track_vector_fits
def vc_track_vector_dot (s0 s1 s2 : Int) (t0 t1 t2 : Int) (post : DV → Prop) : Prop := (0 ≤ (0 : Int) ∧ (0 : Int) < ((3 : Nat) : Int)) ∧ ((0 ≤ (0 : Int) ∧ (0 : Int) < ((3 : Nat) : Int)) ∧ (lt (IntKind.i64.wrap (s0 * t0)) fun x1 => (0 ≤ (1 : Int) ∧ (1 : Int) < ((3 : Nat) : Int)) ∧ ((0 ≤ (1 : Int) ∧ (1 : Int) < ((3 : Nat) : Int)) ∧ (lt (IntKind.i64.wrap (s1 * t1)) fun x2 => lt (IntKind.i64.wrap (x1 + x2)) fun x3 => (0 ≤ (2 : Int) ∧ (2 : Int) < ((3 : Nat) : Int)) ∧ ((0 ≤ (2 : Int) ∧ (2 : Int) < ((3 : Nat) : Int)) ∧ (lt (IntKind.i64.wrap (s2 * t2)) fun x4 => lt (IntKind.i64.wrap (x3 + x4)) fun x5 => post (.t (.c (.v (.int .i64 x5))))))))))
def ann_track_vector_dot : Ann := ⟨fun _ => none, fun _ => none, fun _ => [], noIt, false, fun _ => none, fun _ => none⟩
theorem ev_track_vector_dot (J : Inv) (s0 s1 s2 : Int) (t0 t1 t2 : Int) (post : DV → Prop) : evFn Try.prog tab Skp7 ann_track_vector_dot J Try.f61 [.t (.a [.v (.int .i64 s0), .v (.int .i64 s1), .v (.int .i64 s2)]), .t (.a [.v (.int .i64 t0), .v (.int .i64 t1), .v (.int .i64 t2)])] post = vc_track_vector_dot s0 s1 s2 t0 t1 t2 post := by kernel_rfl
theorem fit_track_vector_dot : okFn ann_track_vector_dot Try.f61 = true := by kernel_rfl
theorem lp_track_vector_dot (J : Inv) (post : DV → Prop) : AllG J (loopsFn Try.prog tab Skp7 ann_track_vector_dot J Try.f61 post) = (True) := by kernel_rfl
theorem spec_track_vector_dot (s0 s1 s2 : Int) (t0 t1 t2 : Int) : vc_track_vector_dot s0 s1 s2 t0 t1 t2 (fun r => LeD r (.t (.c (.v (.int .i64 (dotW (⟨s0, s1, s2⟩ : V3) (⟨t0, t1, t2⟩ : V3))))))) := by
 unfold vc_track_vector_dot
 refine ⟨by decide, by decide, lt_i fun x1 h1 => ⟨by decide, by decide, lt_i fun x2 h2 => lt_i fun x3 h3 => ⟨by decide, by decide, lt_i fun x4 h4 => lt_i fun x5 h5 => leI ?_⟩⟩⟩
 unfold dotW
 rw [← h5, ← h4, ← h3, ← h2, ← h1]
def con_track_vector_dot : Con := fun args => match args with
 | [.t (.a [.v (.int .i64 s0), .v (.int .i64 s1), .v (.int .i64 s2)]), .t (.a [.v (.int .i64 t0), .v (.int .i64 t1), .v (.int .i64 t2)])] => some (.t (.c (.v (.int .i64 (dotW (⟨s0, s1, s2⟩ : V3) (⟨t0, t1, t2⟩ : V3))))), none, false)
 | _ => none
theorem ok_track_vector_dot : Ok Try.prog 61 con_track_vector_dot := by
 refine Ok.fn (ann := ann_track_vector_dot) mixed tabOK VSkp7 ValidIt.no (fn := Try.f61) (by kernel_rfl) (by kernel_rfl) fit_track_vector_dot fun args r pre fresh h hp => ?_
 unfold con_track_vector_dot at h
 split at h
 ·rename_i s0 s1 s2 t0 t1 t2
  cases h
  refine ⟨rfl, fun _ _ _ => False, _, LeA.refl _, Nat.le_of_ble_eq_true (by kernel_rfl), ?_, ?_⟩
  ·rw [ev_track_vector_dot]; exact spec_track_vector_dot s0 s1 s2 t0 t1 t2
  ·rw [lp_track_vector_dot]; trivial
 ·cases h
def Skp8 : Sum := addS Skp7 61 con_track_vector_dot
theorem VSkp8 : Valid Try.prog Skp8 := Valid.add VSkp7 ok_track_vector_dot
def vc_track_vector_minus (s0 s1 s2 : Int) (t0 t1 t2 : Int) (post : DV → Prop) : Prop := (0 ≤ (0 : Int) ∧ (0 : Int) < ((3 : Nat) : Int)) ∧ ((0 ≤ (0 : Int) ∧ (0 : Int) < ((3 : Nat) : Int)) ∧ (lt (IntKind.i64.wrap (s0 - t0)) fun x1 => (0 ≤ (1 : Int) ∧ (1 : Int) < ((3 : Nat) : Int)) ∧ ((0 ≤ (1 : Int) ∧ (1 : Int) < ((3 : Nat) : Int)) ∧ (lt (IntKind.i64.wrap (s1 - t1)) fun x2 => (0 ≤ (2 : Int) ∧ (2 : Int) < ((3 : Nat) : Int)) ∧ ((0 ≤ (2 : Int) ∧ (2 : Int) < ((3 : Nat) : Int)) ∧ (lt (IntKind.i64.wrap (s2 - t2)) fun x3 => post (.t (.a [.v (.int .i64 x1), .v (.int .i64 x2), .v (.int .i64 x3)]))))))))
def ann_track_vector_minus : Ann := ⟨fun _ => none, fun _ => none, fun _ => [], noIt, false, fun _ => none, fun _ => none⟩
theorem ev_track_vector_minus (J : Inv) (s0 s1 s2 : Int) (t0 t1 t2 : Int) (post : DV → Prop) : evFn Try.prog tab Skp8 ann_track_vector_minus J Try.f60 [.t (.a [.v (.int .i64 s0), .v (.int .i64 s1), .v (.int .i64 s2)]), .t (.a [.v (.int .i64 t0), .v (.int .i64 t1), .v (.int .i64 t2)])] post = vc_track_vector_minus s0 s1 s2 t0 t1 t2 post := by kernel_rfl
theorem fit_track_vector_minus : okFn ann_track_vector_minus Try.f60 = true := by kernel_rfl
theorem lp_track_vector_minus (J : Inv) (post : DV → Prop) : AllG J (loopsFn Try.prog tab Skp8 ann_track_vector_minus J Try.f60 post) = (True) := by kernel_rfl
theorem spec_track_vector_minus (s0 s1 s2 : Int) (t0 t1 t2 : Int) : vc_track_vector_minus s0 s1 s2 t0 t1 t2 (fun r => LeD r (.t (.a [.v (.int .i64 (wr (s0 - t0))), .v (.int .i64 (wr (s1 - t1))), .v (.int .i64 (wr (s2 - t2)))]))) := by
 unfold vc_track_vector_minus
 (repeat' with_reducible first | (refine lt_i ?_; intro _ _) | (refine cond_i ?_ ?_ <;> intro _) | (refine And.intro (by decide) ?_))
 subst_vars
 exact LeD.refl _
def con_track_vector_minus : Con := fun args => match args with
 | [.t (.a [.v (.int .i64 s0), .v (.int .i64 s1), .v (.int .i64 s2)]), .t (.a [.v (.int .i64 t0), .v (.int .i64 t1), .v (.int .i64 t2)])] => some (.t (.a [.v (.int .i64 (wr (s0 - t0))), .v (.int .i64 (wr (s1 - t1))), .v (.int .i64 (wr (s2 - t2)))]), none, false)
 | _ => none
theorem ok_track_vector_minus : Ok Try.prog 60 con_track_vector_minus := by
 refine Ok.fn (ann := ann_track_vector_minus) mixed tabOK VSkp8 ValidIt.no (fn := Try.f60) (by kernel_rfl) (by kernel_rfl) fit_track_vector_minus fun args r pre fresh h hp => ?_
 unfold con_track_vector_minus at h
 split at h
 ·rename_i s0 s1 s2 t0 t1 t2
  cases h
  refine ⟨rfl, fun _ _ _ => False, _, LeA.refl _, Nat.le_of_ble_eq_true (by kernel_rfl), ?_, ?_⟩
  ·rw [ev_track_vector_minus]; exact spec_track_vector_minus s0 s1 s2 t0 t1 t2
  ·rw [lp_track_vector_minus]; trivial
 ·cases h
def Skp9 : Sum := addS Skp8 60 con_track_vector_minus
theorem VSkp9 : Valid Try.prog Skp9 := Valid.add VSkp8 ok_track_vector_minus
def vc_track_placeErr (p0 p1 p2 : Int) (post : DV → Prop) : Prop := (0 ≤ (1000 : Int) ∧ (1000 : Int) ≤ 100000) ∧ (post (.t (.c (.v (.int .i64 (unl (((⟨p0, p1, p2⟩ : V3) : V3).inS (1000 : Int)) (2 : Int)))))))
def ann_track_placeErr : Ann := ⟨fun _ => none, fun _ => none, fun _ => [], noIt, false, fun _ => none, fun _ => none⟩
theorem ev_track_placeErr (J : Inv) (p0 p1 p2 : Int) (post : DV → Prop) : evFn Try.prog tab Skp9 ann_track_placeErr J Try.f58 [.t (.a [.v (.int .i64 p0), .v (.int .i64 p1), .v (.int .i64 p2)])] post = vc_track_placeErr p0 p1 p2 post := by kernel_rfl
theorem fit_track_placeErr : okFn ann_track_placeErr Try.f58 = true := by kernel_rfl
theorem lp_track_placeErr (J : Inv) (post : DV → Prop) : AllG J (loopsFn Try.prog tab Skp9 ann_track_placeErr J Try.f58 post) = (True) := by kernel_rfl
theorem spec_track_placeErr (p0 p1 p2 : Int) : vc_track_placeErr p0 p1 p2 (fun r => LeD r (.t (.c (.v (.int .i64 (plE (⟨p0, p1, p2⟩ : V3))))))) := by
 unfold vc_track_placeErr
 exact ⟨by decide, LeD.refl _⟩
def con_track_placeErr : Con := fun args => match args with
 | [.t (.a [.v (.int .i64 p0), .v (.int .i64 p1), .v (.int .i64 p2)])] => some (.t (.c (.v (.int .i64 (plE (⟨p0, p1, p2⟩ : V3))))), none, false)
 | _ => none
theorem ok_track_placeErr : Ok Try.prog 58 con_track_placeErr := by
 refine Ok.fn (ann := ann_track_placeErr) mixed tabOK VSkp9 ValidIt.no (fn := Try.f58) (by kernel_rfl) (by kernel_rfl) fit_track_placeErr fun args r pre fresh h hp => ?_
 unfold con_track_placeErr at h
 split at h
 ·rename_i p0 p1 p2
  cases h
  refine ⟨rfl, fun _ _ _ => False, _, LeA.refl _, Nat.le_of_ble_eq_true (by kernel_rfl), ?_, ?_⟩
  ·rw [ev_track_placeErr]; exact spec_track_placeErr p0 p1 p2
  ·rw [lp_track_placeErr]; trivial
 ·cases h
def Skp10 : Sum := addS Skp9 58 con_track_placeErr
theorem VSkp10 : Valid Try.prog Skp10 := Valid.add VSkp9 ok_track_placeErr
def vc_track_timeErr (n : Int) (post : DV → Prop) : Prop := post (.t (.c (.v (.int .i64 (unl (inB n (-10000 : Int) (10000 : Int)) (2 : Int))))))
def ann_track_timeErr : Ann := ⟨fun _ => none, fun _ => none, fun _ => [], noIt, false, fun _ => none, fun _ => none⟩
theorem ev_track_timeErr (J : Inv) (n : Int) (post : DV → Prop) : evFn Try.prog tab Skp10 ann_track_timeErr J Try.f89 [.t (.c (.v (.int .i64 n)))] post = vc_track_timeErr n post := by kernel_rfl
theorem fit_track_timeErr : okFn ann_track_timeErr Try.f89 = true := by kernel_rfl
theorem lp_track_timeErr (J : Inv) (post : DV → Prop) : AllG J (loopsFn Try.prog tab Skp10 ann_track_timeErr J Try.f89 post) = (True) := by kernel_rfl
theorem spec_track_timeErr (n : Int) : vc_track_timeErr n (fun r => LeD r (.t (.c (.v (.int .i64 (tmE n)))))) := by
 exact LeD.refl _
def con_track_timeErr : Con := fun args => match args with
 | [.t (.c (.v (.int .i64 n)))] => some (.t (.c (.v (.int .i64 (tmE n)))), none, false)
 | _ => none
theorem ok_track_timeErr : Ok Try.prog 89 con_track_timeErr := by
 refine Ok.fn (ann := ann_track_timeErr) mixed tabOK VSkp10 ValidIt.no (fn := Try.f89) (by kernel_rfl) (by kernel_rfl) fit_track_timeErr fun args r pre fresh h hp => ?_
 unfold con_track_timeErr at h
 split at h
 ·rename_i n
  cases h
  refine ⟨rfl, fun _ _ _ => False, _, LeA.refl _, Nat.le_of_ble_eq_true (by kernel_rfl), ?_, ?_⟩
  ·rw [ev_track_timeErr]; exact spec_track_timeErr n
  ·rw [lp_track_timeErr]; trivial
 ·cases h
def Skp11 : Sum := addS Skp10 89 con_track_timeErr
theorem VSkp11 : Valid Try.prog Skp11 := Valid.add VSkp10 ok_track_timeErr
def vc_track_CheckModel (m0 m1 m2 m3 m4 m5 m6 m7 m8 m9 m10 m11 : Int) (post : DV → Prop) : Prop := (cond (inB m4 (1 : Int) (20 : Int)) (cond (inB m5 (1 : Int) (1200 : Int)) (cond (inB m6 (1 : Int) (1200 : Int)) (True) ((false = false) ∧ (True))) ((false = false) ∧ ((false = false) ∧ (True)))) ((false = false) ∧ ((false = false) ∧ ((false = false) ∧ (True))))) ∧ (lt ((bif inB m4 (1 : Int) (20 : Int) then (bif inB m5 (1 : Int) (1200 : Int) then (bif inB m6 (1 : Int) (1200 : Int) then inB m7 (1 : Int) (100 : Int) else false) else false) else false)) fun x1 => (0 ≤ (0 : Int) ∧ (0 : Int) < ((4 : Nat) : Int)) ∧ ((cond x1 (True) ((false = false) ∧ (True))) ∧ (lt ((bif x1 then inB m8 (0 : Int) (100 : Int) else false)) fun x2 => (0 ≤ (1 : Int) ∧ (1 : Int) < ((4 : Nat) : Int)) ∧ ((cond x2 (True) ((false = false) ∧ (True))) ∧ (lt ((bif x2 then inB m9 (0 : Int) (100 : Int) else false)) fun x3 => (0 ≤ (2 : Int) ∧ (2 : Int) < ((4 : Nat) : Int)) ∧ ((cond x3 (True) ((false = false) ∧ (True))) ∧ (lt ((bif x3 then inB m10 (0 : Int) (100 : Int) else false)) fun x4 => (0 ≤ (3 : Int) ∧ (3 : Int) < ((4 : Nat) : Int)) ∧ ((cond x4 (True) ((false = false) ∧ (True))) ∧ (lt ((bif x4 then inB m11 (0 : Int) (100 : Int) else false)) fun x5 => (numsP 1 3 (genC [[.v (.int .i64 (plE (⟨m0, m1, m2⟩ : V3)))], [.v (.int .i64 (tmE m3))], [.v (.int .i64 (unl x5 (2 : Int)))]]) ∧ (([(plE (⟨m0, m1, m2⟩ : V3)), (tmE m3), (unl x5 (2 : Int))] : List Int)).length ≤ 100) ∧ (cond ((firstNZ ([(plE (⟨m0, m1, m2⟩ : V3)), (tmE m3), (unl x5 (2 : Int))] : List Int)) != (0 : Int)) (post (.t (.c (.v (.int .i64 (firstNZ ([(plE (⟨m0, m1, m2⟩ : V3)), (tmE m3), (unl x5 (2 : Int))] : List Int))))))) (lt (IntKind.i64.wrap (m7 * m4)) fun x6 => lt (IntKind.i64.wrap (x6 * m4)) fun x7 => (numsP 1 2 (genC [[.v (.int .i64 (unl (decide (m5 ≤ m6)) (9 : Int)))], [.v (.int .i64 (unl (decide (m5 > x7)) (13 : Int)))]]) ∧ (([(unl (decide (m5 ≤ m6)) (9 : Int)), (unl (decide (m5 > x7)) (13 : Int))] : List Int)).length ≤ 100) ∧ (post (.t (.c (.v (.int .i64 (firstNZ ([(unl (decide (m5 ≤ m6)) (9 : Int)), (unl (decide (m5 > x7)) (13 : Int))] : List Int))))))))))))))))))
def ann_track_CheckModel : Ann := ⟨fun r => lookA r [(7, ([[], [0], [0, 1], [], [3], [0, 1, 2, 3, 4], [], [0, 1, 2, 3, 4, 5, 6], [0, 1, 2, 3, 4, 5, 6, 7], [0, 1, 2, 3, 4, 5, 6, 7, 8], [0, 1, 2, 3, 4, 5, 6, 7, 8, 9]], [[47, 50, 52, 53, 54], [47, 50, 52, 53, 54], [50, 52, 53, 54], [47, 50, 52, 53, 54], [47, 50, 52, 53, 54], [52, 53, 54], [47, 50, 52, 53, 54], [53, 54], [54], [], []])), (10, ([[], [0], [0, 1], [], [3], [3, 4], [0, 1, 2, 3, 4, 5], [0, 1, 2, 3, 4, 5, 6], [], [8], [8, 9], [], [11], [], [13], [11, 12, 13, 14], [], [16], [11, 12, 13, 14, 15, 16, 17], [8, 9, 10, 11, 12, 13, 14, 15, 16, 17, 18], [0, 1, 2, 3, 4, 5, 6, 7, 8, 9, 10, 11, 12, 13, 14, 15, 16, 17, 18, 19], [0, 1, 2, 3, 4, 5, 6, 7, 8, 9, 10, 11, 12, 13, 14, 15, 16, 17, 18, 19, 20], [0, 1, 2, 3, 4, 5, 6, 7, 8, 9, 10, 11, 12, 13, 14, 15, 16, 17, 18, 19, 20, 21], [0, 1, 2, 3, 4, 5, 6, 7, 8, 9, 10, 11, 12, 13, 14, 15, 16, 17, 18, 19, 20, 21, 22]], [[65, 78, 79, 80], [65, 78, 79, 80], [65, 78, 79, 80], [65, 78, 79, 80], [65, 78, 79, 80], [65, 78, 79, 80], [65, 78, 79, 80], [78, 79, 80], [65, 78, 79, 80], [65, 78, 79, 80], [65, 78, 79, 80], [65, 78, 79, 80], [65, 78, 79, 80], [65, 78, 79, 80], [65, 78, 79, 80], [65, 78, 79, 80], [65, 78, 79, 80], [65, 78, 79, 80], [65, 78, 79, 80], [65, 78, 79, 80], [79, 80], [80], [], []]))], fun b => lookA b [(0, (some 5, some ⟨[1, 3, 35, 36], [1], []⟩))], fun _ => [], noIt, false, fun r => lookA r [(1, (4, [3])), (5, (2, [3]))], fun _ => none⟩
theorem ev_track_CheckModel (J : Inv) (m0 m1 m2 m3 m4 m5 m6 m7 m8 m9 m10 m11 : Int) (post : DV → Prop) : evFn Try.prog tab Skp11 ann_track_CheckModel J Try.f86 [.t (.a [.v (.int .i64 m0), .v (.int .i64 m1), .v (.int .i64 m2), .v (.int .i64 m3), .v (.int .i64 m4), .v (.int .i64 m5), .v (.int .i64 m6), .v (.int .i64 m7), .v (.int .i64 m8), .v (.int .i64 m9), .v (.int .i64 m10), .v (.int .i64 m11)])] post = vc_track_CheckModel m0 m1 m2 m3 m4 m5 m6 m7 m8 m9 m10 m11 post := by kernel_rfl
theorem fit_track_CheckModel : okFn ann_track_CheckModel Try.f86 = true := by kernel_rfl
theorem lp_track_CheckModel (J : Inv) (post : DV → Prop) : AllG J (loopsFn Try.prog tab Skp11 ann_track_CheckModel J Try.f86 post) = (True) := by kernel_rfl
theorem spec_track_CheckModel (m0 m1 m2 m3 m4 m5 m6 m7 m8 m9 m10 m11 : Int) : vc_track_CheckModel m0 m1 m2 m3 m4 m5 m6 m7 m8 m9 m10 m11 (fun r => LeD r (.t (.c (.v (.int .i64 (((⟨m0, m1, m2, m3, m4, m5, m6, m7, m8, m9, m10, m11⟩ : TMod)).err)))))) := by
 unfold vc_track_CheckModel
 refine ⟨by (repeat' first | trivial | assumption | (refine cond_i ?_ ?_ <;> intro _) | (refine And.intro ?_ ?_)), lt_i fun x1 h1 => ⟨by decide, by (repeat' first | trivial | assumption | (refine cond_i ?_ ?_ <;> intro _) | (refine And.intro ?_ ?_)), lt_i fun x2 h2 => ⟨by decide, by (repeat' first | trivial | assumption | (refine cond_i ?_ ?_ <;> intro _) | (refine And.intro ?_ ?_)), lt_i fun x3 h3 => ⟨by decide, by (repeat' first | trivial | assumption | (refine cond_i ?_ ?_ <;> intro _) | (refine And.intro ?_ ?_)), lt_i fun x4 h4 => ⟨by decide, by (repeat' first | trivial | assumption | (refine cond_i ?_ ?_ <;> intro _) | (refine And.intro ?_ ?_)), lt_i fun x5 h5 => ⟨⟨numsP_gen [_, _, _], Nat.le_of_ble_eq_true rfl⟩, ?_⟩⟩⟩⟩⟩⟩
 have e5 : x5 = ((⟨m0, m1, m2, m3, m4, m5, m6, m7, m8, m9, m10, m11⟩ : TMod)).right := by
  rw [← h5, ← h4, ← h3, ← h2, ← h1]
  unfold TMod.right
  simp only [Bool.cond_false_right, Bool.and_assoc]
 rw [e5]
 have hE : ∀ {a b c d e : Int}, firstNZ [a, b, c] ≠ 0 → firstNZ [a, b, c, d, e] = firstNZ [a, b, c] := by
  intro a b c d e h
  simp only [firstNZ] at h ⊢
  by_cases h1 : a = 0 <;> by_cases h2 : b = 0 <;> by_cases h3 : c = 0 <;> simp_all
 have hF : ∀ {a b c d e : Int}, firstNZ [a, b, c] = 0 → firstNZ [a, b, c, d, e] = firstNZ [d, e] := by
  intro a b c d e h
  obtain ⟨rfl, rfl, rfl⟩ := fn3 h
  simp [firstNZ]
 refine cond_i (fun h => leI ?_) (fun h => lt_i fun x6 h6 => lt_i fun x7 h7 => ⟨⟨numsP_gen [_, _], Nat.le_of_ble_eq_true rfl⟩, leI ?_⟩)
 ·have h : firstNZ [plE (⟨m0, m1, m2⟩ : V3), tmE m3, unl ((⟨m0, m1, m2, m3, m4, m5, m6, m7, m8, m9, m10, m11⟩ : TMod)).right 2] ≠ 0 := by simpa using h
  exact (hE h).symm
 ·have h : firstNZ [plE (⟨m0, m1, m2⟩ : V3), tmE m3, unl ((⟨m0, m1, m2, m3, m4, m5, m6, m7, m8, m9, m10, m11⟩ : TMod)).right 2] = 0 := by simpa using h
  have g := (fn3 h).2.2
  rw [unl_0 (by decide)] at g
  unfold TMod.right at g
  simp only [Bool.and_eq_true, inB_true] at g
  obtain ⟨⟨⟨⟨⟨⟨⟨b1, b2⟩, b3⟩, b4⟩, b5⟩, b6⟩, b7⟩, b8⟩ := g
  have k3 := mul_rg (x := m7) (y := m4) (A := 100) (B := 20) (C := 2000) (by omega) (by omega) (by decide)
  rw [wi (by omega)] at h6
  subst h6
  have k4 := mul_rg (x := m7 * m4) (y := m4) (A := 2000) (B := 20) (C := 40000) k3 (by omega) (by decide)
  rw [wi (by omega)] at h7
  subst h7
  exact (hF h).symm
def con_track_CheckModel : Con := fun args => match args with
 | [.t (.a [.v (.int .i64 m0), .v (.int .i64 m1), .v (.int .i64 m2), .v (.int .i64 m3), .v (.int .i64 m4), .v (.int .i64 m5), .v (.int .i64 m6), .v (.int .i64 m7), .v (.int .i64 m8), .v (.int .i64 m9), .v (.int .i64 m10), .v (.int .i64 m11)])] => some (.t (.c (.v (.int .i64 (((⟨m0, m1, m2, m3, m4, m5, m6, m7, m8, m9, m10, m11⟩ : TMod)).err)))), none, false)
 | _ => none
theorem ok_track_CheckModel : Ok Try.prog 86 con_track_CheckModel := by
 refine Ok.fn (ann := ann_track_CheckModel) mixed tabOK VSkp11 ValidIt.no (fn := Try.f86) (by kernel_rfl) (by kernel_rfl) fit_track_CheckModel fun args r pre fresh h hp => ?_
 unfold con_track_CheckModel at h
 split at h
 ·rename_i m0 m1 m2 m3 m4 m5 m6 m7 m8 m9 m10 m11
  cases h
  refine ⟨rfl, fun _ _ _ => False, _, LeA.refl _, Nat.le_of_ble_eq_true (by kernel_rfl), ?_, ?_⟩
  ·rw [ev_track_CheckModel]; exact spec_track_CheckModel m0 m1 m2 m3 m4 m5 m6 m7 m8 m9 m10 m11
  ·rw [lp_track_CheckModel]; trivial
 ·cases h
def Skp12 : Sum := addS Skp11 86 con_track_CheckModel
theorem VSkp12 : Valid Try.prog Skp12 := Valid.add VSkp11 ok_track_CheckModel
def vc_track_open (m0 m1 m2 m3 m4 m5 m6 m7 m8 m9 m10 m11 : Int) (post : DV → Prop) : Prop := post (.tu [.a [.v (.int .i64 m0), .v (.int .i64 m1), .v (.int .i64 m2), .v (.int .i64 m3), .v (.int .i64 m4), .v (.int .i64 m5), .v (.int .i64 m6), .v (.int .i64 m7), .v (.int .i64 m8), .v (.int .i64 m9), .v (.int .i64 m10), .v (.int .i64 m11)], .c (.v (.int .i64 (((⟨m0, m1, m2, m3, m4, m5, m6, m7, m8, m9, m10, m11⟩ : TMod)).err)))])
def ann_track_open : Ann := ⟨fun r => lookA r [(1, ([[], [0], [], [2], [0, 1, 2, 3], [0, 1, 2, 3, 4]], [[7], [7], [7], [], [], []]))], fun _ => none, fun _ => [], noIt, false, fun _ => none, fun _ => none⟩
theorem ev_track_open (J : Inv) (m0 m1 m2 m3 m4 m5 m6 m7 m8 m9 m10 m11 : Int) (post : DV → Prop) : evFn Try.prog tab Skp12 ann_track_open J Try.f73 [.t (.a [.v (.int .i64 m0), .v (.int .i64 m1), .v (.int .i64 m2), .v (.int .i64 m3), .v (.int .i64 m4), .v (.int .i64 m5), .v (.int .i64 m6), .v (.int .i64 m7), .v (.int .i64 m8), .v (.int .i64 m9), .v (.int .i64 m10), .v (.int .i64 m11)])] post = vc_track_open m0 m1 m2 m3 m4 m5 m6 m7 m8 m9 m10 m11 post := by kernel_rfl
theorem fit_track_open : okFn ann_track_open Try.f73 = true := by kernel_rfl
theorem lp_track_open (J : Inv) (post : DV → Prop) : AllG J (loopsFn Try.prog tab Skp12 ann_track_open J Try.f73 post) = (True) := by kernel_rfl
theorem spec_track_open (m0 m1 m2 m3 m4 m5 m6 m7 m8 m9 m10 m11 : Int) : vc_track_open m0 m1 m2 m3 m4 m5 m6 m7 m8 m9 m10 m11 (fun r => LeD r (.tu [.a [.v (.int .i64 m0), .v (.int .i64 m1), .v (.int .i64 m2), .v (.int .i64 m3), .v (.int .i64 m4), .v (.int .i64 m5), .v (.int .i64 m6), .v (.int .i64 m7), .v (.int .i64 m8), .v (.int .i64 m9), .v (.int .i64 m10), .v (.int .i64 m11)], .c (.v (.int .i64 (((⟨m0, m1, m2, m3, m4, m5, m6, m7, m8, m9, m10, m11⟩ : TMod)).err)))])) := by
 exact LeD.refl _
def con_track_open : Con := fun args => match args with
 | [.t (.a [.v (.int .i64 m0), .v (.int .i64 m1), .v (.int .i64 m2), .v (.int .i64 m3), .v (.int .i64 m4), .v (.int .i64 m5), .v (.int .i64 m6), .v (.int .i64 m7), .v (.int .i64 m8), .v (.int .i64 m9), .v (.int .i64 m10), .v (.int .i64 m11)])] => some (.tu [.a [.v (.int .i64 m0), .v (.int .i64 m1), .v (.int .i64 m2), .v (.int .i64 m3), .v (.int .i64 m4), .v (.int .i64 m5), .v (.int .i64 m6), .v (.int .i64 m7), .v (.int .i64 m8), .v (.int .i64 m9), .v (.int .i64 m10), .v (.int .i64 m11)], .c (.v (.int .i64 (((⟨m0, m1, m2, m3, m4, m5, m6, m7, m8, m9, m10, m11⟩ : TMod)).err)))], none, false)
 | _ => none
theorem ok_track_open : Ok Try.prog 73 con_track_open := by
 refine Ok.fn (ann := ann_track_open) mixed tabOK VSkp12 ValidIt.no (fn := Try.f73) (by kernel_rfl) (by kernel_rfl) fit_track_open fun args r pre fresh h hp => ?_
 unfold con_track_open at h
 split at h
 ·rename_i m0 m1 m2 m3 m4 m5 m6 m7 m8 m9 m10 m11
  cases h
  refine ⟨rfl, fun _ _ _ => False, _, LeA.refl _, Nat.le_of_ble_eq_true (by kernel_rfl), ?_, ?_⟩
  ·rw [ev_track_open]; exact spec_track_open m0 m1 m2 m3 m4 m5 m6 m7 m8 m9 m10 m11
  ·rw [lp_track_open]; trivial
 ·cases h
def Skp13 : Sum := addS Skp12 73 con_track_open
theorem VSkp13 : Valid Try.prog Skp13 := Valid.add VSkp12 ok_track_open
def vc_track_model_permitted (m0 m1 m2 m3 m4 m5 m6 m7 m8 m9 m10 m11 : Int) (s0 s1 s2 : Int) (post : DV → Prop) : Prop := lt (dotW (⟨s0, s1, s2⟩ : V3) (⟨s0, s1, s2⟩ : V3)) fun x1 => post (.t (.c (.v (.bool (inB x1 m5 m6)))))
def ann_track_model_permitted : Ann := ⟨fun r => lookA r [(1, ([[], [], [0, 1], [], [3], [3, 4], [3, 4, 5], [], [7], [7, 8], [7, 8, 9], [0, 1, 2, 3, 4, 5, 6, 7, 8, 9, 10], [0, 1, 2, 3, 4, 5, 6, 7, 8, 9, 10, 11]], [[7, 16], [7, 16], [16], [7, 16], [7, 16], [7, 16], [7, 16], [7, 16], [7, 16], [7, 16], [7, 16], [], []]))], fun _ => none, fun _ => [], noIt, false, fun _ => none, fun _ => none⟩
theorem ev_track_model_permitted (J : Inv) (m0 m1 m2 m3 m4 m5 m6 m7 m8 m9 m10 m11 : Int) (s0 s1 s2 : Int) (post : DV → Prop) : evFn Try.prog tab Skp13 ann_track_model_permitted J Try.f68 [.t (.a [.v (.int .i64 m0), .v (.int .i64 m1), .v (.int .i64 m2), .v (.int .i64 m3), .v (.int .i64 m4), .v (.int .i64 m5), .v (.int .i64 m6), .v (.int .i64 m7), .v (.int .i64 m8), .v (.int .i64 m9), .v (.int .i64 m10), .v (.int .i64 m11)]), .t (.a [.v (.int .i64 s0), .v (.int .i64 s1), .v (.int .i64 s2)])] post = vc_track_model_permitted m0 m1 m2 m3 m4 m5 m6 m7 m8 m9 m10 m11 s0 s1 s2 post := by kernel_rfl
theorem fit_track_model_permitted : okFn ann_track_model_permitted Try.f68 = true := by kernel_rfl
theorem lp_track_model_permitted (J : Inv) (post : DV → Prop) : AllG J (loopsFn Try.prog tab Skp13 ann_track_model_permitted J Try.f68 post) = (True) := by kernel_rfl
theorem spec_track_model_permitted (m0 m1 m2 m3 m4 m5 m6 m7 m8 m9 m10 m11 : Int) (s0 s1 s2 : Int) (hp : ((⟨s0, s1, s2⟩ : V3)).sm (⟨s0, s1, s2⟩ : V3)) : vc_track_model_permitted m0 m1 m2 m3 m4 m5 m6 m7 m8 m9 m10 m11 s0 s1 s2 (fun r => LeD r (.t (.c (.v (.bool (((⟨m0, m1, m2, m3, m4, m5, m6, m7, m8, m9, m10, m11⟩ : TMod)).permB (⟨s0, s1, s2⟩ : V3))))))) := by
 have e : dotW (⟨s0, s1, s2⟩ : V3) ⟨s0, s1, s2⟩ = (⟨s0, s1, s2⟩ : V3).dot ⟨s0, s1, s2⟩ := dotW_sm hp
 unfold vc_track_model_permitted
 rw [e]
 refine lt_i fun x hx => leB ?_
 rw [← hx]
 rfl
def con_track_model_permitted : Con := fun args => match args with
 | [.t (.a [.v (.int .i64 m0), .v (.int .i64 m1), .v (.int .i64 m2), .v (.int .i64 m3), .v (.int .i64 m4), .v (.int .i64 m5), .v (.int .i64 m6), .v (.int .i64 m7), .v (.int .i64 m8), .v (.int .i64 m9), .v (.int .i64 m10), .v (.int .i64 m11)]), .t (.a [.v (.int .i64 s0), .v (.int .i64 s1), .v (.int .i64 s2)])] => some (.t (.c (.v (.bool (((⟨m0, m1, m2, m3, m4, m5, m6, m7, m8, m9, m10, m11⟩ : TMod)).permB (⟨s0, s1, s2⟩ : V3))))), some (((⟨s0, s1, s2⟩ : V3)).sm (⟨s0, s1, s2⟩ : V3)), false)
 | _ => none
theorem ok_track_model_permitted : Ok Try.prog 68 con_track_model_permitted := by
 refine Ok.fn (ann := ann_track_model_permitted) mixed tabOK VSkp13 ValidIt.no (fn := Try.f68) (by kernel_rfl) (by kernel_rfl) fit_track_model_permitted fun args r pre fresh h hp => ?_
 unfold con_track_model_permitted at h
 split at h
 ·rename_i m0 m1 m2 m3 m4 m5 m6 m7 m8 m9 m10 m11 s0 s1 s2
  cases h
  refine ⟨rfl, fun _ _ _ => False, _, LeA.refl _, Nat.le_of_ble_eq_true (by kernel_rfl), ?_, ?_⟩
  ·rw [ev_track_model_permitted]; exact spec_track_model_permitted m0 m1 m2 m3 m4 m5 m6 m7 m8 m9 m10 m11 s0 s1 s2 hp
  ·rw [lp_track_model_permitted]; trivial
 ·cases h
def Skp14 : Sum := addS Skp13 68 con_track_model_permitted
theorem VSkp14 : Valid Try.prog Skp14 := Valid.add VSkp13 ok_track_model_permitted
def vc_track_openStep (m0 m1 m2 m3 m4 m5 m6 m7 m8 m9 m10 m11 : Int) (s0 s1 s2 : Int) (post : DV → Prop) : Prop := (0 ≤ (20 : Int) ∧ (20 : Int) ≤ 100000) ∧ ((numsP 1 2 (genC [[.v (.int .i64 (((⟨m0, m1, m2, m3, m4, m5, m6, m7, m8, m9, m10, m11⟩ : TMod)).err))], [.v (.int .i64 (unl (((⟨s0, s1, s2⟩ : V3) : V3).inS (20 : Int)) (2 : Int)))]]) ∧ (([(((⟨m0, m1, m2, m3, m4, m5, m6, m7, m8, m9, m10, m11⟩ : TMod)).err), (unl (((⟨s0, s1, s2⟩ : V3) : V3).inS (20 : Int)) (2 : Int))] : List Int)).length ≤ 100) ∧ (cond ((firstNZ ([(((⟨m0, m1, m2, m3, m4, m5, m6, m7, m8, m9, m10, m11⟩ : TMod)).err), (unl (((⟨s0, s1, s2⟩ : V3) : V3).inS (20 : Int)) (2 : Int))] : List Int)) == (0 : Int)) ((((⟨s0, s1, s2⟩ : V3)).sm (⟨s0, s1, s2⟩ : V3)) ∧ (post (.tu [.a [.v (.int .i64 m0), .v (.int .i64 m1), .v (.int .i64 m2), .v (.int .i64 m3), .v (.int .i64 m4), .v (.int .i64 m5), .v (.int .i64 m6), .v (.int .i64 m7), .v (.int .i64 m8), .v (.int .i64 m9), .v (.int .i64 m10), .v (.int .i64 m11)], .a [.v (.int .i64 s0), .v (.int .i64 s1), .v (.int .i64 s2)], .c (.v (.int .i64 (unl (((⟨m0, m1, m2, m3, m4, m5, m6, m7, m8, m9, m10, m11⟩ : TMod)).permB (⟨s0, s1, s2⟩ : V3)) (24 : Int))))]))) (post (.tu [.a [.v (.int .i64 m0), .v (.int .i64 m1), .v (.int .i64 m2), .v (.int .i64 m3), .v (.int .i64 m4), .v (.int .i64 m5), .v (.int .i64 m6), .v (.int .i64 m7), .v (.int .i64 m8), .v (.int .i64 m9), .v (.int .i64 m10), .v (.int .i64 m11)], .a [.v (.int .i64 s0), .v (.int .i64 s1), .v (.int .i64 s2)], .c (.v (.int .i64 (firstNZ ([(((⟨m0, m1, m2, m3, m4, m5, m6, m7, m8, m9, m10, m11⟩ : TMod)).err), (unl (((⟨s0, s1, s2⟩ : V3) : V3).inS (20 : Int)) (2 : Int))] : List Int))))]))))
def ann_track_openStep : Ann := ⟨fun r => lookA r [(6, ([[], [], [], [0], [0, 1, 3], [0, 1, 2, 3, 4]], [[], [4], [], [9999, 4], [], []]))], fun _ => none, fun _ => [], noIt, false, fun _ => none, fun _ => none⟩
theorem ev_track_openStep (J : Inv) (m0 m1 m2 m3 m4 m5 m6 m7 m8 m9 m10 m11 : Int) (s0 s1 s2 : Int) (post : DV → Prop) : evFn Try.prog tab Skp14 ann_track_openStep J Try.f46 [.t (.a [.v (.int .i64 m0), .v (.int .i64 m1), .v (.int .i64 m2), .v (.int .i64 m3), .v (.int .i64 m4), .v (.int .i64 m5), .v (.int .i64 m6), .v (.int .i64 m7), .v (.int .i64 m8), .v (.int .i64 m9), .v (.int .i64 m10), .v (.int .i64 m11)]), .t (.a [.v (.int .i64 s0), .v (.int .i64 s1), .v (.int .i64 s2)])] post = vc_track_openStep m0 m1 m2 m3 m4 m5 m6 m7 m8 m9 m10 m11 s0 s1 s2 post := by kernel_rfl
theorem fit_track_openStep : okFn ann_track_openStep Try.f46 = true := by kernel_rfl
theorem lp_track_openStep (J : Inv) (post : DV → Prop) : AllG J (loopsFn Try.prog tab Skp14 ann_track_openStep J Try.f46 post) = (True) := by kernel_rfl
theorem spec_track_openStep (m0 m1 m2 m3 m4 m5 m6 m7 m8 m9 m10 m11 : Int) (s0 s1 s2 : Int) : vc_track_openStep m0 m1 m2 m3 m4 m5 m6 m7 m8 m9 m10 m11 s0 s1 s2 (fun r => LeD r (.tu [.a [.v (.int .i64 m0), .v (.int .i64 m1), .v (.int .i64 m2), .v (.int .i64 m3), .v (.int .i64 m4), .v (.int .i64 m5), .v (.int .i64 m6), .v (.int .i64 m7), .v (.int .i64 m8), .v (.int .i64 m9), .v (.int .i64 m10), .v (.int .i64 m11)], .a [.v (.int .i64 s0), .v (.int .i64 s1), .v (.int .i64 s2)], .c (.v (.int .i64 (((⟨m0, m1, m2, m3, m4, m5, m6, m7, m8, m9, m10, m11⟩ : TMod)).both (⟨s0, s1, s2⟩ : V3))))])) := by
 unfold vc_track_openStep
 refine ⟨by decide, ⟨numsP_gen [_, _], Nat.le_of_ble_eq_true rfl⟩, cond_i (fun h => ?_) (fun h => ?_)⟩
 ·have h : firstNZ [((⟨m0, m1, m2, m3, m4, m5, m6, m7, m8, m9, m10, m11⟩ : TMod)).err, unl ((⟨s0, s1, s2⟩ : V3).inS 20) 2] = 0 := by simpa using h
  obtain ⟨q1, q2⟩ := fn2 h
  have q3 := q2
  rw [unl_0 (by decide)] at q3
  have e : ((⟨m0, m1, m2, m3, m4, m5, m6, m7, m8, m9, m10, m11⟩ : TMod)).both (⟨s0, s1, s2⟩ : V3) = unl (((⟨m0, m1, m2, m3, m4, m5, m6, m7, m8, m9, m10, m11⟩ : TMod)).permB (⟨s0, s1, s2⟩ : V3)) 24 := by unfold TMod.both TMod.stE; rw [q1, q2, fz2, fz2]
  rw [e]
  exact ⟨sm_in20 q3, LeD.refl _⟩
 ·have h : firstNZ [((⟨m0, m1, m2, m3, m4, m5, m6, m7, m8, m9, m10, m11⟩ : TMod)).err, unl ((⟨s0, s1, s2⟩ : V3).inS 20) 2] ≠ 0 := by simpa using h
  have e : ((⟨m0, m1, m2, m3, m4, m5, m6, m7, m8, m9, m10, m11⟩ : TMod)).both (⟨s0, s1, s2⟩ : V3) = firstNZ [((⟨m0, m1, m2, m3, m4, m5, m6, m7, m8, m9, m10, m11⟩ : TMod)).err, unl ((⟨s0, s1, s2⟩ : V3).inS 20) 2] := by unfold TMod.both TMod.stE; exact fz3 h
  rw [e]
  exact LeD.refl _
def con_track_openStep : Con := fun args => match args with
 | [.t (.a [.v (.int .i64 m0), .v (.int .i64 m1), .v (.int .i64 m2), .v (.int .i64 m3), .v (.int .i64 m4), .v (.int .i64 m5), .v (.int .i64 m6), .v (.int .i64 m7), .v (.int .i64 m8), .v (.int .i64 m9), .v (.int .i64 m10), .v (.int .i64 m11)]), .t (.a [.v (.int .i64 s0), .v (.int .i64 s1), .v (.int .i64 s2)])] => some (.tu [.a [.v (.int .i64 m0), .v (.int .i64 m1), .v (.int .i64 m2), .v (.int .i64 m3), .v (.int .i64 m4), .v (.int .i64 m5), .v (.int .i64 m6), .v (.int .i64 m7), .v (.int .i64 m8), .v (.int .i64 m9), .v (.int .i64 m10), .v (.int .i64 m11)], .a [.v (.int .i64 s0), .v (.int .i64 s1), .v (.int .i64 s2)], .c (.v (.int .i64 (((⟨m0, m1, m2, m3, m4, m5, m6, m7, m8, m9, m10, m11⟩ : TMod)).both (⟨s0, s1, s2⟩ : V3))))], none, false)
 | _ => none
theorem ok_track_openStep : Ok Try.prog 46 con_track_openStep := by
 refine Ok.fn (ann := ann_track_openStep) mixed tabOK VSkp14 ValidIt.no (fn := Try.f46) (by kernel_rfl) (by kernel_rfl) fit_track_openStep fun args r pre fresh h hp => ?_
 unfold con_track_openStep at h
 split at h
 ·rename_i m0 m1 m2 m3 m4 m5 m6 m7 m8 m9 m10 m11 s0 s1 s2
  cases h
  refine ⟨rfl, fun _ _ _ => False, _, LeA.refl _, Nat.le_of_ble_eq_true (by kernel_rfl), ?_, ?_⟩
  ·rw [ev_track_openStep]; exact spec_track_openStep m0 m1 m2 m3 m4 m5 m6 m7 m8 m9 m10 m11 s0 s1 s2
  ·rw [lp_track_openStep]; trivial
 ·cases h
def Skp15 : Sum := addS Skp14 46 con_track_openStep
theorem VSkp15 : Valid Try.prog Skp15 := Valid.add VSkp14 ok_track_openStep
def vc_track_model_slow (m0 m1 m2 m3 m4 m5 m6 m7 m8 m9 m10 m11 : Int) (post : DV → Prop) : Prop := lt (IntKind.i64.wrap (m7 * m4)) fun x1 => lt (IntKind.i64.wrap (x1 * m4)) fun x2 => post (.t (.c (.v (.int .i64 x2))))
def ann_track_model_slow : Ann := ⟨fun _ => none, fun _ => none, fun _ => [], noIt, false, fun _ => none, fun _ => none⟩
theorem ev_track_model_slow (J : Inv) (m0 m1 m2 m3 m4 m5 m6 m7 m8 m9 m10 m11 : Int) (post : DV → Prop) : evFn Try.prog tab Skp15 ann_track_model_slow J Try.f90 [.t (.a [.v (.int .i64 m0), .v (.int .i64 m1), .v (.int .i64 m2), .v (.int .i64 m3), .v (.int .i64 m4), .v (.int .i64 m5), .v (.int .i64 m6), .v (.int .i64 m7), .v (.int .i64 m8), .v (.int .i64 m9), .v (.int .i64 m10), .v (.int .i64 m11)])] post = vc_track_model_slow m0 m1 m2 m3 m4 m5 m6 m7 m8 m9 m10 m11 post := by kernel_rfl
theorem fit_track_model_slow : okFn ann_track_model_slow Try.f90 = true := by kernel_rfl
theorem lp_track_model_slow (J : Inv) (post : DV → Prop) : AllG J (loopsFn Try.prog tab Skp15 ann_track_model_slow J Try.f90 post) = (True) := by kernel_rfl
theorem spec_track_model_slow (m0 m1 m2 m3 m4 m5 m6 m7 m8 m9 m10 m11 : Int) : vc_track_model_slow m0 m1 m2 m3 m4 m5 m6 m7 m8 m9 m10 m11 (fun r => LeD r (.t (.c (.v (.int .i64 (wr (wr (m7 * m4) * m4))))))) := by
 unfold vc_track_model_slow
 refine lt_i fun x1 h1 => lt_i fun x2 h2 => ?_
 subst h1; subst h2
 exact LeD.refl _
def con_track_model_slow : Con := fun args => match args with
 | [.t (.a [.v (.int .i64 m0), .v (.int .i64 m1), .v (.int .i64 m2), .v (.int .i64 m3), .v (.int .i64 m4), .v (.int .i64 m5), .v (.int .i64 m6), .v (.int .i64 m7), .v (.int .i64 m8), .v (.int .i64 m9), .v (.int .i64 m10), .v (.int .i64 m11)])] => some (.t (.c (.v (.int .i64 (wr (wr (m7 * m4) * m4))))), none, false)
 | _ => none
theorem ok_track_model_slow : Ok Try.prog 90 con_track_model_slow := by
 refine Ok.fn (ann := ann_track_model_slow) mixed tabOK VSkp15 ValidIt.no (fn := Try.f90) (by kernel_rfl) (by kernel_rfl) fit_track_model_slow fun args r pre fresh h hp => ?_
 unfold con_track_model_slow at h
 split at h
 ·rename_i m0 m1 m2 m3 m4 m5 m6 m7 m8 m9 m10 m11
  cases h
  refine ⟨rfl, fun _ _ _ => False, _, LeA.refl _, Nat.le_of_ble_eq_true (by kernel_rfl), ?_, ?_⟩
  ·rw [ev_track_model_slow]; exact spec_track_model_slow m0 m1 m2 m3 m4 m5 m6 m7 m8 m9 m10 m11
  ·rw [lp_track_model_slow]; trivial
 ·cases h
def Skp16 : Sum := addS Skp15 90 con_track_model_slow
theorem VSkp16 : Valid Try.prog Skp16 := Valid.add VSkp15 ok_track_model_slow
def vc_track_model_reached (m0 m1 m2 m3 m4 m5 m6 m7 m8 m9 m10 m11 : Int) (s0 s1 s2 : Int) (p0 p1 p2 p3 : Int) (post : DV → Prop) : Prop := lt (wr (p0 - m0)) fun x1 => lt (wr (p1 - m1)) fun x2 => lt (wr (p2 - m2)) fun x3 => lt (IntKind.i64.wrap (p3 - m3)) fun x4 => (0 ≤ (0 : Int) ∧ (0 : Int) < ((3 : Nat) : Int)) ∧ (lt (IntKind.i64.wrap (m4 * x1)) fun x5 => (0 ≤ (0 : Int) ∧ (0 : Int) < ((3 : Nat) : Int)) ∧ (lt (IntKind.i64.wrap (x4 * s0)) fun x6 => lt (IntKind.i64.wrap (x5 - x6)) fun x7 => (0 ≤ (0 : Int) ∧ (0 : Int) < ((3 : Nat) : Int)) ∧ ((0 ≤ (1 : Int) ∧ (1 : Int) < ((3 : Nat) : Int)) ∧ (lt (IntKind.i64.wrap (m4 * x2)) fun x8 => (0 ≤ (1 : Int) ∧ (1 : Int) < ((3 : Nat) : Int)) ∧ (lt (IntKind.i64.wrap (x4 * s1)) fun x9 => lt (IntKind.i64.wrap (x8 - x9)) fun x10 => (0 ≤ (1 : Int) ∧ (1 : Int) < ((3 : Nat) : Int)) ∧ ((0 ≤ (2 : Int) ∧ (2 : Int) < ((3 : Nat) : Int)) ∧ (lt (IntKind.i64.wrap (m4 * x3)) fun x11 => (0 ≤ (2 : Int) ∧ (2 : Int) < ((3 : Nat) : Int)) ∧ (lt (IntKind.i64.wrap (x4 * s2)) fun x12 => lt (IntKind.i64.wrap (x11 - x12)) fun x13 => (0 ≤ (2 : Int) ∧ (2 : Int) < ((3 : Nat) : Int)) ∧ (lt (dotW (⟨x7, x10, x13⟩ : V3) (⟨s0, s1, s2⟩ : V3)) fun x14 => lt (dotW (⟨x7, x10, x13⟩ : V3) (⟨x7, x10, x13⟩ : V3)) fun x15 => (cond (x15 == (0 : Int)) ((true = true) ∧ (True)) (cond (decide (x14 ≤ (0 : Int))) (lt (IntKind.i64.wrap (x14 * x14)) fun x21 => lt (dotW (⟨s0, s1, s2⟩ : V3) (⟨s0, s1, s2⟩ : V3)) fun x22 => lt (wr (wr (m7 * m4) * m4)) fun x23 => lt (IntKind.i64.wrap (x22 - x23)) fun x24 => lt (IntKind.i64.wrap (x24 * x15)) fun x25 => True) ((false = false) ∧ (True)))) ∧ (lt ((bif (x15 == (0 : Int)) then true else (bif decide (x14 ≤ (0 : Int)) then decide ((IntKind.i64.wrap (x14 * x14)) ≥ (IntKind.i64.wrap ((IntKind.i64.wrap ((dotW (⟨s0, s1, s2⟩ : V3) (⟨s0, s1, s2⟩ : V3)) - (wr (wr (m7 * m4) * m4)))) * x15))) else false))) fun x26 => post (.t (.c (.v (.bool x26))))))))))))))
def ann_track_model_reached : Ann := ⟨fun r => lookA r [(1, ([[], [0], [], [2], [2, 3], [0, 1, 2, 3, 4], [], [6], [], [8], [8, 9], [6, 7, 8, 9, 10], [], [0, 1, 2, 3, 4, 5, 12], [0, 1, 2, 3, 4, 5, 6, 7, 8, 9, 10, 11, 12, 13]], [[18, 7], [18, 7], [18, 7], [18, 7], [18, 7], [7], [18, 7], [7, 18], [18, 7], [18, 7], [7, 18], [18, 7], [18], [9999, 7], []])), (6, ([[], [], [1], [1, 2], [], [4], [4, 5], [1, 2, 3, 4, 5, 6], [], [], [9], [9, 10], [8, 9, 10, 11], [1, 2, 3, 4, 5, 6, 7, 8, 9, 10, 11, 12], [0, 1, 2, 3, 4, 5, 6, 7, 8, 9, 10, 11, 12, 13], [0, 1, 2, 3, 4, 5, 6, 7, 8, 9, 10, 11, 12, 13, 14]], [[], [], [], [], [], [], [], [], [], [], [], [], [], [], [], []])), (8, ([[], [], [0, 1], [], [], [0, 1, 2, 3, 4], [0, 1, 2, 3, 4, 5], [0, 1, 2, 3, 4, 5, 6]], [[46, 49], [46, 49], [49], [46, 49], [46, 49], [], [], []])), (9, ([[], [0], [0, 1], [0, 1, 2], [0, 1, 2, 3], [0, 1, 2, 3, 4], [0, 1, 2, 3, 4, 5], [0, 1, 2, 3, 4, 5], [0, 1, 2, 3, 4, 5, 6, 7], [0, 1, 2, 3, 4, 5], [0, 1, 2, 3, 4, 5], [0, 1, 2, 3, 4, 5, 9, 10], [0, 1, 2, 3, 4, 5], [0, 1, 2, 3, 4, 5, 9, 10, 11, 12], [0, 1, 2, 3, 4, 5, 9, 10, 11, 12, 13], [0, 1, 2, 3, 4, 5], [0, 1, 2, 3, 4, 5, 9, 10, 11, 12, 13, 14, 15], [0, 1, 2, 3, 4, 5, 6, 7, 8, 9, 10, 11, 12, 13, 14, 15, 16], [0, 1, 2, 3, 4, 5, 6, 7, 8, 9, 10, 11, 12, 13, 14, 15, 16, 17], [0, 1, 2, 3, 4, 5, 6, 7, 8, 9, 10, 11, 12, 13, 14, 15, 16, 17, 18], [0, 1, 2, 3, 4, 5, 6, 7, 8, 9, 10, 11, 12, 13, 14, 15, 16, 17, 18, 19]], [[61, 63], [61, 63], [61, 63], [61, 63], [61, 63], [61, 63], [61, 63], [61, 63], [61, 63], [61, 63], [61, 63], [63], [61, 63], [], [], [61, 63], [], [], [], [], []]))], fun b => lookA b [(0, (some 4, some ⟨[3, 4, 7, 8, 9, 25], [3, 4, 7, 9], []⟩))], fun _ => [], noIt, false, fun r => lookA r [(9, (3, [6]))], fun _ => none⟩
theorem ev_track_model_reached (J : Inv) (m0 m1 m2 m3 m4 m5 m6 m7 m8 m9 m10 m11 : Int) (s0 s1 s2 : Int) (p0 p1 p2 p3 : Int) (post : DV → Prop) : evFn Try.prog tab Skp16 ann_track_model_reached J Try.f79 [.t (.a [.v (.int .i64 m0), .v (.int .i64 m1), .v (.int .i64 m2), .v (.int .i64 m3), .v (.int .i64 m4), .v (.int .i64 m5), .v (.int .i64 m6), .v (.int .i64 m7), .v (.int .i64 m8), .v (.int .i64 m9), .v (.int .i64 m10), .v (.int .i64 m11)]), .t (.a [.v (.int .i64 s0), .v (.int .i64 s1), .v (.int .i64 s2)]), .t (.a [.v (.int .i64 p0), .v (.int .i64 p1), .v (.int .i64 p2), .v (.int .i64 p3)])] post = vc_track_model_reached m0 m1 m2 m3 m4 m5 m6 m7 m8 m9 m10 m11 s0 s1 s2 p0 p1 p2 p3 post := by kernel_rfl
theorem fit_track_model_reached : okFn ann_track_model_reached Try.f79 = true := by kernel_rfl
theorem lp_track_model_reached (J : Inv) (post : DV → Prop) : AllG J (loopsFn Try.prog tab Skp16 ann_track_model_reached J Try.f79 post) = (True) := by kernel_rfl
theorem spec_track_model_reached (m0 m1 m2 m3 m4 m5 m6 m7 m8 m9 m10 m11 : Int) (s0 s1 s2 : Int) (p0 p1 p2 p3 : Int) (hp : ((⟨m0, m1, m2, m3, m4, m5, m6, m7, m8, m9, m10, m11⟩ : TMod)).Ok ∧ ((⟨s0, s1, s2⟩ : V3) : V3).inS 20 = true ∧ ((⟨m0, m1, m2, m3, m4, m5, m6, m7, m8, m9, m10, m11⟩ : TMod)).permit (⟨s0, s1, s2⟩ : V3) ∧ (⟨p0, p1, p2⟩ : V3).inS 1000 = true ∧ -1000101 ≤ p3 ∧ p3 ≤ 1000100) : vc_track_model_reached m0 m1 m2 m3 m4 m5 m6 m7 m8 m9 m10 m11 s0 s1 s2 p0 p1 p2 p3 (fun r => LeD r (.t (.c (.v (.bool (((⟨m0, m1, m2, m3, m4, m5, m6, m7, m8, m9, m10, m11⟩ : TMod)).reached (⟨s0, s1, s2⟩ : V3) ⟨p0, p1, p2⟩ p3)))))) := by
 obtain ⟨ho, hs, hpm, hp, ht⟩ := hp
 obtain ⟨n1, n2, n3, nS, na, nb, nc, nbb, nac⟩ := reach_nums ho hs hpm hp ht
 have hw := way_sz ho hs hp ht
 obtain ⟨a1, a2, a3, a4⟩ : (-2000 ≤ p0 - m0 ∧ p0 - m0 ≤ 2000) ∧ (-40000 ≤ m4 * (p0 - m0) ∧ m4 * (p0 - m0) ≤ 40000) ∧ (-1010101 ≤ p3 - m3 ∧ p3 - m3 ≤ 1010101) ∧ (-20202020 ≤ (p3 - m3) * s0 ∧ (p3 - m3) * s0 ≤ 20202020) := way_nums ho hs hp ht 0
 obtain ⟨b1, b2, b3, b4⟩ : (-2000 ≤ p1 - m1 ∧ p1 - m1 ≤ 2000) ∧ (-40000 ≤ m4 * (p1 - m1) ∧ m4 * (p1 - m1) ≤ 40000) ∧ (-1010101 ≤ p3 - m3 ∧ p3 - m3 ≤ 1010101) ∧ (-20202020 ≤ (p3 - m3) * s1 ∧ (p3 - m3) * s1 ≤ 20202020) := way_nums ho hs hp ht 1
 obtain ⟨c1, c2, c3, c4⟩ : (-2000 ≤ p2 - m2 ∧ p2 - m2 ≤ 2000) ∧ (-40000 ≤ m4 * (p2 - m2) ∧ m4 * (p2 - m2) ≤ 40000) ∧ (-1010101 ≤ p3 - m3 ∧ p3 - m3 ≤ 1010101) ∧ (-20202020 ≤ (p3 - m3) * s2 ∧ (p3 - m3) * s2 ≤ 20202020) := way_nums ho hs hp ht 2
 have ks := slow_wi ho
 unfold vc_track_model_reached
 refine lt_i fun x1 h1 => lt_i fun x2 h2 => lt_i fun x3 h3 => lt_i fun x4 h4 => ⟨by decide, lt_i fun x5 h5 => ⟨by decide, lt_i fun x6 h6 => lt_i fun x7 h7 => ⟨by decide, by decide, lt_i fun x8 h8 => ⟨by decide, lt_i fun x9 h9 => lt_i fun x10 h10 => ⟨by decide, by decide, lt_i fun x11 h11 => ⟨by decide, lt_i fun x12 h12 => lt_i fun x13 h13 => ⟨by decide, lt_i fun x14 h14 => lt_i fun x15 h15 => ⟨?_, lt_i fun x26 h26 => leB ?_⟩⟩⟩⟩⟩⟩⟩⟩
 ·(repeat' first | trivial | (refine cond_i ?_ ?_ <;> intro _) | (refine And.intro ?_ ?_) | (refine lt_i ?_; intro _ _))
 rw [wri (by omega)] at h1 h2 h3
 rw [wi (by omega)] at h4
 subst h1 h2 h3 h4
 rw [wi (by omega)] at h5 h6 h8 h9 h11 h12
 subst h5 h6 h8 h9 h11 h12
 rw [wi (by omega)] at h7 h10 h13
 subst h7 h10 h13
 have h14 : dotW (((⟨m0, m1, m2, m3, m4, m5, m6, m7, m8, m9, m10, m11⟩ : TMod)).way ⟨s0, s1, s2⟩ ⟨p0, p1, p2⟩ p3) ⟨s0, s1, s2⟩ = x14 := h14
 have h15 : dotW (((⟨m0, m1, m2, m3, m4, m5, m6, m7, m8, m9, m10, m11⟩ : TMod)).way ⟨s0, s1, s2⟩ ⟨p0, p1, p2⟩ p3) (((⟨m0, m1, m2, m3, m4, m5, m6, m7, m8, m9, m10, m11⟩ : TMod)).way ⟨s0, s1, s2⟩ ⟨p0, p1, p2⟩ p3) = x15 := h15
 rw [dotW_eq hw hs (by decide)] at h14
 rw [dotW_eq hw hw (by decide)] at h15
 subst h14 h15
 rw [← h26, dotW_eq hs hs (by decide)]
 simp only at ks
 rw [ks, wi (n := _ - _) (by omega), wi (n := _ * _) (by omega), wi (n := _ * _) (by omega)]
 unfold TMod.reached reachB
 generalize ((⟨m0, m1, m2, m3, m4, m5, m6, m7, m8, m9, m10, m11⟩ : TMod)).way ⟨s0, s1, s2⟩ ⟨p0, p1, p2⟩ p3 = V
 generalize V.dot V = c
 generalize V.dot (⟨s0, s1, s2⟩ : V3) = b
 generalize (⟨s0, s1, s2⟩ : V3).dot (⟨s0, s1, s2⟩ : V3) - ((⟨m0, m1, m2, m3, m4, m5, m6, m7, m8, m9, m10, m11⟩ : TMod)).slow = a
 have e : ∀ x y z : Bool, (bif x then true else (bif y then z else false)) = (x || (y && z)) := by decide
 rw [e]
 congr 1
def con_track_model_reached : Con := fun args => match args with
 | [.t (.a [.v (.int .i64 m0), .v (.int .i64 m1), .v (.int .i64 m2), .v (.int .i64 m3), .v (.int .i64 m4), .v (.int .i64 m5), .v (.int .i64 m6), .v (.int .i64 m7), .v (.int .i64 m8), .v (.int .i64 m9), .v (.int .i64 m10), .v (.int .i64 m11)]), .t (.a [.v (.int .i64 s0), .v (.int .i64 s1), .v (.int .i64 s2)]), .t (.a [.v (.int .i64 p0), .v (.int .i64 p1), .v (.int .i64 p2), .v (.int .i64 p3)])] => some (.t (.c (.v (.bool (((⟨m0, m1, m2, m3, m4, m5, m6, m7, m8, m9, m10, m11⟩ : TMod)).reached (⟨s0, s1, s2⟩ : V3) ⟨p0, p1, p2⟩ p3)))), some (((⟨m0, m1, m2, m3, m4, m5, m6, m7, m8, m9, m10, m11⟩ : TMod)).Ok ∧ ((⟨s0, s1, s2⟩ : V3) : V3).inS 20 = true ∧ ((⟨m0, m1, m2, m3, m4, m5, m6, m7, m8, m9, m10, m11⟩ : TMod)).permit (⟨s0, s1, s2⟩ : V3) ∧ (⟨p0, p1, p2⟩ : V3).inS 1000 = true ∧ -1000101 ≤ p3 ∧ p3 ≤ 1000100), false)
 | _ => none
theorem ok_track_model_reached : Ok Try.prog 79 con_track_model_reached := by
 refine Ok.fn (ann := ann_track_model_reached) mixed tabOK VSkp16 ValidIt.no (fn := Try.f79) (by kernel_rfl) (by kernel_rfl) fit_track_model_reached fun args r pre fresh h hp => ?_
 unfold con_track_model_reached at h
 split at h
 ·rename_i m0 m1 m2 m3 m4 m5 m6 m7 m8 m9 m10 m11 s0 s1 s2 p0 p1 p2 p3
  cases h
  refine ⟨rfl, fun _ _ _ => False, _, LeA.refl _, Nat.le_of_ble_eq_true (by kernel_rfl), ?_, ?_⟩
  ·rw [ev_track_model_reached]; exact spec_track_model_reached m0 m1 m2 m3 m4 m5 m6 m7 m8 m9 m10 m11 s0 s1 s2 p0 p1 p2 p3 hp
  ·rw [lp_track_model_reached]; trivial
 ·cases h
def Skp17 : Sum := addS Skp16 79 con_track_model_reached
theorem VSkp17 : Valid Try.prog Skp17 := Valid.add VSkp16 ok_track_model_reached
end Go.Proofs.Ytfadkjcfjkmalaa