/- Texts of this claim, together. -/
import Derived.Test.YtkifmfmenobhnaaCQ10
import Derived.Test.YtkifmfmenobhnaaCQ5
import Derived.ProofKit
import Derived.OpenShut
import Derived.ShutString
import Derived.ChangeOld
import Derived.Below
import Derived.Lib.SmallJoins

set_option linter.unusedVariables false
set_option linter.unusedSimpArgs false
namespace Go.Proofs.Ytkifmfmenobhnaa
open Go.RowKit Ev
theorem cond_t {b : Bool} {A B : Prop} (hb : b = true) (h : A) : cond b A B := by rw [hb]; exact h
theorem nums2_gen (l : List (Int × Int)) : numsP 2 l.length (genC (l.map fun x => [.v (.int .i64 x.1), .v (.int .i64 x.2)])) := by
 intro i j hi hj
 rcases (by omega : j = 0 ∨ j = 1) with rfl | rfl <;> simp [genC, List.getD, hi, cvInt]
def tabM (n : Nat) (t : List Int) : Nat → Nat → Int := fun i j => t.getD (i * n + j) far
def AgM (n : Nat) (f : Nat → Nat → Int) (t : List Int) : Prop := t.length = n * n ∧ ∀ x y, x < n → y < n → f x y = tabM n t x y
theorem ix_lt {n i j : Nat} (hi : i < n) (hj : j < n) : i * n + j < n * n := by
 have : (i + 1) * n ≤ n * n := Nat.mul_le_mul_right n hi
 rw [Nat.succ_mul] at this; omega
theorem ix_eq {n i j x y : Nat} (hj : j < n) (hy : y < n) (h : i * n + j = x * n + y) : i = x ∧ j = y := by
 have h1 : (i * n + j) / n = i := by rw [Nat.add_comm, Nat.add_mul_div_right _ _ (by omega), Nat.div_eq_of_lt hj, Nat.zero_add]
 have h2 : (x * n + y) / n = x := by rw [Nat.add_comm, Nat.add_mul_div_right _ _ (by omega), Nat.div_eq_of_lt hy, Nat.zero_add]
 have e : i = x := by rw [← h1, ← h2, h]
 subst e
 exact ⟨rfl, by omega⟩
theorem AgM.upd {n : Nat} {f : Nat → Nat → Int} {t : List Int} (h : AgM n f t) {i j : Nat} (hi : i < n) (hj : j < n) (v : Int) : AgM n (updI f i j v) (t.set (i * n + j) v) := by
 refine ⟨by rw [List.length_set]; exact h.1, fun x y hx hy => ?_⟩
 unfold updI
 by_cases e : x = i ∧ y = j
 ·obtain ⟨rfl, rfl⟩ := e
  rw [if_pos ⟨rfl, rfl⟩]
  simp [tabM, List.getD, h.1, ix_lt hi hj]
 ·rw [if_neg e, h.2 x y hx hy]
  have : i * n + j ≠ x * n + y := fun q => e ⟨(ix_eq hj hy q).1.symm, (ix_eq hj hy q).2.symm⟩
  simp [tabM, List.getD, List.getElem?_set, this]
def stepT (n : Nat) (t : List Int) (k i j : Nat) : List Int := if tabM n t i k < far ∧ tabM n t k j < far then t.set (i * n + j) (min (tabM n t i j) (tabM n t i k + tabM n t k j)) else t
theorem AgM.step {n : Nat} {f : Nat → Nat → Int} {t : List Int} (h : AgM n f t) {k i j : Nat} (hk : k < n) (hi : i < n) (hj : j < n) : AgM n (stepK f k i j) (stepT n t k i j) := by
 unfold stepK stepT
 rw [← h.2 i k hi hk, ← h.2 k j hk hj, ← h.2 i j hi hj]
 split
 ·exact h.upd hi hj _
 ·exact h
def jT (n : Nat) (t : List Int) (k i : Nat) : Nat → List Int
 | 0 => t
 | j + 1 => stepT n (jT n t k i j) k i j
def iT (n : Nat) (t : List Int) (k : Nat) : Nat → List Int
 | 0 => t
 | i + 1 => jT n (iT n t k i) k i n
def kT (n : Nat) (t : List Int) : Nat → List Int
 | 0 => t
 | k + 1 => iT n (kT n t k) k n
theorem AgM.j {n : Nat} {f : Nat → Nat → Int} {t : List Int} (h : AgM n f t) {k i : Nat} (hk : k < n) (hi : i < n) : ∀ j, j ≤ n → AgM n (jK f k i j) (jT n t k i j)
 | 0, _ => h
 | j + 1, hj => (AgM.j h hk hi j (by omega)).step hk hi (by omega)
theorem AgM.i {n : Nat} {f : Nat → Nat → Int} {t : List Int} (h : AgM n f t) {k : Nat} (hk : k < n) : ∀ i, i ≤ n → AgM n (iK f n k i) (iT n t k i)
 | 0, _ => h
 | i + 1, hi => (AgM.i h hk i (by omega)).j hk (by omega) n (Nat.le_refl _)
theorem AgM.k {n : Nat} {f : Nat → Nat → Int} {t : List Int} (h : AgM n f t) : ∀ k, k ≤ n → AgM n (kK f n k) (kT n t k)
 | 0, _ => h
 | k + 1, hk => (AgM.k h k (by omega)).i (by omega) n (Nat.le_refl _)
def lnkT (n : Nat) (t : List Int) (x : Lnk) : List Int := (fun t => t.set (x.to.toNat * n + x.frm.toNat) (min (tabM n t x.to.toNat x.frm.toNat) (-x.lo))) (t.set (x.frm.toNat * n + x.to.toNat) (min (tabM n t x.frm.toNat x.to.toNat) x.hi))
theorem AgM.lnk {n : Nat} {f : Nat → Nat → Int} {t : List Int} (h : AgM n f t) {x : Lnk} (hx : x.ok n) : AgM n (lnkG f x) (lnkT n t x) := by
 obtain ⟨h1, h2, _⟩ := hx
 have g := h.upd (i := x.frm.toNat) (j := x.to.toNat) (by omega) (by omega) (min (tabM n t x.frm.toNat x.to.toNat) x.hi)
 have g2 := g.upd (i := x.to.toNat) (j := x.frm.toNat) (by omega) (by omega) (min (tabM n (t.set (x.frm.toNat * n + x.to.toNat) (min (tabM n t x.frm.toNat x.to.toNat) x.hi)) x.to.toNat x.frm.toNat) (-x.lo))
 rw [← g.2 _ _ (by omega) (by omega), ← h.2 _ _ (by omega) (by omega)] at g2
 unfold lnkG lnkF lnkT
 rw [← h.2 _ _ (by omega) (by omega)]
 rw [← h.2 _ _ (by omega) (by omega)] at g
 dsimp only
 rw [← g.2 _ _ (by omega) (by omega)]
 exact g2
def initT (n : Nat) : List Int := (List.range (n * n)).map fun q => if q / n = q % n then 0 else far
theorem AgM.init {n : Nat} : AgM n initM (initT n) := by
 refine ⟨by simp [initT], fun x y hx hy => ?_⟩
 have h1 : (x * n + y) / n = x := by rw [Nat.add_comm, Nat.add_mul_div_right _ _ (by omega), Nat.div_eq_of_lt hy, Nat.zero_add]
 have h2 : (x * n + y) % n = y := by rw [Nat.add_comm, Nat.add_mul_mod_self_right, Nat.mod_eq_of_lt hy]
 simp [tabM, initT, List.getD, ix_lt hx hy, h1, h2, initM]
def bdT (l : List Lnk) (n : Nat) : List Int := kT n (l.foldl (lnkT n) (initT n)) n
theorem AgM.links {n : Nat} : ∀ {l : List Lnk} {f : Nat → Nat → Int} {t : List Int}, (∀ x ∈ l, x.ok n) → AgM n f t → AgM n (l.foldl lnkG f) (l.foldl (lnkT n) t)
 | [], _, _, _, h => h
 | x :: l, f, t, hx, h => AgM.links (f := lnkG f x) (t := lnkT n t x) (fun y hy => hx y (by simp [hy])) (h.lnk (hx x (by simp)))
theorem lnks_ok {n : Nat} {l : List Lnk} (h : ∀ k, k < l.length → (lnkAt l k).ok n) : ∀ x ∈ l, x.ok n := by
 intro x hx
 obtain ⟨i, hi, e⟩ := List.mem_iff_getElem.1 hx
 have := h i hi
 rwa [show lnkAt l i = x by simp [lnkAt, List.getD, hi, e]] at this
theorem bd_tab {n : Nat} {l : List Lnk} (h : ∀ k, k < l.length → (lnkAt l k).ok n) : AgM n (bdF l n) (bdT l n) := by
 unfold bdF bdT lnkM
 rw [List.take_length]
 exact (AgM.links (lnks_ok h) AgM.init).k n (Nat.le_refl _)
theorem ex_nt : ntE exC exL = 0 := by kernel_rfl
theorem ex_bd (i j : Nat) (hi : i < 3) (hj : j < 3) : bdF exL 3 i j = tabM 3 [0, 7, 9, -5, 0, 2, -7, -1, 0] i j := by
 have h := ntE_bd ex_nt
 have e := (bd_tab (n := 3) h.2.2).2 i j hi hj
 rw [e, show bdT exL 3 = [0, 7, 9, -5, 0, 2, -7, -1, 0] from by kernel_rfl]
theorem ex_bdB : bdB exL exC.length = true := by
 rw [bdB_true]
 intro i hi
 have hi : i < 3 := hi
 rw [show exC.length = 3 from rfl, ex_bd i i hi hi]
 rcases (by omega : i = 0 ∨ i = 1 ∨ i = 2) with rfl | rfl | rfl <;> decide
theorem ex_opn (i : Nat) (hi : i < 3) : opnB exL 3 i = false := by
 unfold opnB
 rw [ex_bd 0 i (by omega) hi, ex_bd i 0 hi (by omega)]
 rcases (by omega : i = 0 ∨ i = 1 ∨ i = 2) with rfl | rfl | rfl <;> decide
theorem ex_ofE : ofE exC exL = 0 := by
 unfold ofE
 rw [if_neg (by rw [ex_nt]; simp), if_pos ex_bdB, if_neg]
 intro h
 unfold ofS at h
 obtain ⟨i, hi, e⟩ := List.any_eq_true.1 h
 rw [show exC.length = 3 from rfl, ex_opn i (List.mem_range.1 hi)] at e
 cases e
theorem ex_ofV : ofV exC exL = [⟨0, 0⟩, ⟨5, 7⟩, ⟨7, 9⟩] := by
 unfold ofV ofK
 rw [if_pos ex_ofE, show exC.length = 3 from rfl]
 simp only [show List.range 3 = [0, 1, 2] from rfl, List.map_cons, List.map_nil]
 rw [ex_bd 0 0 (by omega) (by omega), ex_bd 1 0 (by omega) (by omega), ex_bd 0 1 (by omega) (by omega), ex_bd 2 0 (by omega) (by omega), ex_bd 0 2 (by omega) (by omega)]
 rfl
def vc_law01_awake  (post : DV → Prop) : Prop := (numsP 4 exP.length (pngsC exP)) ∧ ((txP exC.length (txsC exC) ∧ numsP 4 exL.length (lnksC exL) ∧ (∀ k, k < ((txOf exC.length (txsC exC))).length → (txAt (txOf exC.length (txsC exC)) k).size ≤ 1000000)) ∧ ((numsP 1 4 (genC [[.v (.int .i64 7)], [.v (.int .i64 2)], [.v (.int .i64 2)], [.v (.int .i64 9)]]) ∧ (([(7 : Int), (2 : Int), (2 : Int), (9 : Int)] : List Int)).length ≤ 1000000) ∧ ((numsP 2 2 (genC [[.v (.int .i64 100), .v (.int .i64 5)], [.v (.int .i64 200), .v (.int .i64 (-3))]])) ∧ ((numsP 1 6 (genC [[.v (.int .i64 0)], [.v (.int .i64 1)], [.v (.int .i64 2)], [.v (.int .i64 3)], [.v (.int .i64 6)], [.v (.int .i64 0)]]) ∧ numsP 1 4 (genC [[.v (.int .i64 1)], [.v (.int .i64 2)], [.v (.int .i64 3)], [.v (.int .i64 6)]]) ∧ (([(0 : Int), (1 : Int), (2 : Int), (3 : Int), (6 : Int), (0 : Int)] : List Int)).length ≤ 1000000 ∧ (([(1 : Int), (2 : Int), (3 : Int), (6 : Int)] : List Int)).length ≤ 1000000) ∧ (cond ((obE (⟨(100 : Int), (2 : Int)⟩ : Cab) (listC exP.length mkPng (pngsC exP)) (50050 : Int)) == (0 : Int)) (cond (bif (((taV (⟨(100 : Int), (2 : Int)⟩ : Cab) (listC exP.length mkPng (pngsC exP)) (50050 : Int)).lo) == (51045 : Int)) then (bif (((taV (⟨(100 : Int), (2 : Int)⟩ : Cab) (listC exP.length mkPng (pngsC exP)) (50050 : Int)).hi) == (51057 : Int)) then true else false) else false) (cond ((ofE (txOf exC.length (txsC exC)) (listC exL.length mkLnk (lnksC exL))) == (0 : Int)) ((numsP 2 ((ofV (txOf exC.length (txsC exC)) (listC exL.length mkLnk (lnksC exL))).length) (rgsC (ofV (txOf exC.length (txsC exC)) (listC exL.length mkLnk (lnksC exL)))) ∧ numsP 2 3 (genC [[.v (.int .i64 0), .v (.int .i64 0)], [.v (.int .i64 5), .v (.int .i64 7)], [.v (.int .i64 7), .v (.int .i64 9)]]) ∧ ((listC ((ofV (txOf exC.length (txsC exC)) (listC exL.length mkLnk (lnksC exL))).length) mkRg (rgsC (ofV (txOf exC.length (txsC exC)) (listC exL.length mkLnk (lnksC exL)))))).length ≤ 1000000) ∧ (cond (decide ((listC ((ofV (txOf exC.length (txsC exC)) (listC exL.length mkLnk (lnksC exL))).length) mkRg (rgsC (ofV (txOf exC.length (txsC exC)) (listC exL.length mkLnk (lnksC exL))))) = (listC 3 mkRg (genC [[.v (.int .i64 0), .v (.int .i64 0)], [.v (.int .i64 5), .v (.int .i64 7)], [.v (.int .i64 7), .v (.int .i64 9)]])))) (cond ((urE ([(7 : Int), (2 : Int), (2 : Int), (9 : Int)] : List Int) (10 : Int)) == (0 : Int)) ((numsP 1 ((urR ([(7 : Int), (2 : Int), (2 : Int), (9 : Int)] : List Int) (10 : Int)).length) (intsC (urR ([(7 : Int), (2 : Int), (2 : Int), (9 : Int)] : List Int) (10 : Int))) ∧ numsP 1 4 (genC [[.v (.int .i64 7)], [.v (.int .i64 12)], [.v (.int .i64 12)], [.v (.int .i64 19)]]) ∧ ((listC ((urR ([(7 : Int), (2 : Int), (2 : Int), (9 : Int)] : List Int) (10 : Int)).length) mkInt (intsC (urR ([(7 : Int), (2 : Int), (2 : Int), (9 : Int)] : List Int) (10 : Int))))).length ≤ 1000000) ∧ (cond (decide ((listC ((urR ([(7 : Int), (2 : Int), (2 : Int), (9 : Int)] : List Int) (10 : Int)).length) mkInt (intsC (urR ([(7 : Int), (2 : Int), (2 : Int), (9 : Int)] : List Int) (10 : Int)))) = ([(7 : Int), (12 : Int), (12 : Int), (19 : Int)] : List Int))) (cond ((tfE (listC 2 mkLpp (genC [[.v (.int .i64 100), .v (.int .i64 5)], [.v (.int .i64 200), .v (.int .i64 (-3))]])) (203 : Int)) == (0 : Int)) ((numsP 1 ((tfV (listC 2 mkLpp (genC [[.v (.int .i64 100), .v (.int .i64 5)], [.v (.int .i64 200), .v (.int .i64 (-3))]])) (203 : Int)).length) (intsC (tfV (listC 2 mkLpp (genC [[.v (.int .i64 100), .v (.int .i64 5)], [.v (.int .i64 200), .v (.int .i64 (-3))]])) (203 : Int))) ∧ numsP 1 2 (genC [[.v (.int .i64 198)], [.v (.int .i64 201)]]) ∧ ((listC ((tfV (listC 2 mkLpp (genC [[.v (.int .i64 100), .v (.int .i64 5)], [.v (.int .i64 200), .v (.int .i64 (-3))]])) (203 : Int)).length) mkInt (intsC (tfV (listC 2 mkLpp (genC [[.v (.int .i64 100), .v (.int .i64 5)], [.v (.int .i64 200), .v (.int .i64 (-3))]])) (203 : Int))))).length ≤ 1000000) ∧ (cond (decide ((listC ((tfV (listC 2 mkLpp (genC [[.v (.int .i64 100), .v (.int .i64 5)], [.v (.int .i64 200), .v (.int .i64 (-3))]])) (203 : Int)).length) mkInt (intsC (tfV (listC 2 mkLpp (genC [[.v (.int .i64 100), .v (.int .i64 5)], [.v (.int .i64 200), .v (.int .i64 (-3))]])) (203 : Int)))) = ([(198 : Int), (201 : Int)] : List Int))) (cond ((avE ([(0 : Int), (1 : Int), (2 : Int), (3 : Int), (6 : Int), (0 : Int)] : List Int) ([(1 : Int), (2 : Int), (3 : Int), (6 : Int)] : List Int)) == (0 : Int)) (post (.t (.c (.v (.bool ((avV ([(0 : Int), (1 : Int), (2 : Int), (3 : Int), (6 : Int), (0 : Int)] : List Int) ([(1 : Int), (2 : Int), (3 : Int), (6 : Int)] : List Int)) == (1 : Int))))))) ((false = false) ∧ (post (.t (.c (.v (.bool false))))))) ((false = false) ∧ ((false = false) ∧ (post (.t (.c (.v (.bool false))))))))) ((false = false) ∧ ((false = false) ∧ ((false = false) ∧ (post (.t (.c (.v (.bool false))))))))) ((false = false) ∧ ((false = false) ∧ ((false = false) ∧ ((false = false) ∧ (post (.t (.c (.v (.bool false))))))))))) ((false = false) ∧ ((false = false) ∧ ((false = false) ∧ ((false = false) ∧ ((false = false) ∧ (post (.t (.c (.v (.bool false))))))))))) ((false = false) ∧ ((false = false) ∧ ((false = false) ∧ ((false = false) ∧ ((false = false) ∧ ((false = false) ∧ (post (.t (.c (.v (.bool false))))))))))))) ((false = false) ∧ ((false = false) ∧ ((false = false) ∧ ((false = false) ∧ ((false = false) ∧ ((false = false) ∧ ((false = false) ∧ (post (.t (.c (.v (.bool false))))))))))))) ((false = false) ∧ ((false = false) ∧ ((false = false) ∧ ((false = false) ∧ ((false = false) ∧ ((false = false) ∧ ((false = false) ∧ ((false = false) ∧ (post (.t (.c (.v (.bool false)))))))))))))) ((false = false) ∧ ((false = false) ∧ ((false = false) ∧ ((false = false) ∧ ((false = false) ∧ ((false = false) ∧ ((false = false) ∧ ((false = false) ∧ ((false = false) ∧ (post (.t (.c (.v (.bool false)))))))))))))))))))
def ann_law01_awake : Ann := ⟨fun _ => none, fun _ => none, fun _ => [], I1, false, fun _ => none, fun _ => none⟩
theorem ev_law01_awake (J : Inv)  (post : DV → Prop) : evFn Try.prog tab Sw100 ann_law01_awake J Try.f15 [] post = vc_law01_awake  post := by kernel_rfl
theorem fit_law01_awake : okFn ann_law01_awake Try.f15 = true := by kernel_rfl
theorem lp_law01_awake (J : Inv) (post : DV → Prop) : AllG J (loopsFn Try.prog tab Sw100 ann_law01_awake J Try.f15 post) = (True) := by kernel_rfl
set_option maxHeartbeats 8000000 in
set_option maxRecDepth 100000 in
theorem spec_law01_awake  : vc_law01_awake  (fun r => LeD r (.t (.c (.v (.bool true))))) := by
 unfold vc_law01_awake
 rw [pngs_listC, txs_of, lnks_listC, rgs_listC, ints_listC, ints_listC]
 have hs : ∀ k, k < exC.length → (txAt exC k).size ≤ 1000000 := by
  intro k hk
  have hk : k < 3 := hk
  rcases (by omega : k = 0 ∨ k = 1 ∨ k = 2) with rfl | rfl | rfl <;> decide
 refine ⟨numsP_pngs _, ⟨txP_txs _, numsP_lnks _, hs⟩, ⟨numsP_gen [_, _, _, _], by decide⟩, nums2_gen [(100, 5), (200, -3)], ⟨numsP_gen [_, _, _, _, _, _], numsP_gen [_, _, _, _], by decide, by decide⟩, ?_⟩
 refine cond_t (by kernel_rfl) (cond_t (by kernel_rfl) (cond_t (by rw [ex_ofE]; rfl) ⟨⟨numsP_rgs _, nums2_gen [(0, 0), (5, 7), (7, 9)], by rw [ex_ofV]; decide⟩, cond_t (by rw [ex_ofV]; kernel_rfl) (cond_t (by kernel_rfl) ⟨⟨numsP_ints _, numsP_gen [_, _, _, _], by decide⟩, cond_t (by kernel_rfl) (cond_t (by kernel_rfl) ⟨⟨numsP_ints _, numsP_gen [_, _], by decide⟩, cond_t (by kernel_rfl) (cond_t (by kernel_rfl) (leB (by kernel_rfl)))⟩)⟩)⟩))
def con_law01_awake : Con := fun args => match args with
 | [] => some (.t (.c (.v (.bool true))), none, false)
 | _ => none
theorem ok_law01_awake : Ok Try.prog 15 con_law01_awake := by
 refine Ok.fn (ann := ann_law01_awake) mixed tabOK VSw100 VI1 (fn := Try.f15) (by kernel_rfl) (by kernel_rfl) fit_law01_awake fun args r pre fresh h hp => ?_
 unfold con_law01_awake at h
 split at h
 ·cases h
  refine ⟨rfl, fun _ _ _ => False, _, LeA.refl _, Nat.le_of_ble_eq_true (by kernel_rfl), ?_, ?_⟩
  ·rw [ev_law01_awake]; exact spec_law01_awake 
  ·rw [lp_law01_awake]; trivial
 ·cases h
def Sy101 : Sum := addS Sw100 15 con_law01_awake
theorem VSy101 : Valid Try.prog Sy101 := Valid.add VSw100 ok_law01_awake
end Go.Proofs.Ytkifmfmenobhnaa
set_option linter.unusedVariables false
set_option linter.unusedSimpArgs false
namespace Go.Proofs.Ytkifmfmenobhnaa
open Go.RowKit Ev
theorem n00 : (((0 : Nat) : Int)) = 0 := rfl
theorem lt_v {α : Type} (v : α) (k : α → Prop) : lt v k = k v := by unfold lt; rfl
end Go.Proofs.Ytkifmfmenobhnaa
set_option linter.unusedVariables false
set_option linter.unusedSimpArgs false
namespace Go.Proofs.Ytkifmfmenobhnaa
open Go.RowKit Ev
theorem q2a : ((2 : Int) == 0) = false := rfl
theorem q2b : ((2 : Int) != 0) = true := rfl
theorem q12a : ((12 : Int) == 0) = false := rfl
theorem q12b : ((12 : Int) != 0) = true := rfl
theorem q13a : ((13 : Int) == 0) = false := rfl
theorem q13b : ((13 : Int) != 0) = true := rfl
theorem urV_len (l : List Int) (p : Int) : (urV l p).length = l.length := by simp [urV, urK]
theorem tfV_len (l : List Lp) (n : Int) : (tfV l n).length ≤ l.length + 1 := by
 unfold tfV
 split
 ·exact tfK_len l n _
 ·simp
theorem ur_cases (l : List Int) (p : Int) : ((urE l p != 0) = true ∧ (urE l p == 0) = false ∧ urR l p = [] ∧ True) ∨ (urE l p = 0 ∧ urR l p = urV l p) := by
 by_cases h : urE l p = 0
 ·exact Or.inr ⟨h, if_pos h⟩
 ·exact Or.inl ⟨by simpa using h, by simpa using h, if_neg h, trivial⟩
theorem tl_cases (q : List Lp) (n : Int) : ((lpE q == 0) = false ∧ (lpE q != 0) = true ∧ laE q n = lpE q ∧ laV q n = 0 ∧ tfE q n = lpE q ∧ tfV q n = []) ∨
  (lpE q = 0 ∧ tkB n = false ∧ inB n (-2000000000000) 2000000000000 = false ∧ laE q n = 2 ∧ laV q n = 0 ∧ tfE q n = 2 ∧ tfV q n = []) ∨
  (lpE q = 0 ∧ tkB n = false ∧ inB n (-2000000000000) 2000000000000 = true ∧ laE q n = 2 ∧ laV q n = 0 ∧ tfE q n = 0 ∧ True ∧ True) ∨
  (lpE q = 0 ∧ tkB n = true ∧ inB n (-2000000000000) 2000000000000 = true ∧ laE q n = 0 ∧ laV q n = labelI q n ∧ tfE q n = 0 ∧ True) := by
 by_cases h : lpE q = 0
 ·have e1 : laE q n = unl (tkB n) 2 := by unfold laE; rw [h]; cases tkB n <;> rfl
  have e2 : tfE q n = unl (inB n (-2000000000000) 2000000000000) 2 := by unfold tfE; rw [h]; cases inB n (-2000000000000) 2000000000000 <;> rfl
  cases a : tkB n with
  | true =>
   have b : inB n (-2000000000000) 2000000000000 = true := by have := tkB_iff.1 a; rw [inB_true]; omega
   rw [a] at e1; rw [b] at e2
   exact Or.inr (Or.inr (Or.inr ⟨h, rfl, b, e1, if_pos e1, e2, trivial⟩))
  | false =>
   rw [a] at e1
   have e1 : laE q n = 2 := e1
   have e3 : laV q n = 0 := if_neg (by rw [e1]; decide)
   cases b : inB n (-2000000000000) 2000000000000 with
   | true => rw [b] at e2; exact Or.inr (Or.inr (Or.inl ⟨h, rfl, rfl, e1, e3, e2, trivial, trivial⟩))
   | false =>
    rw [b] at e2
    have e2 : tfE q n = 2 := e2
    exact Or.inr (Or.inl ⟨h, rfl, rfl, e1, e3, e2, if_neg (by rw [e2]; decide)⟩)
 ·have e1 : laE q n = lpE q := by unfold laE; simp [firstNZ, h]
  have e2 : tfE q n = lpE q := by unfold tfE; simp [firstNZ, h]
  exact Or.inl ⟨by simpa using h, by simpa using h, e1, if_neg (by rw [e1]; exact h), e2, if_neg (by rw [e2]; exact h)⟩
def vc_law01_ClockCounters (l : List Int) (per : Int) (q : List Lp) (lb : Int) (post : DV → Prop) : Prop := (cond (decide (((l.length : Nat) : Int) > (42 : Int))) ((true = true) ∧ (True)) (True)) ∧ (lt ((bif decide (((l.length : Nat) : Int) > (42 : Int)) then true else decide (((q.length : Nat) : Int) > (12 : Int)))) fun x1 => cond x1 (post (.t (.c (.v (.bool true))))) ((numsP 1 l.length (intsC l) ∧ ((listC l.length mkInt (intsC l))).length ≤ 1000) ∧ ((numsP 1 ((listC l.length mkInt (intsC l)).length) (intsC (listC l.length mkInt (intsC l))) ∧ ((listC ((listC l.length mkInt (intsC l)).length) mkInt (intsC (listC l.length mkInt (intsC l))))).length ≤ 1000000) ∧ ((numsP 2 q.length (lppsC q) ∧ ((listC q.length mkLpp (lppsC q))).length ≤ 1000) ∧ ((numsP 2 ((listC q.length mkLpp (lppsC q)).length) (lppsC (listC q.length mkLpp (lppsC q)))) ∧ ((numsP 2 q.length (lppsC q) ∧ ((listC q.length mkLpp (lppsC q))).length ≤ 1000) ∧ ((numsP 2 ((listC q.length mkLpp (lppsC q)).length) (lppsC (listC q.length mkLpp (lppsC q)))) ∧ ((numsP 1 l.length (intsC l)) ∧ ((cond ((urE (listC l.length mkInt (intsC l)) per) != (0 : Int)) (cond ((urE (listC ((listC l.length mkInt (intsC l)).length) mkInt (intsC (listC l.length mkInt (intsC l)))) per) != (urE (listC l.length mkInt (intsC l)) per)) ((true = true) ∧ ((true = true) ∧ (True))) (cond ((((urR (listC ((listC l.length mkInt (intsC l)).length) mkInt (intsC (listC l.length mkInt (intsC l)))) per).length : Nat) : Int) != (0 : Int)) ((true = true) ∧ (True)) (cond ((urE (listC l.length mkInt (intsC l)) per) == (0 : Int)) (cond ((urE (listC ((listC l.length mkInt (intsC l)).length) mkInt (intsC (listC l.length mkInt (intsC l)))) per) != (0 : Int)) ((true = true) ∧ (True)) ((numsP 1 l.length (intsC l) ∧ urE (listC l.length mkInt (intsC l)) per = 0) ∧ ((numsP 1 ((urR (listC ((listC l.length mkInt (intsC l)).length) mkInt (intsC (listC l.length mkInt (intsC l)))) per).length) (intsC (urR (listC ((listC l.length mkInt (intsC l)).length) mkInt (intsC (listC l.length mkInt (intsC l)))) per)) ∧ numsP 1 ((urV (listC l.length mkInt (intsC l)) per).length) (intsC (urV (listC l.length mkInt (intsC l)) per)) ∧ ((listC ((urR (listC ((listC l.length mkInt (intsC l)).length) mkInt (intsC (listC l.length mkInt (intsC l)))) per).length) mkInt (intsC (urR (listC ((listC l.length mkInt (intsC l)).length) mkInt (intsC (listC l.length mkInt (intsC l)))) per)))).length ≤ 1000000) ∧ (True)))) ((false = false) ∧ (True))))) ((false = false) ∧ (cond ((urE (listC l.length mkInt (intsC l)) per) == (0 : Int)) (cond ((urE (listC ((listC l.length mkInt (intsC l)).length) mkInt (intsC (listC l.length mkInt (intsC l)))) per) != (0 : Int)) ((true = true) ∧ (True)) ((numsP 1 l.length (intsC l) ∧ urE (listC l.length mkInt (intsC l)) per = 0) ∧ ((numsP 1 ((urR (listC ((listC l.length mkInt (intsC l)).length) mkInt (intsC (listC l.length mkInt (intsC l)))) per).length) (intsC (urR (listC ((listC l.length mkInt (intsC l)).length) mkInt (intsC (listC l.length mkInt (intsC l)))) per)) ∧ numsP 1 ((urV (listC l.length mkInt (intsC l)) per).length) (intsC (urV (listC l.length mkInt (intsC l)) per)) ∧ ((listC ((urR (listC ((listC l.length mkInt (intsC l)).length) mkInt (intsC (listC l.length mkInt (intsC l)))) per).length) mkInt (intsC (urR (listC ((listC l.length mkInt (intsC l)).length) mkInt (intsC (listC l.length mkInt (intsC l)))) per)))).length ≤ 1000000) ∧ (True)))) ((false = false) ∧ (True))))) ∧ (lt ((bif ((urE (listC l.length mkInt (intsC l)) per) != (0 : Int)) then (bif ((urE (listC ((listC l.length mkInt (intsC l)).length) mkInt (intsC (listC l.length mkInt (intsC l)))) per) != (urE (listC l.length mkInt (intsC l)) per)) then true else (bif ((((urR (listC ((listC l.length mkInt (intsC l)).length) mkInt (intsC (listC l.length mkInt (intsC l)))) per).length : Nat) : Int) != (0 : Int)) then true else (bif ((urE (listC l.length mkInt (intsC l)) per) == (0 : Int)) then (bif ((urE (listC ((listC l.length mkInt (intsC l)).length) mkInt (intsC (listC l.length mkInt (intsC l)))) per) != (0 : Int)) then true else (!(decide ((listC ((urR (listC ((listC l.length mkInt (intsC l)).length) mkInt (intsC (listC l.length mkInt (intsC l)))) per).length) mkInt (intsC (urR (listC ((listC l.length mkInt (intsC l)).length) mkInt (intsC (listC l.length mkInt (intsC l)))) per))) = (listC ((urV (listC l.length mkInt (intsC l)) per).length) mkInt (intsC (urV (listC l.length mkInt (intsC l)) per))))))) else false))) else (bif ((urE (listC l.length mkInt (intsC l)) per) == (0 : Int)) then (bif ((urE (listC ((listC l.length mkInt (intsC l)).length) mkInt (intsC (listC l.length mkInt (intsC l)))) per) != (0 : Int)) then true else (!(decide ((listC ((urR (listC ((listC l.length mkInt (intsC l)).length) mkInt (intsC (listC l.length mkInt (intsC l)))) per).length) mkInt (intsC (urR (listC ((listC l.length mkInt (intsC l)).length) mkInt (intsC (listC l.length mkInt (intsC l)))) per))) = (listC ((urV (listC l.length mkInt (intsC l)) per).length) mkInt (intsC (urV (listC l.length mkInt (intsC l)) per))))))) else false))) fun x2 => cond x2 (post (.t (.c (.v (.bool false))))) ((numsP 2 q.length (lppsC q)) ∧ ((cond ((lpE (listC q.length mkLpp (lppsC q))) == (0 : Int)) (True) ((false = false) ∧ (True))) ∧ (lt ((bif ((lpE (listC q.length mkLpp (lppsC q))) == (0 : Int)) then (!(tkB lb)) else false)) fun x3 => (cond x3 (True) (True)) ∧ (lt ((bif x3 then (2 : Int) else lpE (listC q.length mkLpp (lppsC q)))) fun x4 => (cond ((lpE (listC q.length mkLpp (lppsC q))) == (0 : Int)) (True) ((false = false) ∧ (True))) ∧ (lt ((bif ((lpE (listC q.length mkLpp (lppsC q))) == (0 : Int)) then (!(inB lb (-2000000000000 : Int) (2000000000000 : Int))) else false)) fun x5 => (cond x5 (True) (True)) ∧ (lt ((bif x5 then (2 : Int) else lpE (listC q.length mkLpp (lppsC q)))) fun x6 => (cond (x4 != (0 : Int)) (cond ((laE (listC ((listC q.length mkLpp (lppsC q)).length) mkLpp (lppsC (listC q.length mkLpp (lppsC q)))) lb) != x4) ((true = true) ∧ ((true = true) ∧ (True))) (cond ((laV (listC ((listC q.length mkLpp (lppsC q)).length) mkLpp (lppsC (listC q.length mkLpp (lppsC q)))) lb) != (0 : Int)) ((true = true) ∧ (True)) (cond (x4 == (0 : Int)) (cond ((laE (listC ((listC q.length mkLpp (lppsC q)).length) mkLpp (lppsC (listC q.length mkLpp (lppsC q)))) lb) != (0 : Int)) ((true = true) ∧ (True)) ((numsP 2 q.length (lppsC q) ∧ lpE (listC q.length mkLpp (lppsC q)) = 0 ∧ tkB lb = true) ∧ (True))) ((false = false) ∧ (True))))) ((false = false) ∧ (cond (x4 == (0 : Int)) (cond ((laE (listC ((listC q.length mkLpp (lppsC q)).length) mkLpp (lppsC (listC q.length mkLpp (lppsC q)))) lb) != (0 : Int)) ((true = true) ∧ (True)) ((numsP 2 q.length (lppsC q) ∧ lpE (listC q.length mkLpp (lppsC q)) = 0 ∧ tkB lb = true) ∧ (True))) ((false = false) ∧ (True))))) ∧ (lt ((bif (x4 != (0 : Int)) then (bif ((laE (listC ((listC q.length mkLpp (lppsC q)).length) mkLpp (lppsC (listC q.length mkLpp (lppsC q)))) lb) != x4) then true else (bif ((laV (listC ((listC q.length mkLpp (lppsC q)).length) mkLpp (lppsC (listC q.length mkLpp (lppsC q)))) lb) != (0 : Int)) then true else (bif (x4 == (0 : Int)) then (bif ((laE (listC ((listC q.length mkLpp (lppsC q)).length) mkLpp (lppsC (listC q.length mkLpp (lppsC q)))) lb) != (0 : Int)) then true else ((laV (listC ((listC q.length mkLpp (lppsC q)).length) mkLpp (lppsC (listC q.length mkLpp (lppsC q)))) lb) != (labelI (listC q.length mkLpp (lppsC q)) lb))) else false))) else (bif (x4 == (0 : Int)) then (bif ((laE (listC ((listC q.length mkLpp (lppsC q)).length) mkLpp (lppsC (listC q.length mkLpp (lppsC q)))) lb) != (0 : Int)) then true else ((laV (listC ((listC q.length mkLpp (lppsC q)).length) mkLpp (lppsC (listC q.length mkLpp (lppsC q)))) lb) != (labelI (listC q.length mkLpp (lppsC q)) lb))) else false))) fun x7 => cond x7 (post (.t (.c (.v (.bool false))))) (cond (x6 != (0 : Int)) ((cond ((tfE (listC ((listC q.length mkLpp (lppsC q)).length) mkLpp (lppsC (listC q.length mkLpp (lppsC q)))) lb) == x6) (True) ((false = false) ∧ (True))) ∧ (lt ((bif ((tfE (listC ((listC q.length mkLpp (lppsC q)).length) mkLpp (lppsC (listC q.length mkLpp (lppsC q)))) lb) == x6) then ((((tfV (listC ((listC q.length mkLpp (lppsC q)).length) mkLpp (lppsC (listC q.length mkLpp (lppsC q)))) lb).length : Nat) : Int) == (0 : Int)) else false)) fun x8 => post (.t (.c (.v (.bool x8)))))) ((cond ((tfE (listC ((listC q.length mkLpp (lppsC q)).length) mkLpp (lppsC (listC q.length mkLpp (lppsC q)))) lb) == (0 : Int)) ((numsP 2 q.length (lppsC q) ∧ tfE (listC q.length mkLpp (lppsC q)) lb = 0) ∧ ((numsP 1 ((tfV (listC ((listC q.length mkLpp (lppsC q)).length) mkLpp (lppsC (listC q.length mkLpp (lppsC q)))) lb).length) (intsC (tfV (listC ((listC q.length mkLpp (lppsC q)).length) mkLpp (lppsC (listC q.length mkLpp (lppsC q)))) lb)) ∧ numsP 1 ((tfV (listC q.length mkLpp (lppsC q)) lb).length) (intsC (tfV (listC q.length mkLpp (lppsC q)) lb)) ∧ ((listC ((tfV (listC ((listC q.length mkLpp (lppsC q)).length) mkLpp (lppsC (listC q.length mkLpp (lppsC q)))) lb).length) mkInt (intsC (tfV (listC ((listC q.length mkLpp (lppsC q)).length) mkLpp (lppsC (listC q.length mkLpp (lppsC q)))) lb)))).length ≤ 1000000) ∧ (True))) ((false = false) ∧ (True))) ∧ (lt ((bif ((tfE (listC ((listC q.length mkLpp (lppsC q)).length) mkLpp (lppsC (listC q.length mkLpp (lppsC q)))) lb) == (0 : Int)) then decide ((listC ((tfV (listC ((listC q.length mkLpp (lppsC q)).length) mkLpp (lppsC (listC q.length mkLpp (lppsC q)))) lb).length) mkInt (intsC (tfV (listC ((listC q.length mkLpp (lppsC q)).length) mkLpp (lppsC (listC q.length mkLpp (lppsC q)))) lb))) = (listC ((tfV (listC q.length mkLpp (lppsC q)) lb).length) mkInt (intsC (tfV (listC q.length mkLpp (lppsC q)) lb)))) else false)) fun x9 => post (.t (.c (.v (.bool x9))))))))))))))))))))))))
def ann_law01_ClockCounters : Ann := ⟨fun r => lookA r [(5, ([[], [0], [0, 1], [], [3], [0, 1, 2, 3, 4], [0, 1, 2, 3, 4, 5], [0, 1, 2, 3, 4, 5, 6], [0, 1, 2, 3, 4, 5, 6], [0, 1, 2, 3, 4, 5, 6, 7], [0, 1, 2, 3, 4, 5, 6, 7, 8, 9]], [[30, 33], [30, 33], [33], [30, 33], [30, 33], [], [], [], [], [], []]))], fun _ => none, fun _ => [], I1, false, fun r => lookA r [(3, (5, [26])), (9, (3, [84])), (13, (3, [94])), (15, (3, [101])), (17, (3, [127])), (20, (4, [6])), (21, (3, [6]))], fun r => lookA r [(14, [14]), (16, [15])]⟩
theorem ev_law01_ClockCounters (J : Inv) (l : List Int) (per : Int) (q : List Lp) (lb : Int) (post : DV → Prop) : evFn Try.prog tab Sy101 ann_law01_ClockCounters J Try.f3 [.t (.a [.sl 1 l.length (intsC l), .v (.int .i64 per)]), .t (.c (.sl 2 q.length (lppsC q))), .t (.c (.v (.int .i64 lb)))] post = vc_law01_ClockCounters l per q lb post := by kernel_rfl
theorem fit_law01_ClockCounters : okFn ann_law01_ClockCounters Try.f3 = true := by kernel_rfl
theorem lp_law01_ClockCounters (J : Inv) (post : DV → Prop) : AllG J (loopsFn Try.prog tab Sy101 ann_law01_ClockCounters J Try.f3 post) = (True) := by kernel_rfl
set_option maxHeartbeats 8000000 in
set_option maxRecDepth 100000 in
theorem spec_law01_ClockCounters (l : List Int) (per : Int) (q : List Lp) (lb : Int) : vc_law01_ClockCounters l per q lb (fun r => LeD r (.t (.c (.v (.bool true))))) := by
 unfold vc_law01_ClockCounters
 simp only [ints_listC, lpps_listC, pngs_listC, rgs_listC]
 have n1 := numsP_ints l
 have n2 := numsP_lpps q
 have u1 := urV_len l per
 have u2 := tfV_len q lb
 by_cases hl : l.length ≤ 42
 case neg =>
  simp only [decide_eq_true (show ((l.length : Nat) : Int) > 42 by omega), n00, beq_self_eq_true, bne_self_eq_false, Bool.not_true, Bool.not_false, _root_.cond_true, _root_.cond_false, decide_true, eq_self_iff_true, List.length_nil, lt_v, q2a, q2b, q12a, q12b, q13a, q13b]
  (repeat' with_reducible first | assumption | trivial | (refine And.intro ?_ ?_))
  all_goals first | omega | exact LeD.refl _ | exact leB rfl | exact numsP_ints _
 by_cases hq : q.length ≤ 12
 case neg =>
  simp only [decide_eq_false (show ¬ ((l.length : Nat) : Int) > 42 by omega), decide_eq_true (show ((q.length : Nat) : Int) > 12 by omega), n00, beq_self_eq_true, bne_self_eq_false, Bool.not_true, Bool.not_false, _root_.cond_true, _root_.cond_false, decide_true, eq_self_iff_true, List.length_nil, lt_v, q2a, q2b, q12a, q12b, q13a, q13b]
  (repeat' with_reducible first | assumption | trivial | (refine And.intro ?_ ?_))
  all_goals first | omega | exact LeD.refl _ | exact leB rfl | exact numsP_ints _
 simp only [decide_eq_false (show ¬ ((l.length : Nat) : Int) > 42 by omega), decide_eq_false (show ¬ ((q.length : Nat) : Int) > 12 by omega), n00, beq_self_eq_true, bne_self_eq_false, Bool.not_true, Bool.not_false, _root_.cond_true, _root_.cond_false, decide_true, eq_self_iff_true, List.length_nil, lt_v, q2a, q2b, q12a, q12b, q13a, q13b]
 rcases ur_cases l per with ⟨a1, a2, a3, a4⟩ | ⟨a1, a2⟩
 ·simp only [a1, a2, a3, n00, beq_self_eq_true, bne_self_eq_false, Bool.not_true, Bool.not_false, _root_.cond_true, _root_.cond_false, decide_true, eq_self_iff_true, List.length_nil, lt_v, q2a, q2b, q12a, q12b, q13a, q13b]
  rcases tl_cases q lb with ⟨b1, b2, b3, b4, b5, b6⟩ | ⟨b1, b2, b3, b4, b5, b6, b7⟩ | ⟨b1, b2, b3, b4, b5, b6, b7, b8⟩ | ⟨b1, b2, b3, b4, b5, b6, b7⟩
  ·simp only [b1, b2, b3, b4, b5, b6, n00, beq_self_eq_true, bne_self_eq_false, Bool.not_true, Bool.not_false, _root_.cond_true, _root_.cond_false, decide_true, eq_self_iff_true, List.length_nil, lt_v, q2a, q2b, q12a, q12b, q13a, q13b]
   (repeat' with_reducible first | assumption | trivial | (refine And.intro ?_ ?_))
   all_goals first | omega | exact LeD.refl _ | exact leB rfl | exact numsP_ints _
  ·simp only [b1, b2, b3, b4, b5, b6, b7, n00, beq_self_eq_true, bne_self_eq_false, Bool.not_true, Bool.not_false, _root_.cond_true, _root_.cond_false, decide_true, eq_self_iff_true, List.length_nil, lt_v, q2a, q2b, q12a, q12b, q13a, q13b]
   (repeat' with_reducible first | assumption | trivial | (refine And.intro ?_ ?_))
   all_goals first | omega | exact LeD.refl _ | exact leB rfl | exact numsP_ints _
  ·simp only [b1, b2, b3, b4, b5, b6, n00, beq_self_eq_true, bne_self_eq_false, Bool.not_true, Bool.not_false, _root_.cond_true, _root_.cond_false, decide_true, eq_self_iff_true, List.length_nil, lt_v, q2a, q2b, q12a, q12b, q13a, q13b]
   (repeat' with_reducible first | assumption | trivial | (refine And.intro ?_ ?_))
   all_goals first | omega | exact LeD.refl _ | exact leB rfl | exact numsP_ints _
  ·simp only [b1, b2, b3, b4, b5, b6, n00, beq_self_eq_true, bne_self_eq_false, Bool.not_true, Bool.not_false, _root_.cond_true, _root_.cond_false, decide_true, eq_self_iff_true, List.length_nil, lt_v, q2a, q2b, q12a, q12b, q13a, q13b]
   (repeat' with_reducible first | assumption | trivial | (refine And.intro ?_ ?_))
   all_goals first | omega | exact LeD.refl _ | exact leB rfl | exact numsP_ints _
 ·simp only [a1, a2, n00, beq_self_eq_true, bne_self_eq_false, Bool.not_true, Bool.not_false, _root_.cond_true, _root_.cond_false, decide_true, eq_self_iff_true, List.length_nil, lt_v, q2a, q2b, q12a, q12b, q13a, q13b]
  rcases tl_cases q lb with ⟨b1, b2, b3, b4, b5, b6⟩ | ⟨b1, b2, b3, b4, b5, b6, b7⟩ | ⟨b1, b2, b3, b4, b5, b6, b7, b8⟩ | ⟨b1, b2, b3, b4, b5, b6, b7⟩
  ·simp only [b1, b2, b3, b4, b5, b6, n00, beq_self_eq_true, bne_self_eq_false, Bool.not_true, Bool.not_false, _root_.cond_true, _root_.cond_false, decide_true, eq_self_iff_true, List.length_nil, lt_v, q2a, q2b, q12a, q12b, q13a, q13b]
   (repeat' with_reducible first | assumption | trivial | (refine And.intro ?_ ?_))
   all_goals first | omega | exact LeD.refl _ | exact leB rfl | exact numsP_ints _
  ·simp only [b1, b2, b3, b4, b5, b6, b7, n00, beq_self_eq_true, bne_self_eq_false, Bool.not_true, Bool.not_false, _root_.cond_true, _root_.cond_false, decide_true, eq_self_iff_true, List.length_nil, lt_v, q2a, q2b, q12a, q12b, q13a, q13b]
   (repeat' with_reducible first | assumption | trivial | (refine And.intro ?_ ?_))
   all_goals first | omega | exact LeD.refl _ | exact leB rfl | exact numsP_ints _
  ·simp only [b1, b2, b3, b4, b5, b6, n00, beq_self_eq_true, bne_self_eq_false, Bool.not_true, Bool.not_false, _root_.cond_true, _root_.cond_false, decide_true, eq_self_iff_true, List.length_nil, lt_v, q2a, q2b, q12a, q12b, q13a, q13b]
   (repeat' with_reducible first | assumption | trivial | (refine And.intro ?_ ?_))
   all_goals first | omega | exact LeD.refl _ | exact leB rfl | exact numsP_ints _
  ·simp only [b1, b2, b3, b4, b5, b6, n00, beq_self_eq_true, bne_self_eq_false, Bool.not_true, Bool.not_false, _root_.cond_true, _root_.cond_false, decide_true, eq_self_iff_true, List.length_nil, lt_v, q2a, q2b, q12a, q12b, q13a, q13b]
   (repeat' with_reducible first | assumption | trivial | (refine And.intro ?_ ?_))
   all_goals first | omega | exact LeD.refl _ | exact leB rfl | exact numsP_ints _
theorem law_law01_ClockCounters (l : List Int) (per : Int) (q : List Lp) (lb : Int) (W : World) (N : Nat → Prop) (vs : List Value) (h : All2 (RelD (RelF W N)) [.t (.a [.sl 1 l.length (intsC l), .v (.int .i64 per)]), .t (.c (.sl 2 q.length (lppsC q))), .t (.c (.v (.int .i64 lb)))] vs) : Calls Try.prog 3 vs.toArray W fun e w' => e = .returned (.bool true) ∧ Below W.heap.size W w' :=
 law_end (fn_sound mixed tabOK VSy101 (ann := ann_law01_ClockCounters) VI1 (fn := Try.f3) (J := fun _ _ _ => False) (by kernel_rfl) fit_law01_ClockCounters (args := [.t (.a [.sl 1 l.length (intsC l), .v (.int .i64 per)]), .t (.c (.sl 2 q.length (lppsC q))), .t (.c (.v (.int .i64 lb)))]) (post := (fun r => LeD r (.t (.c (.v (.bool true)))))) (by rw [ev_law01_ClockCounters]; exact spec_law01_ClockCounters l per q lb) (by rw [lp_law01_ClockCounters]; trivial) (Nat.le_of_ble_eq_true (by kernel_rfl)) W N vs trivial h)
end Go.Proofs.Ytkifmfmenobhnaa
set_option linter.unusedVariables false
set_option linter.unusedSimpArgs false
namespace Go.Proofs.Ytkifmfmenobhnaa
open Go.RowKit
section
variable {H : Type} {enc : TypeId × Value → H} {P : Program} {w : World} {base : Nat} {spare : Nat → Bool} {held : Bool}
theorem cell_lt {w : World} {a : Addr} {v : Value} (h : w.cell? a = some v) : a.block < w.heap.size := by
 unfold World.cell? at h
 cases e : w.heap[a.block]? with
 | none => simp [e] at h
 | some o => exact (Array.getElem?_eq_some_iff.1 e).1
theorem list_of {α : Type} (d : α) : ∀ (n : Nat) {R : Nat → α → Prop}, (∀ i, i < n → ∃ x, R i x) → ∃ l : List α, l.length = n ∧ ∀ i, i < n → R i (l.getD i d) := by
 intro n
 induction n with
 | zero => intro R _; exact ⟨[], rfl, fun i hi => absurd hi (by omega)⟩
 | succ n ih =>
  intro R h
  obtain ⟨l, hl, hr⟩ := ih (fun i hi => h i (by omega))
  obtain ⟨x, hx⟩ := h n (by omega)
  refine ⟨l ++ [x], by simp [hl], fun i hi => ?_⟩
  rcases Nat.lt_or_ge i n with h1 | h1
  ·have : (l ++ [x]).getD i d = l.getD i d := by simp [List.getD, List.getElem?_append_left (show i < l.length by omega)]
   rw [this]; exact hr i h1
  ·have e : i = n := by omega
   subst e
   have : (l ++ [x]).getD i d = x := by rw [← hl]; simp [List.getD]
   rw [this]; exact hx
theorem SlAt.congr {w : World} {v : Value} {n sz : Nat} {c d : Nat → Nat → Value} (h : SlAt w v n sz c) (e : ∀ i j, i < n → j < sz → c i j = d i j) : SlAt w v n sz d := by
 obtain ⟨ao, cap, rfl, h1, h2, h3, h4⟩ := h
 refine ⟨ao, cap, rfl, h1, h2, fun h0 => ?_, h4⟩
 obtain ⟨b, off, e1, hlt, hc⟩ := h3 h0
 exact ⟨b, off, e1, hlt, fun i j hi hj => by rw [hc i j hi hj, e i j hi hj]⟩
theorem slAt_of_trod {t e : TypeId} {sz fuel : Nat} {v : Value} {x : DataW H × List MemPlace} (ht : P.underlying t = some (.slice e)) (hc : P.cellsOf e = sz) (hsz : 0 < sz)
  (h : DataW.trod enc P w base spare held fuel t [v] = some x) :
  ∃ (n : Nat) (css : Nat → List Value), SlAt w v n sz (fun i j => (css i).getD j undef) ∧ ∀ i, i < n → (css i).length = sz ∧ ∃ m y, DataW.trod enc P w base spare held m e (css i) = some y := by
 rcases DataW.trod_slice ht h with ⟨h0, _⟩ | ⟨a, len, cap, elems, rest, m, _, h0, _, hb, hl, hm, hlen, hel, _, _⟩
 ·obtain rfl : v = .slice none 0 0 := by simpa using h0
  exact ⟨0, fun _ => [], ⟨none, 0, rfl, by simp, by simp, fun h => absurd h (by omega), fun _ => rfl⟩, fun i hi => absurd hi (by omega)⟩
 ·obtain rfl : v = .slice (some a) len cap := by simpa using h0
  have each : ∀ i, i < len → ∃ cs : List Value, w.cells? base (a.add (i * sz)) sz = some cs ∧ ∃ y, DataW.trod enc P w base spare held m e cs = some y := by
   intro i hi
   have h1 := hel i hi
   rw [hc] at h1
   have h2 : elems[i]? = some elems[i] := by simp
   rw [h2, Option.bind_eq_some_iff] at h1
   obtain ⟨cs, h3, h4⟩ := h1
   exact ⟨cs, h3, _, h4⟩
  obtain ⟨css, hcl, hcs⟩ := list_of ([] : List Value) len each
  have hcell : ∀ i j, i < len → j < sz → w.cell? ((a.add (i * sz)).add j) = some ((css.getD i []).getD j undef) := by
   intro i j hi hj
   obtain ⟨_, h2, h3⟩ := World.cells?_some (hcs i hi).1
   rw [h3 j hj]
   generalize css.getD i [] = c at h2 ⊢
   rw [List.getElem?_eq_getElem (by omega)]
   simp [List.getD, List.getElem?_eq_getElem (show j < c.length by omega)]
  refine ⟨len, fun i => css.getD i [], ⟨some a, cap, rfl, hl, hm, fun hp => ?_, fun h => by cases h⟩, fun i hi => ⟨(World.cells?_some (hcs i hi).1).2.1, m, (hcs i hi).2⟩⟩
  obtain ⟨b, off, spot⟩ := a
  have hspot : spot = none := by simpa [Addr.add] using World.cell?_spot (hcell 0 0 hp hsz)
  subst hspot
  refine ⟨b, off, rfl, by simpa [Addr.add] using cell_lt (hcell 0 0 hp hsz), fun i j hi hj => ?_⟩
  have := hcell i j hi hj
  rw [add_plain', add_plain'] at this
  exact this
end
end Go.Proofs.Ytkifmfmenobhnaa
set_option linter.unusedVariables false
set_option linter.unusedSimpArgs false
namespace Go.Proofs.Ytkifmfmenobhnaa.Ev
open Go.RowKit
inductive CK where
 | int (k : IntKind)
 | bool
 | str
 | sl (e : TypeId)
def findF (P : Program) (go : TypeId → Nat → Option CK) (j : Nat) : List Field → Option CK
 | [] => none
 | f :: l => bif Nat.ble f.offset j && Nat.blt j (f.offset + P.cellsOf f.type) then go f.type (j - f.offset) else findF P go j l
def kindAt (P : Program) : Nat → TypeId → Nat → Option CK
 | 0, _, _ => none
 | k + 1, t, j => match P.underlying t with
  | some (.int ik) => bif Nat.beq j 0 then some (.int ik) else none
  | some .bool => bif Nat.beq j 0 then some .bool else none
  | some .string => bif Nat.beq j 0 then some .str else none
  | some (.slice e) => bif Nat.beq j 0 then some (.sl e) else none
  | some (.array n e) => bif Nat.blt j (n * P.cellsOf e) then kindAt P k e (j % P.cellsOf e) else none
  | some (.struct fs) => findF P (kindAt P k) j fs.toList
  | _ => none
def kindB (P : Program) : Nat → TypeId → Bool
 | 0, _ => false
 | d + 1, t => (List.range (P.cellsOf t)).all fun j => match kindAt P 20 t j with
  | some (.sl e) => Nat.blt 0 (P.cellsOf e) && kindB P d e
  | some _ => true
  | none => false
def okK (P : Program) : Nat → CK → CV → Prop
 | _, .int ik, c => ∃ n, c = .v (.int ik n) ∧ (Lit.int ik n).wf = true
 | _, .bool, c => ∃ b, c = .v (.bool b)
 | _, .str, c => ∃ s, c = .v (.string s) ∧ s.size ≤ maxLen
 | 0, .sl e, c => False
 | d + 1, .sl e, c => ∃ n cc, c = .sl (P.cellsOf e) n cc ∧ n ≤ maxLen ∧ ∀ i j, i < n → j < P.cellsOf e → ∃ κ, kindAt P 20 e j = some κ ∧ okK P d κ (cc i j)
section
variable {H : Type} {enc : TypeId × Value → H} {P : Program} {w : World} {base : Nat} {spare : Nat → Bool} {held : Bool}
def leaf (H : Type) (enc : TypeId × Value → H) (P : Program) (w : World) (base : Nat) (spare : Nat → Bool) (held : Bool) : CK → Value → Prop
 | .int ik, u => ∃ n, u = .int ik n ∧ (Lit.int ik n).wf = true
 | .bool, u => ∃ b, u = .bool b
 | .str, u => ∃ s : ByteArray, u = .string s ∧ s.size ≤ maxLen
 | .sl e, u => ∃ t m y, P.underlying t = some (.slice e) ∧ DataW.trod enc P w base spare held m t [u] = some y
theorem leaf_of : ∀ (k : Nat) (t : TypeId) (fuel : Nat) (cs : List Value) (x : DataW H × List MemPlace) (j : Nat) (κ : CK), kindAt P k t j = some κ → DataW.trod enc P w base spare held fuel t cs = some x → ∃ u, cs[j]? = some u ∧ leaf H enc P w base spare held κ u := by
 intro k
 induction k with
 | zero => intro t fuel cs x j κ h; cases h
 | succ k ih =>
  intro t fuel cs x j κ hk h
  unfold kindAt at hk
  have zero : ∀ {κ' : CK}, (bif Nat.beq j 0 then some κ' else none) = some κ → j = 0 ∧ κ' = κ := by
   intro κ' e
   cases hb : Nat.beq j 0 with
   | false => rw [hb] at e; cases e
   | true => rw [hb] at e; cases e; exact ⟨Nat.eq_of_beq_eq_true hb, rfl⟩
  split at hk
  ·rename_i ik ht
   obtain ⟨rfl, rfl⟩ := zero hk
   obtain ⟨n, rfl, _, h2⟩ := DataW.trod_int ht h
   exact ⟨_, rfl, n, rfl, h2⟩
  ·rename_i ht
   obtain ⟨rfl, rfl⟩ := zero hk
   obtain ⟨b, rfl, _⟩ := DataW.trod_bool ht h
   exact ⟨_, rfl, b, rfl⟩
  ·rename_i ht
   obtain ⟨rfl, rfl⟩ := zero hk
   obtain ⟨s, rfl, _, h2⟩ := DataW.trod_string ht h
   exact ⟨_, rfl, s, rfl, h2⟩
  ·rename_i e ht
   obtain ⟨rfl, rfl⟩ := zero hk
   rcases DataW.trod_slice ht h with ⟨rfl, _⟩ | ⟨a, len, cap, elems, rest, m, _, rfl, _⟩
   ·exact ⟨_, rfl, t, fuel, x, ht, h⟩
   ·exact ⟨_, rfl, t, fuel, x, ht, h⟩
  ·rename_i n e ht
   cases hb : Nat.blt j (n * P.cellsOf e) with
   | false => rw [hb] at hk; cases hk
   | true =>
    rw [hb] at hk
    simp only [cond_true] at hk
    have hj : j < n * P.cellsOf e := Nat.le_of_ble_eq_true hb
    have hpos : 0 < P.cellsOf e := by
     rcases Nat.eq_zero_or_pos (P.cellsOf e) with q | q
     ·rw [q, Nat.mul_zero] at hj; omega
     ·exact q
    obtain ⟨xs, m, _, _, hl, hxs, hf⟩ := DataW.trod_array ht h
    have hi : j / P.cellsOf e < n := Nat.div_lt_of_lt_mul (by rwa [Nat.mul_comm])
    have h5 := hf _ hi
    rw [show xs[j / P.cellsOf e]? = some xs[j / P.cellsOf e] from List.getElem?_eq_getElem (by omega)] at h5
    obtain ⟨u, h6, h7⟩ := ih e _ _ _ _ _ hk h5
    refine ⟨u, ?_, h7⟩
    rw [List.getElem?_take, if_pos (Nat.mod_lt _ hpos), List.getElem?_drop] at h6
    rwa [Nat.div_add_mod' j (P.cellsOf e)] at h6
  ·rename_i fs ht
   obtain ⟨xs, m, _, _, hl, hxs, hf⟩ := DataW.trod_struct ht h
   have find : ∀ l : List Field, (∀ f ∈ l, ∃ i : Nat, fs[i]? = some f) → findF P (kindAt P k) j l = some κ → ∃ (f : Field) (i : Nat), fs[i]? = some f ∧ f.offset ≤ j ∧ j < f.offset + P.cellsOf f.type ∧ kindAt P k f.type (j - f.offset) = some κ := by
    intro l
    induction l with
    | nil => intro _ h; cases h
    | cons f l ihl =>
     intro hm h
     unfold findF at h
     cases hb : (Nat.ble f.offset j && Nat.blt j (f.offset + P.cellsOf f.type)) with
     | false => rw [hb] at h; exact ihl (fun g hg => hm g (by simp [hg])) h
     | true =>
      rw [hb] at h
      simp only [Bool.and_eq_true] at hb
      obtain ⟨i, hi⟩ := hm f (by simp)
      exact ⟨f, i, hi, Nat.le_of_ble_eq_true hb.1, Nat.le_of_ble_eq_true hb.2, h⟩
   obtain ⟨f, i, hi, h1, h2, h3⟩ := find fs.toList (fun f hf => by
    obtain ⟨i, hi, e⟩ := List.getElem_of_mem hf
    exact ⟨i, by rw [← e]; simp at hi ⊢⟩) hk
   have h5 := hf i f hi
   have hlt : i < fs.size := by
    rcases Nat.lt_or_ge i fs.size with q | q
    ·exact q
    ·rw [Array.getElem?_eq_none q] at hi; cases hi
   rw [show xs[i]? = some xs[i] from List.getElem?_eq_getElem (by omega)] at h5
   obtain ⟨u, h6, h7⟩ := ih _ _ _ _ _ _ h3 h5
   refine ⟨u, ?_, h7⟩
   rw [List.getElem?_take, if_pos (by omega), List.getElem?_drop] at h6
   rwa [show f.offset + (j - f.offset) = j by omega] at h6
  ·cases hk
theorem open_cell : ∀ (d : Nat) (t : TypeId) (fuel : Nat) (cs : List Value) (x : DataW H × List MemPlace), kindB P d t = true → DataW.trod enc P w base spare held fuel t cs = some x → ∀ j, j < P.cellsOf t → ∃ κ c u, kindAt P 20 t j = some κ ∧ cs[j]? = some u ∧ RelF w (fun _ => True) c u ∧ okK P d κ c := by
 intro d
 induction d with
 | zero => intro t fuel cs x h; cases h
 | succ d ih =>
  intro t fuel cs x hB h j hj
  have hB' := hB
  unfold kindB at hB
  have h1 := List.all_eq_true.1 hB j (List.mem_range.2 hj)
  cases hk : kindAt P 20 t j with
  | none => rw [hk] at h1; cases h1
  | some κ =>
   rw [hk] at h1
   obtain ⟨u, h2, h3⟩ := leaf_of 20 t fuel cs x j κ hk h
   cases κ with
   | int ik =>
    obtain ⟨n, rfl, hw⟩ := h3
    exact ⟨_, .v (.int ik n), _, rfl, h2, ⟨rfl, rfl⟩, by simp only [okK]; exact ⟨n, rfl, hw⟩⟩
   | bool =>
    obtain ⟨b, rfl⟩ := h3
    exact ⟨_, .v (.bool b), _, rfl, h2, ⟨rfl, rfl⟩, by simp only [okK]; exact ⟨b, rfl⟩⟩
   | str =>
    obtain ⟨s, rfl, hs⟩ := h3
    exact ⟨_, .v (.string s), _, rfl, h2, ⟨rfl, rfl⟩, by simp only [okK]; exact ⟨s, rfl, hs⟩⟩
   | sl e =>
    simp only [Bool.and_eq_true] at h1
    have hpos : 0 < P.cellsOf e := Nat.le_of_ble_eq_true h1.1
    obtain ⟨t', m, y, ht, hy⟩ := h3
    obtain ⟨n, css, ⟨ao, cap, rfl, g1, g2, g3, g4⟩, hel⟩ := slAt_of_trod ht rfl hpos hy
    have each : ∀ i j, i < n → j < P.cellsOf e → ∃ c : CV, ∃ κ u, kindAt P 20 e j = some κ ∧ (css i)[j]? = some u ∧ RelF w (fun _ => True) c u ∧ okK P d κ c := by
     intro i j hi hj
     obtain ⟨_, m', y', h6⟩ := hel i hi
     obtain ⟨κ, c, u, q⟩ := ih e m' (css i) y' h1.2 h6 j hj
     exact ⟨c, κ, u, q⟩
    classical
    let cc : Nat → Nat → CV := fun i j => if h : i < n ∧ j < P.cellsOf e then Classical.choose (each i j h.1 h.2) else .v (.bool false)
    have hcc : ∀ i j, i < n → j < P.cellsOf e → ∃ κ u, kindAt P 20 e j = some κ ∧ (css i)[j]? = some u ∧ RelF w (fun _ => True) (cc i j) u ∧ okK P d κ (cc i j) := by
     intro i j hi hj
     have : cc i j = Classical.choose (each i j hi hj) := dif_pos ⟨hi, hj⟩
     rw [this]
     exact Classical.choose_spec (each i j hi hj)
    refine ⟨_, .sl (P.cellsOf e) n cc, _, rfl, h2, ⟨ao, cap, rfl, g1, g2, g4, fun h0 => ?_⟩, by
     simp only [okK]
     exact ⟨n, cc, rfl, Nat.le_trans g1 g2, fun i j hi hj => by obtain ⟨κ, u, q1, _, _, q4⟩ := hcc i j hi hj; exact ⟨κ, q1, q4⟩⟩⟩
    obtain ⟨b, off, e1, hlt, hc⟩ := g3 h0
    refine ⟨b, off, e1, hlt, trivial, fun i j hi hj => ?_⟩
    obtain ⟨κ, u, q1, q2, q3, _⟩ := hcc i j hi hj
    refine ⟨u, ?_, q3⟩
    rw [hc i j hi hj]
    simp [List.getD, q2]
theorem open_cells {d : Nat} {t : TypeId} {fuel : Nat} {cs : List Value} {x : DataW H × List MemPlace} (hB : kindB P d t = true) (hl : cs.length = P.cellsOf t) (h : DataW.trod enc P w base spare held fuel t cs = some x) :
  ∃ l : List CV, l.length = P.cellsOf t ∧ All2 (RelF w (fun _ => True)) l cs ∧ ∀ j, j < P.cellsOf t → ∃ κ, kindAt P 20 t j = some κ ∧ okK P d κ (l.getD j (.v (.bool false))) := by
 have each := open_cell d t fuel cs x hB h
 obtain ⟨l, h1, h2⟩ := list_of (CV.v (.bool false)) (P.cellsOf t) (R := fun j c => ∃ κ u, kindAt P 20 t j = some κ ∧ cs[j]? = some u ∧ RelF w (fun _ => True) c u ∧ okK P d κ c) (fun j hj => by obtain ⟨κ, c, u, q⟩ := each j hj; exact ⟨c, κ, u, q⟩)
 refine ⟨l, h1, All2.of_get (by omega) fun i a b ha hb => ?_, fun j hj => ?_⟩
 ·have hi : i < P.cellsOf t := by
   rcases Nat.lt_or_ge i l.length with q | q
   ·omega
   ·rw [List.getElem?_eq_none q] at ha; cases ha
  obtain ⟨κ, u, _, q2, q3, _⟩ := h2 i hi
  rw [hb] at q2
  cases q2
  rw [show l.getD i (.v (.bool false)) = a by simp [List.getD, ha]] at q3
  exact q3
 ·obtain ⟨κ, u, q1, _, _, q4⟩ := h2 j hj
  exact ⟨κ, q1, q4⟩
theorem open_agg {d : Nat} {t : TypeId} {cs : Array Value} {y : DataW H} {ps : List MemPlace} (hB : kindB P d t = true) (hl : cs.size = P.cellsOf t) (h : DataW.Trod enc P w base spare held t (.agg cs) y ps) :
  ∃ l : List CV, l.length = P.cellsOf t ∧ All2 (RelF w (fun _ => True)) l cs.toList ∧ ∀ j, j < P.cellsOf t → ∃ κ, kindAt P 20 t j = some κ ∧ okK P d κ (l.getD j (.v (.bool false))) := by
 obtain ⟨fuel, hf⟩ := h
 exact open_cells hB (by simpa using hl) (by simpa [Value.cells] using hf)
end
theorem open_i64 {P : Program} {d : Nat} {t : TypeId} {j : Nat} {c : CV} (hk : kindAt P 20 t j = some (.int .i64)) (h : ∃ κ, kindAt P 20 t j = some κ ∧ okK P d κ c) : ∃ n : Int, c = .v (.int .i64 n) ∧ -9223372036854775808 ≤ n ∧ n ≤ 9223372036854775807 := by
 obtain ⟨κ, h1, h2⟩ := h
 rw [hk] at h1
 cases h1
 have h3 : ∃ n, c = .v (.int .i64 n) ∧ (Lit.int .i64 n).wf = true := by cases d <;> exact h2
 obtain ⟨n, e, hw⟩ := h3
 have := bounds_i64 hw
 exact ⟨n, e, this.1, this.2⟩
theorem open_sl {P : Program} {d : Nat} {t e : TypeId} {j : Nat} {c : CV} (hk : kindAt P 20 t j = some (.sl e)) (h : ∃ κ, kindAt P 20 t j = some κ ∧ okK P (d + 1) κ c) : ∃ n cc, c = .sl (P.cellsOf e) n cc ∧ n ≤ maxLen ∧ ∀ i j, i < n → j < P.cellsOf e → ∃ κ, kindAt P 20 e j = some κ ∧ okK P d κ (cc i j) := by
 obtain ⟨κ, h1, h2⟩ := h
 rw [hk] at h1
 cases h1
 exact h2
def allI (P : Program) (e : TypeId) : Bool := (List.range (P.cellsOf e)).all fun j => match kindAt P 20 e j with
 | some (.int .i64) => true
 | _ => false
theorem nums_of {P : Program} {d : Nat} {e : TypeId} {n : Nat} {cc : Nat → Nat → CV} (hk : allI P e = true) (h : ∀ i j, i < n → j < P.cellsOf e → ∃ κ, kindAt P 20 e j = some κ ∧ okK P d κ (cc i j)) : numsP (P.cellsOf e) n cc := by
 intro i j hi hj
 have h1 := List.all_eq_true.1 hk j (List.mem_range.2 hj)
 split at h1
 ·rename_i hq
  obtain ⟨m, e1, _⟩ := open_i64 hq (h i j hi hj)
  rw [e1]; rfl
 ·cases h1
end Go.Proofs.Ytkifmfmenobhnaa.Ev
set_option linter.unusedVariables false
set_option linter.unusedSimpArgs false
namespace Go.Proofs.Ytkifmfmenobhnaa
open Go.RowKit Ev
theorem wr00 : IntKind.i64.wrap (0 + 0) = 0 := rfl
end Go.Proofs.Ytkifmfmenobhnaa
set_option linter.unusedVariables false
set_option linter.unusedSimpArgs false
namespace Go.Proofs.Ytkifmfmenobhnaa
open Go.RowKit Ev
end Go.Proofs.Ytkifmfmenobhnaa
set_option linter.unusedVariables false
set_option linter.unusedSimpArgs false
namespace Go.Proofs.Ytkifmfmenobhnaa
open Go.RowKit Ev
theorem nums_ints (l : List Int) : numsC .i64 l = intsC l := rfl
theorem smE_of {l : List Int} (h1 : 0 < l.length ∧ l.length ≤ 24) (h2 : ∀ i, i < l.length → -10000 ≤ l.getD i 0 ∧ l.getD i 0 ≤ 10000) : smE l = 0 := by
 have e : (l.all fun n => inB n (-10000) 10000) = true := List.all_eq_true.2 fun x hx => by
  obtain ⟨i, hi, e⟩ := List.mem_iff_getElem.1 hx
  have := h2 i hi
  rw [show l.getD i 0 = x by simp [List.getD, hi, e]] at this
  exact inB_true.2 this
 unfold smE
 rw [e, decide_eq_true (show (l.length : Int) > 0 by omega), decide_eq_true (show (l.length : Int) ≤ 24 by omega)]; rfl
theorem sqK_sum (s p : List Int) (k : Nat) : ∀ n, sqK s p k n = sqSum (fun i => s.getD (k + i) 0) (fun i => p.getD i 0) n
 | 0 => rfl
 | n + 1 => by unfold sqK sqSum; rw [sqK_sum s p k n]
theorem arK_min (s p : List Int) : ∀ k, (arK s p (k + 1)).1 = (firstMin (fun k => sqK s p k p.length) k : Int) ∧ (arK s p (k + 1)).2 = sqK s p (firstMin (fun k => sqK s p k p.length) k) p.length
 | 0 => by
  have e : arK s p 1 = (0, sqK s p 0 p.length) := by
   have h0 : (arK s p 0).2 < 0 := (by decide : (-1 : Int) < 0)
   rw [arK, if_pos (Or.inl h0)]; rfl
  rw [e]; exact ⟨rfl, rfl⟩
 | k + 1 => by
  obtain ⟨h1, h2⟩ := arK_min s p k
  have hn : 0 ≤ (arK s p (k + 1)).2 := by rw [h2, sqK_sum]; exact sqSum_nn _ _ _
  have e : arK s p (k + 1 + 1) = if sqK s p (k + 1) p.length < (arK s p (k + 1)).2 then (((k + 1 : Nat) : Int), sqK s p (k + 1) p.length) else arK s p (k + 1) := by
   rw [arK]
   by_cases c : sqK s p (k + 1) p.length < (arK s p (k + 1)).2
   ·rw [if_pos (Or.inr c), if_pos c]
   ·rw [if_neg (fun q => q.elim (by omega) c), if_neg c]
  rw [e]
  unfold firstMin
  rw [h2]
  by_cases c : sqK s p (k + 1) p.length < sqK s p (firstMin (fun k => sqK s p k p.length) k) p.length
  ·rw [if_pos c, if_pos c]; exact ⟨rfl, rfl⟩
  ·rw [if_neg c, if_neg c]; exact ⟨h1, h2⟩
theorem dsV_len (a c : List Int) : (dsV a c).length = a.length + c.length - 1 := dsA_len a c _
theorem ds_cases (a c : List Int) : ((smE a == 0) = false ∧ (smE a != 0) = true ∧ dsE a c = smE a ∧ dsW a c = []) ∨ (smE a = 0 ∧ (smE c == 0) = false ∧ (smE c != 0) = true ∧ dsE a c = smE c ∧ dsW a c = []) ∨ (smE a = 0 ∧ smE c = 0 ∧ dsE a c = 0 ∧ dsW a c = dsV a c ∧ (dsV a c).length ≤ 60) := by
 by_cases h : smE a = 0
 ·by_cases g : smE c = 0
  ·have e : dsE a c = 0 := by unfold dsE; rw [h, g]; rfl
   have := (smE_ok h).1
   have := (smE_ok g).1
   exact Or.inr (Or.inr ⟨h, g, e, if_pos e, by rw [dsV_len]; omega⟩)
  ·have e : dsE a c = smE c := by unfold dsE; rw [h]; simp [firstNZ, g]
   exact Or.inr (Or.inl ⟨h, by simpa using g, by simpa using g, e, if_neg (by rw [e]; exact g)⟩)
 ·have e : dsE a c = smE a := by unfold dsE; simp [firstNZ, h]
  exact Or.inl ⟨by simpa using h, by simpa using h, e, if_neg (by rw [e]; exact h)⟩
theorem av_cases (d a : List Int) : ((smE d == 0) = false ∧ (smE d != 0) = true ∧ avE d a = smE d ∧ avV d a = 0) ∨ (smE d = 0 ∧ (smE a == 0) = false ∧ (smE a != 0) = true ∧ avE d a = smE a ∧ avV d a = 0) ∨
  (smE d = 0 ∧ smE a = 0 ∧ decide (((a.length : Nat) : Int) > ((d.length : Nat) : Int)) = true ∧ avE d a = 12 ∧ avV d a = 0 ∧ True) ∨ (smE d = 0 ∧ smE a = 0 ∧ decide (((a.length : Nat) : Int) > ((d.length : Nat) : Int)) = false ∧ avE d a = 0 ∧ True) := by
 by_cases h : smE d = 0
 ·by_cases g : smE a = 0
  ·have e : avE d a = unl (decide ((a.length : Int) ≤ d.length)) 12 := by unfold avE; rw [h, g]; by_cases q : (a.length : Int) ≤ d.length <;> simp [firstNZ, unl, q]
   by_cases q : (a.length : Int) ≤ d.length
   ·have e : avE d a = 0 := by rw [e, decide_eq_true q]; rfl
    exact Or.inr (Or.inr (Or.inr ⟨h, g, decide_eq_false (by omega), e, trivial⟩))
   ·have e : avE d a = 12 := by rw [e, decide_eq_false q]; rfl
    exact Or.inr (Or.inr (Or.inl ⟨h, g, decide_eq_true (by omega), e, if_neg (by rw [e]; decide), trivial⟩))
  ·have e : avE d a = smE a := by unfold avE; rw [h]; simp [firstNZ, g]
   exact Or.inr (Or.inl ⟨h, by simpa using g, by simpa using g, e, if_neg (by rw [e]; exact g)⟩)
 ·have e : avE d a = smE d := by unfold avE; simp [firstNZ, h]
  exact Or.inl ⟨by simpa using h, by simpa using h, e, if_neg (by rw [e]; exact h)⟩
def mk_law01_ClockPulses_0 (a : List Int) (c : List Int) (d : List Int) (v0_0 : List Int) (v0_1 : Bool) (v0_2 : Int) : DS := ⟨[none, none, none, none, none, none, none, some (.t (.c (.sl 1 ((dsW (listC ((listC a.length mkInt (intsC a)).length) mkInt (intsC (listC a.length mkInt (intsC a)))) (listC ((listC c.length mkInt (intsC c)).length) mkInt (intsC (listC c.length mkInt (intsC c))))).length) (intsC (dsW (listC ((listC a.length mkInt (intsC a)).length) mkInt (intsC (listC a.length mkInt (intsC a)))) (listC ((listC c.length mkInt (intsC c)).length) mkInt (intsC (listC c.length mkInt (intsC c))))))))), none, none, none, none, none, none, some (.t (.c (.v (.int .i64 ((d.getD 0 0) % (4 : Int)))))), some (.t (.c (.os 15))), some (.t (.c (.v (.bool v0_1)))), some (.t (.c (.v (.int .i64 v0_2)))), none, none, none, none, none, none, none, none, none, none, none, none, none, none, none, none, none, none, none, none, none, none, none, none, none, none, none, none, none, none, none, none, none, none, none, none, none, none, none, none, none, none, none, none, none, none, none, none, none, none, none, none, none, none, none, none, none, none, none, none, none, none, none, none, none, none, none, none, none, none, none, none, none, none, none, none, none, none, none, none, none, none, none, none, none, none, none, none, none, none, none, none, none, none, none, none, none, none, none, none, none, none, none, none, none, none, none, none, none, none, none, none, none, none, none, none, none, none, none, none, none, none, none, none, none, none, none, none, none, none, none, none, none, none, none, none, none, none, none, none, none, none, none, none, none, none, none, none, none, none, none, none, none, none, none], [none, none, none, none, none, none, none, none, none, none, none, none, none, none, none, some (.num 3 .i64 v0_0), none, none, none, none, none, none, none, none, none, none, none, none, none, none, none, none, none, none, none, none, none, none, none, none, none, none, none, none, none, none, none, none, none, none, none, none, none, none, none, none, none, none, none, none, none, none, none, none, none, none, none, none, none, none, none, none, none, none, none, none, none, none, none, none, none, none, none, none, none, none, none, none, none, none, none, none, none, none, none, none, none, none, none, none, none, none, none, none, none, none, none, none, none, none, none, none, none, none, none, none, none, none, none, none, none, none, none, none, none, none, none, none, none, none, none, none, none, none, none, none, none, none, none, none, none, none, none, none, none, none, none, none, none, none, none, none, none, none, none, none, none, none, none, none, none, none, none, none, none, none, none, none, none, none, none, none, none]⟩
def vc_law01_ClockPulses (J : Inv) (a : List Int) (c : List Int) (d : List Int) (post : DV → Prop) : Prop := (cond (decide (((a.length : Nat) : Int) > (26 : Int))) ((true = true) ∧ ((true = true) ∧ (True))) (cond (decide (((c.length : Nat) : Int) > (26 : Int))) ((true = true) ∧ (True)) (True))) ∧ (lt ((bif decide (((a.length : Nat) : Int) > (26 : Int)) then true else (bif decide (((c.length : Nat) : Int) > (26 : Int)) then true else decide (((d.length : Nat) : Int) > (26 : Int))))) fun x1 => cond x1 (post (.t (.c (.v (.bool true))))) ((numsP 1 a.length (intsC a) ∧ ((listC a.length mkInt (intsC a))).length ≤ 1000) ∧ ((numsP 1 c.length (intsC c) ∧ ((listC c.length mkInt (intsC c))).length ≤ 1000) ∧ ((numsP 1 ((listC a.length mkInt (intsC a)).length) (intsC (listC a.length mkInt (intsC a))) ∧ numsP 1 ((listC c.length mkInt (intsC c)).length) (intsC (listC c.length mkInt (intsC c))) ∧ ((listC ((listC a.length mkInt (intsC a)).length) mkInt (intsC (listC a.length mkInt (intsC a))))).length ≤ 1000000 ∧ ((listC ((listC c.length mkInt (intsC c)).length) mkInt (intsC (listC c.length mkInt (intsC c))))).length ≤ 1000000) ∧ ((numsP 1 d.length (intsC d) ∧ ((listC d.length mkInt (intsC d))).length ≤ 1000) ∧ ((numsP 1 a.length (intsC a) ∧ ((listC a.length mkInt (intsC a))).length ≤ 1000) ∧ ((numsP 1 ((listC d.length mkInt (intsC d)).length) (intsC (listC d.length mkInt (intsC d))) ∧ numsP 1 ((listC a.length mkInt (intsC a)).length) (intsC (listC a.length mkInt (intsC a))) ∧ ((listC ((listC d.length mkInt (intsC d)).length) mkInt (intsC (listC d.length mkInt (intsC d))))).length ≤ 1000000 ∧ ((listC ((listC a.length mkInt (intsC a)).length) mkInt (intsC (listC a.length mkInt (intsC a))))).length ≤ 1000000) ∧ ((numsP 1 a.length (intsC a)) ∧ ((numsP 1 d.length (intsC d)) ∧ ((cond ((smE (listC a.length mkInt (intsC a))) == (0 : Int)) ((numsP 1 c.length (intsC c)) ∧ (True)) (True)) ∧ (lt ((bif ((smE (listC a.length mkInt (intsC a))) == (0 : Int)) then smE (listC c.length mkInt (intsC c)) else smE (listC a.length mkInt (intsC a)))) fun x2 => (cond (x2 != (0 : Int)) (cond ((dsE (listC ((listC a.length mkInt (intsC a)).length) mkInt (intsC (listC a.length mkInt (intsC a)))) (listC ((listC c.length mkInt (intsC c)).length) mkInt (intsC (listC c.length mkInt (intsC c))))) != x2) ((true = true) ∧ ((true = true) ∧ (True))) (cond ((((dsW (listC ((listC a.length mkInt (intsC a)).length) mkInt (intsC (listC a.length mkInt (intsC a)))) (listC ((listC c.length mkInt (intsC c)).length) mkInt (intsC (listC c.length mkInt (intsC c))))).length : Nat) : Int) != (0 : Int)) ((true = true) ∧ (True)) (cond (x2 == (0 : Int)) (cond ((dsE (listC ((listC a.length mkInt (intsC a)).length) mkInt (intsC (listC a.length mkInt (intsC a)))) (listC ((listC c.length mkInt (intsC c)).length) mkInt (intsC (listC c.length mkInt (intsC c))))) != (0 : Int)) ((true = true) ∧ (True)) ((numsP 1 a.length (intsC a) ∧ numsP 1 c.length (intsC c) ∧ smE (listC a.length mkInt (intsC a)) = 0 ∧ smE (listC c.length mkInt (intsC c)) = 0) ∧ ((numsP 1 ((dsW (listC ((listC a.length mkInt (intsC a)).length) mkInt (intsC (listC a.length mkInt (intsC a)))) (listC ((listC c.length mkInt (intsC c)).length) mkInt (intsC (listC c.length mkInt (intsC c))))).length) (intsC (dsW (listC ((listC a.length mkInt (intsC a)).length) mkInt (intsC (listC a.length mkInt (intsC a)))) (listC ((listC c.length mkInt (intsC c)).length) mkInt (intsC (listC c.length mkInt (intsC c)))))) ∧ numsP 1 ((dsV (listC a.length mkInt (intsC a)) (listC c.length mkInt (intsC c))).length) (intsC (dsV (listC a.length mkInt (intsC a)) (listC c.length mkInt (intsC c)))) ∧ ((listC ((dsW (listC ((listC a.length mkInt (intsC a)).length) mkInt (intsC (listC a.length mkInt (intsC a)))) (listC ((listC c.length mkInt (intsC c)).length) mkInt (intsC (listC c.length mkInt (intsC c))))).length) mkInt (intsC (dsW (listC ((listC a.length mkInt (intsC a)).length) mkInt (intsC (listC a.length mkInt (intsC a)))) (listC ((listC c.length mkInt (intsC c)).length) mkInt (intsC (listC c.length mkInt (intsC c)))))))).length ≤ 1000000) ∧ (True)))) ((false = false) ∧ (True))))) ((false = false) ∧ (cond (x2 == (0 : Int)) (cond ((dsE (listC ((listC a.length mkInt (intsC a)).length) mkInt (intsC (listC a.length mkInt (intsC a)))) (listC ((listC c.length mkInt (intsC c)).length) mkInt (intsC (listC c.length mkInt (intsC c))))) != (0 : Int)) ((true = true) ∧ (True)) ((numsP 1 a.length (intsC a) ∧ numsP 1 c.length (intsC c) ∧ smE (listC a.length mkInt (intsC a)) = 0 ∧ smE (listC c.length mkInt (intsC c)) = 0) ∧ ((numsP 1 ((dsW (listC ((listC a.length mkInt (intsC a)).length) mkInt (intsC (listC a.length mkInt (intsC a)))) (listC ((listC c.length mkInt (intsC c)).length) mkInt (intsC (listC c.length mkInt (intsC c))))).length) (intsC (dsW (listC ((listC a.length mkInt (intsC a)).length) mkInt (intsC (listC a.length mkInt (intsC a)))) (listC ((listC c.length mkInt (intsC c)).length) mkInt (intsC (listC c.length mkInt (intsC c)))))) ∧ numsP 1 ((dsV (listC a.length mkInt (intsC a)) (listC c.length mkInt (intsC c))).length) (intsC (dsV (listC a.length mkInt (intsC a)) (listC c.length mkInt (intsC c)))) ∧ ((listC ((dsW (listC ((listC a.length mkInt (intsC a)).length) mkInt (intsC (listC a.length mkInt (intsC a)))) (listC ((listC c.length mkInt (intsC c)).length) mkInt (intsC (listC c.length mkInt (intsC c))))).length) mkInt (intsC (dsW (listC ((listC a.length mkInt (intsC a)).length) mkInt (intsC (listC a.length mkInt (intsC a)))) (listC ((listC c.length mkInt (intsC c)).length) mkInt (intsC (listC c.length mkInt (intsC c)))))))).length ≤ 1000000) ∧ (True)))) ((false = false) ∧ (True))))) ∧ (lt ((bif (x2 != (0 : Int)) then (bif ((dsE (listC ((listC a.length mkInt (intsC a)).length) mkInt (intsC (listC a.length mkInt (intsC a)))) (listC ((listC c.length mkInt (intsC c)).length) mkInt (intsC (listC c.length mkInt (intsC c))))) != x2) then true else (bif ((((dsW (listC ((listC a.length mkInt (intsC a)).length) mkInt (intsC (listC a.length mkInt (intsC a)))) (listC ((listC c.length mkInt (intsC c)).length) mkInt (intsC (listC c.length mkInt (intsC c))))).length : Nat) : Int) != (0 : Int)) then true else (bif (x2 == (0 : Int)) then (bif ((dsE (listC ((listC a.length mkInt (intsC a)).length) mkInt (intsC (listC a.length mkInt (intsC a)))) (listC ((listC c.length mkInt (intsC c)).length) mkInt (intsC (listC c.length mkInt (intsC c))))) != (0 : Int)) then true else (!(decide ((listC ((dsW (listC ((listC a.length mkInt (intsC a)).length) mkInt (intsC (listC a.length mkInt (intsC a)))) (listC ((listC c.length mkInt (intsC c)).length) mkInt (intsC (listC c.length mkInt (intsC c))))).length) mkInt (intsC (dsW (listC ((listC a.length mkInt (intsC a)).length) mkInt (intsC (listC a.length mkInt (intsC a)))) (listC ((listC c.length mkInt (intsC c)).length) mkInt (intsC (listC c.length mkInt (intsC c))))))) = (listC ((dsV (listC a.length mkInt (intsC a)) (listC c.length mkInt (intsC c))).length) mkInt (intsC (dsV (listC a.length mkInt (intsC a)) (listC c.length mkInt (intsC c))))))))) else false))) else (bif (x2 == (0 : Int)) then (bif ((dsE (listC ((listC a.length mkInt (intsC a)).length) mkInt (intsC (listC a.length mkInt (intsC a)))) (listC ((listC c.length mkInt (intsC c)).length) mkInt (intsC (listC c.length mkInt (intsC c))))) != (0 : Int)) then true else (!(decide ((listC ((dsW (listC ((listC a.length mkInt (intsC a)).length) mkInt (intsC (listC a.length mkInt (intsC a)))) (listC ((listC c.length mkInt (intsC c)).length) mkInt (intsC (listC c.length mkInt (intsC c))))).length) mkInt (intsC (dsW (listC ((listC a.length mkInt (intsC a)).length) mkInt (intsC (listC a.length mkInt (intsC a)))) (listC ((listC c.length mkInt (intsC c)).length) mkInt (intsC (listC c.length mkInt (intsC c))))))) = (listC ((dsV (listC a.length mkInt (intsC a)) (listC c.length mkInt (intsC c))).length) mkInt (intsC (dsV (listC a.length mkInt (intsC a)) (listC c.length mkInt (intsC c))))))))) else false))) fun x3 => cond x3 (post (.t (.c (.v (.bool false))))) ((cond ((smE (listC d.length mkInt (intsC d))) == (0 : Int)) (True) (True)) ∧ (lt ((bif ((smE (listC d.length mkInt (intsC d))) == (0 : Int)) then smE (listC a.length mkInt (intsC a)) else smE (listC d.length mkInt (intsC d)))) fun x4 => (cond (x4 == (0 : Int)) (True) ((false = false) ∧ (True))) ∧ (lt ((bif (x4 == (0 : Int)) then decide (((a.length : Nat) : Int) > ((d.length : Nat) : Int)) else false)) fun x5 => (cond x5 (True) (True)) ∧ (lt ((bif x5 then (12 : Int) else x4)) fun x6 => cond (x6 != (0 : Int)) ((cond ((avE (listC ((listC d.length mkInt (intsC d)).length) mkInt (intsC (listC d.length mkInt (intsC d)))) (listC ((listC a.length mkInt (intsC a)).length) mkInt (intsC (listC a.length mkInt (intsC a))))) == x6) (True) ((false = false) ∧ (True))) ∧ (lt ((bif ((avE (listC ((listC d.length mkInt (intsC d)).length) mkInt (intsC (listC d.length mkInt (intsC d)))) (listC ((listC a.length mkInt (intsC a)).length) mkInt (intsC (listC a.length mkInt (intsC a))))) == x6) then ((avV (listC ((listC d.length mkInt (intsC d)).length) mkInt (intsC (listC d.length mkInt (intsC d)))) (listC ((listC a.length mkInt (intsC a)).length) mkInt (intsC (listC a.length mkInt (intsC a))))) == (0 : Int)) else false)) fun x7 => post (.t (.c (.v (.bool x7)))))) ((cond ((avE (listC ((listC d.length mkInt (intsC d)).length) mkInt (intsC (listC d.length mkInt (intsC d)))) (listC ((listC a.length mkInt (intsC a)).length) mkInt (intsC (listC a.length mkInt (intsC a))))) != (0 : Int)) ((true = true) ∧ (True)) ((numsP 1 d.length (intsC d) ∧ numsP 1 a.length (intsC a) ∧ avE (listC d.length mkInt (intsC d)) (listC a.length mkInt (intsC a)) = 0) ∧ (True))) ∧ (lt ((bif ((avE (listC ((listC d.length mkInt (intsC d)).length) mkInt (intsC (listC d.length mkInt (intsC d)))) (listC ((listC a.length mkInt (intsC a)).length) mkInt (intsC (listC a.length mkInt (intsC a))))) != (0 : Int)) then true else ((avV (listC ((listC d.length mkInt (intsC d)).length) mkInt (intsC (listC d.length mkInt (intsC d)))) (listC ((listC a.length mkInt (intsC a)).length) mkInt (intsC (listC a.length mkInt (intsC a))))) != (avV (listC d.length mkInt (intsC d)) (listC a.length mkInt (intsC a)))))) fun x8 => cond x8 (post (.t (.c (.v (.bool false))))) (cond (x2 != (0 : Int)) (post (.t (.c (.v (.bool true))))) ((0 ≤ (0 : Int) ∧ (0 : Int) < ((d.length : Nat) : Int)) ∧ ((0 < (4 : Int) ∧ (4 : Int) ≤ 4000000000000000000) ∧ (lt (IntKind.i64.wrap (((d.getD 0 0) % (4 : Int)) + (((dsW (listC ((listC a.length mkInt (intsC a)).length) mkInt (intsC (listC a.length mkInt (intsC a)))) (listC ((listC c.length mkInt (intsC c)).length) mkInt (intsC (listC c.length mkInt (intsC c))))).length : Nat) : Int))) fun x9 => lt (IntKind.i64.wrap (x9 + (1 : Int))) fun x10 => (x10 = x10 ∧ 0 ≤ x10 ∧ roomP 8 x10.toNat) ∧ (∃ n, J 0 (n :: []) (mk_law01_ClockPulses_0 a c d (List.replicate x10.toNat 0) true 0))))))))))))))))))))))))
def ann_law01_ClockPulses : Ann := ⟨fun _ => none, fun b => lookA b [(0, (none, some ⟨[7, 14, 16, 17], [], [(15, .num 3 .i64 ([]))]⟩))], fun _ => [], I1, false, fun r => lookA r [(3, (4, [34])), (11, (3, [87])), (15, (3, [99])), (18, (4, [6])), (19, (3, [117])), (30, (2, [16])), (31, (2, [158])), (34, (3, [6]))], fun r => lookA r [(10, [13]), (14, [12]), (16, [12])]⟩
theorem ev_law01_ClockPulses (J : Inv) (a : List Int) (c : List Int) (d : List Int) (post : DV → Prop) : evFn Try.prog tab Sy101 ann_law01_ClockPulses J Try.f5 [.t (.c (.sl 1 a.length (intsC a))), .t (.c (.sl 1 c.length (intsC c))), .t (.c (.sl 1 d.length (intsC d)))] post = vc_law01_ClockPulses J a c d post := by kernel_rfl
theorem fit_law01_ClockPulses : okFn ann_law01_ClockPulses Try.f5 = true := by kernel_rfl
def rd_law01_ClockPulses_0 (J : Inv) (a : List Int) (c : List Int) (d : List Int) (v0_0 : List Int) (v0_1 : Bool) (v0_2 : Int) (nn0 : Nat) (post : DV → Prop) : Prop := cond (decide (v0_2 < (((dsW (listC ((listC a.length mkInt (intsC a)).length) mkInt (intsC (listC a.length mkInt (intsC a)))) (listC ((listC c.length mkInt (intsC c)).length) mkInt (intsC (listC c.length mkInt (intsC c))))).length : Nat) : Int))) (lt (IntKind.i64.wrap (((d.getD 0 0) % (4 : Int)) + v0_2)) fun x1 => (0 ≤ v0_2 ∧ v0_2 < (((dsW (listC ((listC a.length mkInt (intsC a)).length) mkInt (intsC (listC a.length mkInt (intsC a)))) (listC ((listC c.length mkInt (intsC c)).length) mkInt (intsC (listC c.length mkInt (intsC c))))).length : Nat) : Int)) ∧ ((0 ≤ x1 ∧ x1 < ((v0_0.length : Nat) : Int)) ∧ (((x1).toNat < v0_0.length ∧ IntKind.i64 = IntKind.i64) ∧ ((cond v0_1 ((0 ≤ v0_2 ∧ v0_2 < (((dsW (listC ((listC a.length mkInt (intsC a)).length) mkInt (intsC (listC a.length mkInt (intsC a)))) (listC ((listC c.length mkInt (intsC c)).length) mkInt (intsC (listC c.length mkInt (intsC c))))).length : Nat) : Int)) ∧ (True)) ((false = false) ∧ (True))) ∧ (lt ((bif v0_1 then (((dsW (listC ((listC a.length mkInt (intsC a)).length) mkInt (intsC (listC a.length mkInt (intsC a)))) (listC ((listC c.length mkInt (intsC c)).length) mkInt (intsC (listC c.length mkInt (intsC c))))).getD v0_2.toNat 0) == (0 : Int)) else false)) fun x2 => lt (IntKind.i64.wrap (v0_2 + (1 : Int))) fun x3 => J 0 (nn0 :: []) (mk_law01_ClockPulses_0 a c d (v0_0.set (x1).toNat ((dsW (listC ((listC a.length mkInt (intsC a)).length) mkInt (intsC (listC a.length mkInt (intsC a)))) (listC ((listC c.length mkInt (intsC c)).length) mkInt (intsC (listC c.length mkInt (intsC c))))).getD v0_2.toNat 0)) x2 x3)))))) ((cond v0_1 ((true = true) ∧ (True)) ((numsP 1 v0_0.length (numsC .i64 v0_0)) ∧ (True))) ∧ (lt ((bif v0_1 then true else ((smE (listC v0_0.length mkInt (numsC .i64 v0_0))) != (0 : Int)))) fun x4 => cond x4 (post (.t (.c (.v (.bool true))))) ((numsP 1 ((dsW (listC ((listC a.length mkInt (intsC a)).length) mkInt (intsC (listC a.length mkInt (intsC a)))) (listC ((listC c.length mkInt (intsC c)).length) mkInt (intsC (listC c.length mkInt (intsC c))))).length) (intsC (dsW (listC ((listC a.length mkInt (intsC a)).length) mkInt (intsC (listC a.length mkInt (intsC a)))) (listC ((listC c.length mkInt (intsC c)).length) mkInt (intsC (listC c.length mkInt (intsC c)))))) ∧ ((listC ((dsW (listC ((listC a.length mkInt (intsC a)).length) mkInt (intsC (listC a.length mkInt (intsC a)))) (listC ((listC c.length mkInt (intsC c)).length) mkInt (intsC (listC c.length mkInt (intsC c))))).length) mkInt (intsC (dsW (listC ((listC a.length mkInt (intsC a)).length) mkInt (intsC (listC a.length mkInt (intsC a)))) (listC ((listC c.length mkInt (intsC c)).length) mkInt (intsC (listC c.length mkInt (intsC c)))))))).length ≤ 1000) ∧ ((numsP 1 v0_0.length (numsC .i64 v0_0) ∧ numsP 1 ((listC ((dsW (listC ((listC a.length mkInt (intsC a)).length) mkInt (intsC (listC a.length mkInt (intsC a)))) (listC ((listC c.length mkInt (intsC c)).length) mkInt (intsC (listC c.length mkInt (intsC c))))).length) mkInt (intsC (dsW (listC ((listC a.length mkInt (intsC a)).length) mkInt (intsC (listC a.length mkInt (intsC a)))) (listC ((listC c.length mkInt (intsC c)).length) mkInt (intsC (listC c.length mkInt (intsC c))))))).length) (intsC (listC ((dsW (listC ((listC a.length mkInt (intsC a)).length) mkInt (intsC (listC a.length mkInt (intsC a)))) (listC ((listC c.length mkInt (intsC c)).length) mkInt (intsC (listC c.length mkInt (intsC c))))).length) mkInt (intsC (dsW (listC ((listC a.length mkInt (intsC a)).length) mkInt (intsC (listC a.length mkInt (intsC a)))) (listC ((listC c.length mkInt (intsC c)).length) mkInt (intsC (listC c.length mkInt (intsC c)))))))) ∧ ((listC v0_0.length mkInt (numsC .i64 v0_0))).length ≤ 1000000 ∧ ((listC ((listC ((dsW (listC ((listC a.length mkInt (intsC a)).length) mkInt (intsC (listC a.length mkInt (intsC a)))) (listC ((listC c.length mkInt (intsC c)).length) mkInt (intsC (listC c.length mkInt (intsC c))))).length) mkInt (intsC (dsW (listC ((listC a.length mkInt (intsC a)).length) mkInt (intsC (listC a.length mkInt (intsC a)))) (listC ((listC c.length mkInt (intsC c)).length) mkInt (intsC (listC c.length mkInt (intsC c))))))).length) mkInt (intsC (listC ((dsW (listC ((listC a.length mkInt (intsC a)).length) mkInt (intsC (listC a.length mkInt (intsC a)))) (listC ((listC c.length mkInt (intsC c)).length) mkInt (intsC (listC c.length mkInt (intsC c))))).length) mkInt (intsC (dsW (listC ((listC a.length mkInt (intsC a)).length) mkInt (intsC (listC a.length mkInt (intsC a)))) (listC ((listC c.length mkInt (intsC c)).length) mkInt (intsC (listC c.length mkInt (intsC c)))))))))).length ≤ 1000000) ∧ ((cond ((avE (listC v0_0.length mkInt (numsC .i64 v0_0)) (listC ((listC ((dsW (listC ((listC a.length mkInt (intsC a)).length) mkInt (intsC (listC a.length mkInt (intsC a)))) (listC ((listC c.length mkInt (intsC c)).length) mkInt (intsC (listC c.length mkInt (intsC c))))).length) mkInt (intsC (dsW (listC ((listC a.length mkInt (intsC a)).length) mkInt (intsC (listC a.length mkInt (intsC a)))) (listC ((listC c.length mkInt (intsC c)).length) mkInt (intsC (listC c.length mkInt (intsC c))))))).length) mkInt (intsC (listC ((dsW (listC ((listC a.length mkInt (intsC a)).length) mkInt (intsC (listC a.length mkInt (intsC a)))) (listC ((listC c.length mkInt (intsC c)).length) mkInt (intsC (listC c.length mkInt (intsC c))))).length) mkInt (intsC (dsW (listC ((listC a.length mkInt (intsC a)).length) mkInt (intsC (listC a.length mkInt (intsC a)))) (listC ((listC c.length mkInt (intsC c)).length) mkInt (intsC (listC c.length mkInt (intsC c)))))))))) == (0 : Int)) (True) ((false = false) ∧ (True))) ∧ (lt ((bif ((avE (listC v0_0.length mkInt (numsC .i64 v0_0)) (listC ((listC ((dsW (listC ((listC a.length mkInt (intsC a)).length) mkInt (intsC (listC a.length mkInt (intsC a)))) (listC ((listC c.length mkInt (intsC c)).length) mkInt (intsC (listC c.length mkInt (intsC c))))).length) mkInt (intsC (dsW (listC ((listC a.length mkInt (intsC a)).length) mkInt (intsC (listC a.length mkInt (intsC a)))) (listC ((listC c.length mkInt (intsC c)).length) mkInt (intsC (listC c.length mkInt (intsC c))))))).length) mkInt (intsC (listC ((dsW (listC ((listC a.length mkInt (intsC a)).length) mkInt (intsC (listC a.length mkInt (intsC a)))) (listC ((listC c.length mkInt (intsC c)).length) mkInt (intsC (listC c.length mkInt (intsC c))))).length) mkInt (intsC (dsW (listC ((listC a.length mkInt (intsC a)).length) mkInt (intsC (listC a.length mkInt (intsC a)))) (listC ((listC c.length mkInt (intsC c)).length) mkInt (intsC (listC c.length mkInt (intsC c)))))))))) == (0 : Int)) then ((avV (listC v0_0.length mkInt (numsC .i64 v0_0)) (listC ((listC ((dsW (listC ((listC a.length mkInt (intsC a)).length) mkInt (intsC (listC a.length mkInt (intsC a)))) (listC ((listC c.length mkInt (intsC c)).length) mkInt (intsC (listC c.length mkInt (intsC c))))).length) mkInt (intsC (dsW (listC ((listC a.length mkInt (intsC a)).length) mkInt (intsC (listC a.length mkInt (intsC a)))) (listC ((listC c.length mkInt (intsC c)).length) mkInt (intsC (listC c.length mkInt (intsC c))))))).length) mkInt (intsC (listC ((dsW (listC ((listC a.length mkInt (intsC a)).length) mkInt (intsC (listC a.length mkInt (intsC a)))) (listC ((listC c.length mkInt (intsC c)).length) mkInt (intsC (listC c.length mkInt (intsC c))))).length) mkInt (intsC (dsW (listC ((listC a.length mkInt (intsC a)).length) mkInt (intsC (listC a.length mkInt (intsC a)))) (listC ((listC c.length mkInt (intsC c)).length) mkInt (intsC (listC c.length mkInt (intsC c)))))))))) == ((d.getD 0 0) % (4 : Int))) else false)) fun x5 => post (.t (.c (.v (.bool x5))))))))))
theorem er_law01_ClockPulses_0 (J : Inv) (a : List Int) (c : List Int) (d : List Int) (v0_0 : List Int) (v0_1 : Bool) (v0_2 : Int) (nn0 : Nat) (post : DV → Prop) : round Try.prog tab Sy101 ann_law01_ClockPulses J Try.f5 post 0 (nn0 :: []) (mk_law01_ClockPulses_0 a c d v0_0 v0_1 v0_2) = rd_law01_ClockPulses_0 J a c d v0_0 v0_1 v0_2 nn0 post := by kernel_rfl
theorem lp_law01_ClockPulses (J : Inv) (post : DV → Prop) : AllG J (loopsFn Try.prog tab Sy101 ann_law01_ClockPulses J Try.f5 post) = (((∀ F s, ¬ J 0 (0 :: F) s) ∧ ∀ n F s, J 0 ((n + 1) :: F) s → round Try.prog tab Sy101 ann_law01_ClockPulses J Try.f5 post 0 (n :: F) s) ∧ True) := by kernel_rfl
def J_law01_ClockPulses (a : List Int) (c : List Int) (d : List Int) : Inv := fun b F s => match b, F with
 | 0, [nn0] => ∃ (v0_0 : List Int) (v0_1 : Bool) (v0_2 : Int), s = mk_law01_ClockPulses_0 a c d v0_0 v0_1 v0_2 ∧ ((dsE a c = 0 ∧ smE d = 0 ∧ (dsV a c).length ≤ 60) ∧ 0 ≤ v0_2 ∧ v0_2 ≤ (dsV a c).length ∧ (nn0 : Int) + v0_2 = (dsV a c).length + 1 ∧ v0_0.length = ((d.getD 0 0) % 4).toNat + (dsV a c).length + 1 ∧ (∀ j : Nat, v0_0.getD j 0 = if ((d.getD 0 0) % 4).toNat ≤ j ∧ j < ((d.getD 0 0) % 4).toNat + v0_2.toNat then (dsV a c).getD (j - ((d.getD 0 0) % 4).toNat) 0 else 0) ∧ (v0_1 = true ↔ ∀ i, i < v0_2.toNat → (dsV a c).getD i 0 = 0))
 | _, _ => False
set_option maxHeartbeats 8000000 in
set_option maxRecDepth 100000 in
theorem rnd_law01_ClockPulses_0 (a : List Int) (c : List Int) (d : List Int) (v0_0 : List Int) (v0_1 : Bool) (v0_2 : Int) (nn0 : Nat) (hi : (dsE a c = 0 ∧ smE d = 0 ∧ (dsV a c).length ≤ 60) ∧ 0 ≤ v0_2 ∧ v0_2 ≤ (dsV a c).length ∧ ((nn0 + 1) : Int) + v0_2 = (dsV a c).length + 1 ∧ v0_0.length = ((d.getD 0 0) % 4).toNat + (dsV a c).length + 1 ∧ (∀ j : Nat, v0_0.getD j 0 = if ((d.getD 0 0) % 4).toNat ≤ j ∧ j < ((d.getD 0 0) % 4).toNat + v0_2.toNat then (dsV a c).getD (j - ((d.getD 0 0) % 4).toNat) 0 else 0) ∧ (v0_1 = true ↔ ∀ i, i < v0_2.toNat → (dsV a c).getD i 0 = 0)) : rd_law01_ClockPulses_0 (J_law01_ClockPulses a c d) a c d v0_0 v0_1 v0_2 nn0 (fun r => LeD r (.t (.c (.v (.bool true))))) := by
 obtain ⟨⟨q1, q2, q3⟩, i1, i2, i3, i4, i5, i6⟩ := hi
 obtain ⟨k, rfl⟩ : ∃ k : Nat, v0_2 = k := ⟨v0_2.toNat, by omega⟩
 have hk : (k : Int).toNat = k := rfl
 rw [hk] at i5 i6
 have z := smE_ok q2
 have m1 : 0 ≤ (d.getD 0 0) % 4 := Int.emod_nonneg _ (by decide)
 have m2 : (d.getD 0 0) % 4 < 4 := Int.emod_lt_of_pos _ (by decide)
 have eW : dsW a c = dsV a c := if_pos q1
 obtain ⟨s, hs⟩ : ∃ s : Nat, (d.getD 0 0) % 4 = s := ⟨((d.getD 0 0) % 4).toNat, by omega⟩
 rw [hs, Int.toNat_natCast] at i4 i5
 rw [hs] at m1 m2
 unfold rd_law01_ClockPulses_0
 simp only [ints_listC, lpps_listC, pngs_listC, rgs_listC, nums_ints, eW]
 rw [hs, hk]
 have n1 := numsP_ints (dsV a c)
 have n2 := numsP_ints v0_0
 refine cond_i (fun h => lt_i fun x1 h1 => ?_) (fun h => ?_)
 ·have hlt : k < (dsV a c).length := by have := of_decide_eq_true h; omega
  rw [wi (by omega)] at h1
  have e1 : x1.toNat = s + k := by omega
  rw [e1]
  refine ⟨by omega, by omega, ⟨by omega, by trivial⟩, ⟨cond_i (fun _ => ⟨by omega, trivial⟩) (fun _ => ⟨by trivial, trivial⟩), lt_i fun x2 h2 => lt_i fun x3 h3 => ?_⟩⟩
  rw [wi (by omega)] at h3
  subst h3
  refine ⟨_, _, _, rfl, ⟨q1, q2, q3⟩, by omega, by omega, by omega, by rw [hs, Int.toNat_natCast, List.length_set]; omega, fun j => ?_, ?_⟩
  ·rw [hs, Int.toNat_natCast, show ((k : Int) + 1).toNat = k + 1 by omega]
   by_cases c1 : j = s + k
   ·subst c1
    rw [if_pos (by omega), show s + k - s = k by omega]
    simp [List.getD, show s + k < v0_0.length by omega]
   ·have e2 : (v0_0.set (s + k) ((dsV a c).getD k 0)).getD j 0 = v0_0.getD j 0 := by
     simp [List.getD, List.getElem?_set, Ne.symm c1]
    rw [e2, i5 j]
    by_cases c2 : s ≤ j ∧ j < s + k
    ·rw [if_pos c2, if_pos (by omega)]
    ·rw [if_neg c2, if_neg (by omega)]
  ·rw [show ((k : Int) + 1).toNat = k + 1 by omega, ← h2]
   cases hv : v0_1 with
   | true =>
    have i7 := i6.1 hv
    constructor
    ·intro e i hi
     have e : (dsV a c).getD k 0 = 0 := by simpa using e
     rcases (by omega : i < k ∨ i = k) with c1 | rfl
     ·exact i7 i c1
     ·exact e
    ·intro e
     have := e k (by omega)
     rw [this]; rfl
   | false =>
    constructor
    ·intro e; cases e
    ·intro e
     have := i6.2 fun i hi => e i (by omega)
     rw [hv] at this; cases this
 ·have h := of_decide_eq_false h
  have ek : k = (dsV a c).length := by omega
  refine ⟨cond_i (fun _ => ⟨by trivial, trivial⟩) (fun _ => ⟨n2, trivial⟩), lt_i fun x4 h4 => cond_i (fun _ => LeD.refl _) (fun g => ?_)⟩
  rw [← h4] at g
  cases hv : v0_1 with
  | true => rw [hv] at g; cases g
  | false =>
   rw [hv] at g
   have g : smE v0_0 = 0 := by simpa using g
   have g2 := smE_ok g
   have hr : ∀ j : Nat, v0_0.getD j 0 = rowP (dsV a c) s j := by
    intro j
    rw [i5 j]
    unfold rowP
    by_cases c1 : s ≤ j
    ·by_cases c2 : j < s + k
     ·rw [if_pos ⟨c1, c2⟩, if_pos c1]
     ·rw [if_neg (fun q => c2 q.2), if_pos c1]
      simp [List.getD, List.getElem?_eq_none (show (dsV a c).length ≤ j - s by omega)]
    ·rw [if_neg (fun q => c1 q.1), if_neg c1]
   have hz : ∃ i, i < (dsV a c).length ∧ (dsV a c).getD i 0 ≠ 0 := by
    apply Classical.byContradiction
    intro hn
    have : v0_1 = true := i6.2 fun i hi => by
     apply Classical.byContradiction
     intro hc
     exact hn ⟨i, by omega, hc⟩
    rw [hv] at this; cases this
   have gp : smE (dsV a c) = 0 := smE_of ⟨by obtain ⟨i, hi, _⟩ := hz; omega, by omega⟩ fun i hi => by
    have e1 := g2.2 (s + i) (by omega)
    have e2 := hr (s + i)
    rw [pulse_here] at e2
    rw [e2] at e1
    exact e1
   have ge : avE v0_0 (dsV a c) = 0 := by unfold avE; rw [g, gp, decide_eq_true (show ((dsV a c).length : Int) ≤ v0_0.length by omega)]; rfl
   have ga : avV v0_0 (dsV a c) = s := by
    unfold avV
    rw [if_pos ge, show v0_0.length - (dsV a c).length + 1 = (s + 1) + 1 by omega, (arK_min _ _ _).1]
    have ef : (fun k => sqK v0_0 (dsV a c) k (dsV a c).length) = fun k => sqSum (fun i => rowP (dsV a c) s (k + i)) (fun i => (dsV a c).getD i 0) (dsV a c).length := by
     funext k
     rw [sqK_sum]
     congr 1
     funext i
     exact hr (k + i)
    rw [ef, arrives hz (by omega)]
   refine ⟨⟨n1, by omega⟩, ⟨n2, n1, by omega, by omega⟩, cond_i (fun _ => trivial) (fun _ => ⟨by trivial, trivial⟩), lt_i fun x5 h5 => leB ?_⟩
   rw [← h5, ge, ga]
   simp
theorem zero_law01_ClockPulses_0 (a : List Int) (c : List Int) (d : List Int) (v0_0 : List Int) (v0_1 : Bool) (v0_2 : Int)  (hi : (dsE a c = 0 ∧ smE d = 0 ∧ (dsV a c).length ≤ 60) ∧ 0 ≤ v0_2 ∧ v0_2 ≤ (dsV a c).length ∧ (0 : Int) + v0_2 = (dsV a c).length + 1 ∧ v0_0.length = ((d.getD 0 0) % 4).toNat + (dsV a c).length + 1 ∧ (∀ j : Nat, v0_0.getD j 0 = if ((d.getD 0 0) % 4).toNat ≤ j ∧ j < ((d.getD 0 0) % 4).toNat + v0_2.toNat then (dsV a c).getD (j - ((d.getD 0 0) % 4).toNat) 0 else 0) ∧ (v0_1 = true ↔ ∀ i, i < v0_2.toNat → (dsV a c).getD i 0 = 0)) : False := by
 omega
set_option maxHeartbeats 8000000 in
set_option maxRecDepth 100000 in
theorem spec_law01_ClockPulses (a : List Int) (c : List Int) (d : List Int) : vc_law01_ClockPulses (J_law01_ClockPulses a c d) a c d (fun r => LeD r (.t (.c (.v (.bool true))))) := by
 unfold vc_law01_ClockPulses
 simp only [ints_listC, lpps_listC, pngs_listC, rgs_listC]
 have n1 := numsP_ints a
 have n2 := numsP_ints c
 have n3 := numsP_ints d
 by_cases hl : a.length ≤ 26
 case neg =>
  simp only [decide_eq_true (show ((a.length : Nat) : Int) > 26 by omega), n00, beq_self_eq_true, bne_self_eq_false, Bool.not_true, Bool.not_false, _root_.cond_true, _root_.cond_false, decide_true, eq_self_iff_true, List.length_nil, lt_v, q2a, q2b, q12a, q12b, q13a, q13b, wr00, nums_ints]
  (repeat' with_reducible first | assumption | trivial | (refine And.intro ?_ ?_))
  all_goals first | omega | exact LeD.refl _ | exact leB rfl | exact numsP_ints _
 by_cases hc : c.length ≤ 26
 case neg =>
  simp only [decide_eq_false (show ¬ ((a.length : Nat) : Int) > 26 by omega), decide_eq_true (show ((c.length : Nat) : Int) > 26 by omega), n00, beq_self_eq_true, bne_self_eq_false, Bool.not_true, Bool.not_false, _root_.cond_true, _root_.cond_false, decide_true, eq_self_iff_true, List.length_nil, lt_v, q2a, q2b, q12a, q12b, q13a, q13b, wr00, nums_ints]
  (repeat' with_reducible first | assumption | trivial | (refine And.intro ?_ ?_))
  all_goals first | omega | exact LeD.refl _ | exact leB rfl | exact numsP_ints _
 by_cases hd : d.length ≤ 26
 case neg =>
  simp only [decide_eq_false (show ¬ ((a.length : Nat) : Int) > 26 by omega), decide_eq_false (show ¬ ((c.length : Nat) : Int) > 26 by omega), decide_eq_true (show ((d.length : Nat) : Int) > 26 by omega), n00, beq_self_eq_true, bne_self_eq_false, Bool.not_true, Bool.not_false, _root_.cond_true, _root_.cond_false, decide_true, eq_self_iff_true, List.length_nil, lt_v, q2a, q2b, q12a, q12b, q13a, q13b, wr00, nums_ints]
  (repeat' with_reducible first | assumption | trivial | (refine And.intro ?_ ?_))
  all_goals first | omega | exact LeD.refl _ | exact leB rfl | exact numsP_ints _
 simp only [decide_eq_false (show ¬ ((a.length : Nat) : Int) > 26 by omega), decide_eq_false (show ¬ ((c.length : Nat) : Int) > 26 by omega), decide_eq_false (show ¬ ((d.length : Nat) : Int) > 26 by omega), n00, beq_self_eq_true, bne_self_eq_false, Bool.not_true, Bool.not_false, _root_.cond_true, _root_.cond_false, decide_true, eq_self_iff_true, List.length_nil, lt_v, q2a, q2b, q12a, q12b, q13a, q13b, wr00, nums_ints]
 rcases ds_cases a c with ⟨a1, a2, a3, a4⟩ | ⟨a1, a2, a3, a4, a5⟩ | ⟨a1, a2, a3, a4, a5⟩
 ·simp only [a1, a2, a3, a4, n00, beq_self_eq_true, bne_self_eq_false, Bool.not_true, Bool.not_false, _root_.cond_true, _root_.cond_false, decide_true, eq_self_iff_true, List.length_nil, lt_v, q2a, q2b, q12a, q12b, q13a, q13b, wr00, nums_ints]
  rcases av_cases d a with ⟨b1, b2, b3, b4⟩ | ⟨b1, b2, b3, b4, b5⟩ | ⟨b1, b2, b3, b4, b5, b6⟩ | ⟨b1, b2, b3, b4, b5⟩
  ·simp only [b1, b2, b3, b4, n00, beq_self_eq_true, bne_self_eq_false, Bool.not_true, Bool.not_false, _root_.cond_true, _root_.cond_false, decide_true, eq_self_iff_true, List.length_nil, lt_v, q2a, q2b, q12a, q12b, q13a, q13b, wr00, nums_ints]
   (repeat' with_reducible first | assumption | trivial | (refine And.intro ?_ ?_))
   all_goals first | omega | exact LeD.refl _ | exact leB rfl | exact numsP_ints _
  ·simp only [b1, b2, b3, b4, b5, a1, a2, n00, beq_self_eq_true, bne_self_eq_false, Bool.not_true, Bool.not_false, _root_.cond_true, _root_.cond_false, decide_true, eq_self_iff_true, List.length_nil, lt_v, q2a, q2b, q12a, q12b, q13a, q13b, wr00, nums_ints]
   (repeat' with_reducible first | assumption | trivial | (refine And.intro ?_ ?_))
   all_goals first | omega | exact LeD.refl _ | exact leB rfl | exact numsP_ints _
  ·rw [b2] at a1; cases a1
  ·rw [b2] at a1; cases a1
 ·simp only [a1, a2, a3, a4, a5, n00, beq_self_eq_true, bne_self_eq_false, Bool.not_true, Bool.not_false, _root_.cond_true, _root_.cond_false, decide_true, eq_self_iff_true, List.length_nil, lt_v, q2a, q2b, q12a, q12b, q13a, q13b, wr00, nums_ints]
  rcases av_cases d a with ⟨b1, b2, b3, b4⟩ | ⟨b1, b2, b3, b4, b5⟩ | ⟨b1, b2, b3, b4, b5, b6⟩ | ⟨b1, b2, b3, b4, b5⟩
  ·simp only [b1, b2, b3, b4, n00, beq_self_eq_true, bne_self_eq_false, Bool.not_true, Bool.not_false, _root_.cond_true, _root_.cond_false, decide_true, eq_self_iff_true, List.length_nil, lt_v, q2a, q2b, q12a, q12b, q13a, q13b, wr00, nums_ints]
   (repeat' with_reducible first | assumption | trivial | (refine And.intro ?_ ?_))
   all_goals first | omega | exact LeD.refl _ | exact leB rfl | exact numsP_ints _
  ·rw [a1] at b2; cases b2
  ·simp only [b1, b2, b3, b4, b5, b6, n00, beq_self_eq_true, bne_self_eq_false, Bool.not_true, Bool.not_false, _root_.cond_true, _root_.cond_false, decide_true, eq_self_iff_true, List.length_nil, lt_v, q2a, q2b, q12a, q12b, q13a, q13b, wr00, nums_ints]
   (repeat' with_reducible first | assumption | trivial | (refine And.intro ?_ ?_))
   all_goals first | omega | exact LeD.refl _ | exact leB rfl | exact numsP_ints _
  ·simp only [b1, b2, b3, b4, b5, n00, beq_self_eq_true, bne_self_eq_false, Bool.not_true, Bool.not_false, _root_.cond_true, _root_.cond_false, decide_true, eq_self_iff_true, List.length_nil, lt_v, q2a, q2b, q12a, q12b, q13a, q13b, wr00, nums_ints]
   (repeat' with_reducible first | assumption | trivial | (refine And.intro ?_ ?_))
   all_goals first | omega | exact LeD.refl _ | exact leB rfl | exact numsP_ints _
 ·simp only [a1, a2, a3, a4, n00, beq_self_eq_true, bne_self_eq_false, Bool.not_true, Bool.not_false, _root_.cond_true, _root_.cond_false, decide_true, eq_self_iff_true, List.length_nil, lt_v, q2a, q2b, q12a, q12b, q13a, q13b, wr00, nums_ints]
  have a6 := numsP_ints (dsV a c)
  rcases av_cases d a with ⟨b1, b2, b3, b4⟩ | ⟨b1, b2, b3, b4, b5⟩ | ⟨b1, b2, b3, b4, b5, b6⟩ | ⟨b1, b2, b3, b4, b5⟩
  ·simp only [b1, b2, b3, b4, n00, beq_self_eq_true, bne_self_eq_false, Bool.not_true, Bool.not_false, _root_.cond_true, _root_.cond_false, decide_true, eq_self_iff_true, List.length_nil, lt_v, q2a, q2b, q12a, q12b, q13a, q13b, wr00, nums_ints]
   (repeat' with_reducible first | assumption | trivial | (refine And.intro ?_ ?_))
   all_goals first | omega | exact LeD.refl _ | exact leB rfl | exact numsP_ints _
  ·rw [a1] at b2; cases b2
  ·simp only [b1, b2, b3, b4, b5, b6, n00, beq_self_eq_true, bne_self_eq_false, Bool.not_true, Bool.not_false, _root_.cond_true, _root_.cond_false, decide_true, eq_self_iff_true, List.length_nil, lt_v, q2a, q2b, q12a, q12b, q13a, q13b, wr00, nums_ints]
   (repeat' with_reducible first | assumption | trivial | (refine And.intro ?_ ?_))
   all_goals first | omega | exact LeD.refl _ | exact leB rfl | exact numsP_ints _
  ·simp only [b1, b2, b3, b4, b5, n00, beq_self_eq_true, bne_self_eq_false, Bool.not_true, Bool.not_false, _root_.cond_true, _root_.cond_false, decide_true, eq_self_iff_true, List.length_nil, lt_v, q2a, q2b, q12a, q12b, q13a, q13b, wr00, nums_ints]
   have z := smE_ok b1
   have m1 : 0 ≤ (d.getD 0 0) % 4 := Int.emod_nonneg _ (by decide)
   have m2 : (d.getD 0 0) % 4 < 4 := Int.emod_lt_of_pos _ (by decide)
   have w1 : IntKind.i64.wrap (d.getD 0 0 % 4 + ((dsV a c).length : Int)) = d.getD 0 0 % 4 + ((dsV a c).length : Int) := wi (by omega)
   have w2 : IntKind.i64.wrap (d.getD 0 0 % 4 + ((dsV a c).length : Int) + 1) = d.getD 0 0 % 4 + ((dsV a c).length : Int) + 1 := wi (by omega)
   simp only [w1, w2, n00, beq_self_eq_true, bne_self_eq_false, Bool.not_true, Bool.not_false, _root_.cond_true, _root_.cond_false, decide_true, eq_self_iff_true, List.length_nil, lt_v, q2a, q2b, q12a, q12b, q13a, q13b, wr00, nums_ints]
   (repeat' with_reducible first | assumption | trivial | (refine And.intro ?_ ?_))
   all_goals first | omega | skip
   ·unfold roomP maxLen; omega
   ·refine ⟨(dsV a c).length + 1, _, _, _, rfl, ⟨a3, b1, a5⟩, by omega, by omega, by omega, by simp <;> omega, fun j => ?_, ?_⟩
    ·rw [if_neg (by simp <;> omega)]
     simp only [List.getD, List.getElem?_replicate]; split <;> rfl
    ·exact ⟨fun _ i hi => absurd hi (by simp), fun _ => rfl⟩
theorem all_law01_ClockPulses (a : List Int) (c : List Int) (d : List Int) : AllG (J_law01_ClockPulses a c d) (loopsFn Try.prog tab Sy101 ann_law01_ClockPulses (J_law01_ClockPulses a c d) Try.f5 (fun r => LeD r (.t (.c (.v (.bool true)))))) := by
 rw [lp_law01_ClockPulses]
 refine ⟨⟨?_, ?_⟩, trivial⟩
 ·intro F s h
  obtain _ | ⟨g, F⟩ := F
  case cons => exact h.elim
  obtain ⟨w0, w1, w2, rfl, hi⟩ := h
  exact zero_law01_ClockPulses_0 a c d w0 w1 w2 hi
 ·intro n F s h
  obtain _ | ⟨g, F⟩ := F
  case cons => exact h.elim
  obtain ⟨w0, w1, w2, rfl, hi⟩ := h
  rw [er_law01_ClockPulses_0]
  exact rnd_law01_ClockPulses_0 a c d _ _ _ _ hi
theorem law_law01_ClockPulses (a : List Int) (c : List Int) (d : List Int) (W : World) (N : Nat → Prop) (vs : List Value) (h : All2 (RelD (RelF W N)) [.t (.c (.sl 1 a.length (intsC a))), .t (.c (.sl 1 c.length (intsC c))), .t (.c (.sl 1 d.length (intsC d)))] vs) : Calls Try.prog 5 vs.toArray W fun e w' => e = .returned (.bool true) ∧ Below W.heap.size W w' :=
 law_end (fn_sound mixed tabOK VSy101 (ann := ann_law01_ClockPulses) VI1 (fn := Try.f5) (J := J_law01_ClockPulses a c d) (by kernel_rfl) fit_law01_ClockPulses (args := [.t (.c (.sl 1 a.length (intsC a))), .t (.c (.sl 1 c.length (intsC c))), .t (.c (.sl 1 d.length (intsC d)))]) (post := (fun r => LeD r (.t (.c (.v (.bool true)))))) (by rw [ev_law01_ClockPulses]; exact spec_law01_ClockPulses a c d) (all_law01_ClockPulses a c d) (Nat.le_of_ble_eq_true (by kernel_rfl)) W N vs trivial h)
end Go.Proofs.Ytkifmfmenobhnaa