/- Texts of this claim, together. -/
import Derived.Test.YtlapeoboekchpaaGreatDoorTS13
import Derived.Test.YtlapeoboekchpaaGreatDoorTS12
import Derived.Test.YtlapeoboekchpaaGreatDoorTS11

set_option linter.unusedVariables false
set_option linter.unusedSimpArgs false
namespace Go.Proofs.YtlapeoboekchpaaGreatDoor
open Go.RowKit Ev
theorem cond_t {b : Bool} {A B : Prop} (hb : b = true) (h : A) : cond b A B := by rw [hb]; exact h
theorem nums2_gen (l : List (Int × Int)) : numsP 2 l.length (genC (l.map fun x => [.v (.int .i64 x.1), .v (.int .i64 x.2)])) := by
 intro i j hi hj
 rcases (by omega : j = 0 ∨ j = 1) with rfl | rfl <;> simp [genC, List.getD, hi, cvInt]
def tabM (n : Nat) (t : List Int) : Nat → Nat → Int := fun i j => t.getD (i * n + j) far
def AgM (n : Nat) (f : Nat → Nat → Int) (t : List Int) : Prop := t.length = n * n ∧ ∀ x y, x < n → y < n → f x y = tabM n t x y
theorem ix_lt {n i j : Nat} (hi : i < n) (hj : j < n) : i * n + j < n * n := by
 have : (i + 1) * n ≤ n * n := Nat.mul_le_mul_right n hi
 rw [Nat.succ_mul] at this; omega
theorem ix_eq {n i j x y : Nat} (hj : j < n) (hy : y < n) (h : i * n + j = x * n + y) : i = x ∧ j = y := by
 have h1 : (i * n + j) / n = i := by rw [Nat.add_comm, Nat.add_mul_div_right _ _ (by omega), Nat.div_eq_of_lt hj, Nat.zero_add]
 have h2 : (x * n + y) / n = x := by rw [Nat.add_comm, Nat.add_mul_div_right _ _ (by omega), Nat.div_eq_of_lt hy, Nat.zero_add]
 have e : i = x := by rw [← h1, ← h2, h]
 subst e
 exact ⟨rfl, by omega⟩
theorem AgM.upd {n : Nat} {f : Nat → Nat → Int} {t : List Int} (h : AgM n f t) {i j : Nat} (hi : i < n) (hj : j < n) (v : Int) : AgM n (updI f i j v) (t.set (i * n + j) v) := by
 refine ⟨by rw [List.length_set]; exact h.1, fun x y hx hy => ?_⟩
 unfold updI
 by_cases e : x = i ∧ y = j
 ·obtain ⟨rfl, rfl⟩ := e
  rw [if_pos ⟨rfl, rfl⟩]
  simp [tabM, List.getD, h.1, ix_lt hi hj]
 ·rw [if_neg e, h.2 x y hx hy]
  have : i * n + j ≠ x * n + y := fun q => e ⟨(ix_eq hj hy q).1.symm, (ix_eq hj hy q).2.symm⟩
  simp [tabM, List.getD, List.getElem?_set, this]
def stepT (n : Nat) (t : List Int) (k i j : Nat) : List Int := if tabM n t i k < far ∧ tabM n t k j < far then t.set (i * n + j) (min (tabM n t i j) (tabM n t i k + tabM n t k j)) else t
theorem AgM.step {n : Nat} {f : Nat → Nat → Int} {t : List Int} (h : AgM n f t) {k i j : Nat} (hk : k < n) (hi : i < n) (hj : j < n) : AgM n (stepK f k i j) (stepT n t k i j) := by
 unfold stepK stepT
 rw [← h.2 i k hi hk, ← h.2 k j hk hj, ← h.2 i j hi hj]
 split
 ·exact h.upd hi hj _
 ·exact h
def jT (n : Nat) (t : List Int) (k i : Nat) : Nat → List Int
 | 0 => t
 | j + 1 => stepT n (jT n t k i j) k i j
def iT (n : Nat) (t : List Int) (k : Nat) : Nat → List Int
 | 0 => t
 | i + 1 => jT n (iT n t k i) k i n
def kT (n : Nat) (t : List Int) : Nat → List Int
 | 0 => t
 | k + 1 => iT n (kT n t k) k n
theorem AgM.j {n : Nat} {f : Nat → Nat → Int} {t : List Int} (h : AgM n f t) {k i : Nat} (hk : k < n) (hi : i < n) : ∀ j, j ≤ n → AgM n (jK f k i j) (jT n t k i j)
 | 0, _ => h
 | j + 1, hj => (AgM.j h hk hi j (by omega)).step hk hi (by omega)
theorem AgM.i {n : Nat} {f : Nat → Nat → Int} {t : List Int} (h : AgM n f t) {k : Nat} (hk : k < n) : ∀ i, i ≤ n → AgM n (iK f n k i) (iT n t k i)
 | 0, _ => h
 | i + 1, hi => (AgM.i h hk i (by omega)).j hk (by omega) n (Nat.le_refl _)
theorem AgM.k {n : Nat} {f : Nat → Nat → Int} {t : List Int} (h : AgM n f t) : ∀ k, k ≤ n → AgM n (kK f n k) (kT n t k)
 | 0, _ => h
 | k + 1, hk => (AgM.k h k (by omega)).i (by omega) n (Nat.le_refl _)
def lnkT (n : Nat) (t : List Int) (x : Lnk) : List Int := (fun t => t.set (x.to.toNat * n + x.frm.toNat) (min (tabM n t x.to.toNat x.frm.toNat) (-x.lo))) (t.set (x.frm.toNat * n + x.to.toNat) (min (tabM n t x.frm.toNat x.to.toNat) x.hi))
theorem AgM.lnk {n : Nat} {f : Nat → Nat → Int} {t : List Int} (h : AgM n f t) {x : Lnk} (hx : x.ok n) : AgM n (lnkG f x) (lnkT n t x) := by
 obtain ⟨h1, h2, _⟩ := hx
 have g := h.upd (i := x.frm.toNat) (j := x.to.toNat) (by omega) (by omega) (min (tabM n t x.frm.toNat x.to.toNat) x.hi)
 have g2 := g.upd (i := x.to.toNat) (j := x.frm.toNat) (by omega) (by omega) (min (tabM n (t.set (x.frm.toNat * n + x.to.toNat) (min (tabM n t x.frm.toNat x.to.toNat) x.hi)) x.to.toNat x.frm.toNat) (-x.lo))
 rw [← g.2 _ _ (by omega) (by omega), ← h.2 _ _ (by omega) (by omega)] at g2
 unfold lnkG lnkF lnkT
 rw [← h.2 _ _ (by omega) (by omega)]
 rw [← h.2 _ _ (by omega) (by omega)] at g
 dsimp only
 rw [← g.2 _ _ (by omega) (by omega)]
 exact g2
def initT (n : Nat) : List Int := (List.range (n * n)).map fun q => if q / n = q % n then 0 else far
theorem AgM.init {n : Nat} : AgM n initM (initT n) := by
 refine ⟨by simp [initT], fun x y hx hy => ?_⟩
 have h1 : (x * n + y) / n = x := by rw [Nat.add_comm, Nat.add_mul_div_right _ _ (by omega), Nat.div_eq_of_lt hy, Nat.zero_add]
 have h2 : (x * n + y) % n = y := by rw [Nat.add_comm, Nat.add_mul_mod_self_right, Nat.mod_eq_of_lt hy]
 simp [tabM, initT, List.getD, ix_lt hx hy, h1, h2, initM]
def bdT (l : List Lnk) (n : Nat) : List Int := kT n (l.foldl (lnkT n) (initT n)) n
theorem AgM.links {n : Nat} : ∀ {l : List Lnk} {f : Nat → Nat → Int} {t : List Int}, (∀ x ∈ l, x.ok n) → AgM n f t → AgM n (l.foldl lnkG f) (l.foldl (lnkT n) t)
 | [], _, _, _, h => h
 | x :: l, f, t, hx, h => AgM.links (f := lnkG f x) (t := lnkT n t x) (fun y hy => hx y (by simp [hy])) (h.lnk (hx x (by simp)))
theorem lnks_ok {n : Nat} {l : List Lnk} (h : ∀ k, k < l.length → (lnkAt l k).ok n) : ∀ x ∈ l, x.ok n := by
 intro x hx
 obtain ⟨i, hi, e⟩ := List.mem_iff_getElem.1 hx
 have := h i hi
 rwa [show lnkAt l i = x by simp [lnkAt, List.getD, hi, e]] at this
theorem bd_tab {n : Nat} {l : List Lnk} (h : ∀ k, k < l.length → (lnkAt l k).ok n) : AgM n (bdF l n) (bdT l n) := by
 unfold bdF bdT lnkM
 rw [List.take_length]
 exact (AgM.links (lnks_ok h) AgM.init).k n (Nat.le_refl _)
theorem ex_nt : ntE exC exL = 0 := by kernel_rfl
theorem ex_bd (i j : Nat) (hi : i < 3) (hj : j < 3) : bdF exL 3 i j = tabM 3 [0, 7, 9, -5, 0, 2, -7, -1, 0] i j := by
 have h := ntE_bd ex_nt
 have e := (bd_tab (n := 3) h.2.2).2 i j hi hj
 rw [e, show bdT exL 3 = [0, 7, 9, -5, 0, 2, -7, -1, 0] from by kernel_rfl]
theorem ex_bdB : bdB exL exC.length = true := by
 rw [bdB_true]
 intro i hi
 have hi : i < 3 := hi
 rw [show exC.length = 3 from rfl, ex_bd i i hi hi]
 rcases (by omega : i = 0 ∨ i = 1 ∨ i = 2) with rfl | rfl | rfl <;> decide
theorem ex_opn (i : Nat) (hi : i < 3) : opnB exL 3 i = false := by
 unfold opnB
 rw [ex_bd 0 i (by omega) hi, ex_bd i 0 hi (by omega)]
 rcases (by omega : i = 0 ∨ i = 1 ∨ i = 2) with rfl | rfl | rfl <;> decide
theorem ex_ofE : ofE exC exL = 0 := by
 unfold ofE
 rw [if_neg (by rw [ex_nt]; simp), if_pos ex_bdB, if_neg]
 intro h
 unfold ofS at h
 obtain ⟨i, hi, e⟩ := List.any_eq_true.1 h
 rw [show exC.length = 3 from rfl, ex_opn i (List.mem_range.1 hi)] at e
 cases e
theorem ex_ofV : ofV exC exL = [⟨0, 0⟩, ⟨5, 7⟩, ⟨7, 9⟩] := by
 unfold ofV ofK
 rw [if_pos ex_ofE, show exC.length = 3 from rfl]
 simp only [show List.range 3 = [0, 1, 2] from rfl, List.map_cons, List.map_nil]
 rw [ex_bd 0 0 (by omega) (by omega), ex_bd 1 0 (by omega) (by omega), ex_bd 0 1 (by omega) (by omega), ex_bd 2 0 (by omega) (by omega), ex_bd 0 2 (by omega) (by omega)]
 rfl
def vc_law01_awake  (post : DV → Prop) : Prop := (numsP 4 exP.length (pngsC exP)) ∧ ((txP exC.length (txsC exC) ∧ numsP 4 exL.length (lnksC exL) ∧ (∀ k, k < ((txOf exC.length (txsC exC))).length → (txAt (txOf exC.length (txsC exC)) k).size ≤ 1000000)) ∧ ((numsP 1 4 (genC [[.v (.int .i64 7)], [.v (.int .i64 2)], [.v (.int .i64 2)], [.v (.int .i64 9)]]) ∧ (([(7 : Int), (2 : Int), (2 : Int), (9 : Int)] : List Int)).length ≤ 1000000) ∧ ((numsP 2 2 (genC [[.v (.int .i64 100), .v (.int .i64 5)], [.v (.int .i64 200), .v (.int .i64 (-3))]])) ∧ ((numsP 1 6 (genC [[.v (.int .i64 0)], [.v (.int .i64 1)], [.v (.int .i64 2)], [.v (.int .i64 3)], [.v (.int .i64 6)], [.v (.int .i64 0)]]) ∧ numsP 1 4 (genC [[.v (.int .i64 1)], [.v (.int .i64 2)], [.v (.int .i64 3)], [.v (.int .i64 6)]]) ∧ (([(0 : Int), (1 : Int), (2 : Int), (3 : Int), (6 : Int), (0 : Int)] : List Int)).length ≤ 1000000 ∧ (([(1 : Int), (2 : Int), (3 : Int), (6 : Int)] : List Int)).length ≤ 1000000) ∧ (cond ((obE (⟨(100 : Int), (2 : Int)⟩ : Cab) (listC exP.length mkPng (pngsC exP)) (50050 : Int)) == (0 : Int)) (cond (bif (((taV (⟨(100 : Int), (2 : Int)⟩ : Cab) (listC exP.length mkPng (pngsC exP)) (50050 : Int)).lo) == (51045 : Int)) then (bif (((taV (⟨(100 : Int), (2 : Int)⟩ : Cab) (listC exP.length mkPng (pngsC exP)) (50050 : Int)).hi) == (51057 : Int)) then true else false) else false) (cond ((ofE (txOf exC.length (txsC exC)) (listC exL.length mkLnk (lnksC exL))) == (0 : Int)) ((numsP 2 ((ofV (txOf exC.length (txsC exC)) (listC exL.length mkLnk (lnksC exL))).length) (rgsC (ofV (txOf exC.length (txsC exC)) (listC exL.length mkLnk (lnksC exL)))) ∧ numsP 2 3 (genC [[.v (.int .i64 0), .v (.int .i64 0)], [.v (.int .i64 5), .v (.int .i64 7)], [.v (.int .i64 7), .v (.int .i64 9)]]) ∧ ((listC ((ofV (txOf exC.length (txsC exC)) (listC exL.length mkLnk (lnksC exL))).length) mkRg (rgsC (ofV (txOf exC.length (txsC exC)) (listC exL.length mkLnk (lnksC exL)))))).length ≤ 1000000) ∧ (cond (decide ((listC ((ofV (txOf exC.length (txsC exC)) (listC exL.length mkLnk (lnksC exL))).length) mkRg (rgsC (ofV (txOf exC.length (txsC exC)) (listC exL.length mkLnk (lnksC exL))))) = (listC 3 mkRg (genC [[.v (.int .i64 0), .v (.int .i64 0)], [.v (.int .i64 5), .v (.int .i64 7)], [.v (.int .i64 7), .v (.int .i64 9)]])))) (cond ((urE ([(7 : Int), (2 : Int), (2 : Int), (9 : Int)] : List Int) (10 : Int)) == (0 : Int)) ((numsP 1 ((urR ([(7 : Int), (2 : Int), (2 : Int), (9 : Int)] : List Int) (10 : Int)).length) (intsC (urR ([(7 : Int), (2 : Int), (2 : Int), (9 : Int)] : List Int) (10 : Int))) ∧ numsP 1 4 (genC [[.v (.int .i64 7)], [.v (.int .i64 12)], [.v (.int .i64 12)], [.v (.int .i64 19)]]) ∧ ((listC ((urR ([(7 : Int), (2 : Int), (2 : Int), (9 : Int)] : List Int) (10 : Int)).length) mkInt (intsC (urR ([(7 : Int), (2 : Int), (2 : Int), (9 : Int)] : List Int) (10 : Int))))).length ≤ 1000000) ∧ (cond (decide ((listC ((urR ([(7 : Int), (2 : Int), (2 : Int), (9 : Int)] : List Int) (10 : Int)).length) mkInt (intsC (urR ([(7 : Int), (2 : Int), (2 : Int), (9 : Int)] : List Int) (10 : Int)))) = ([(7 : Int), (12 : Int), (12 : Int), (19 : Int)] : List Int))) (cond ((tfE (listC 2 mkLpp (genC [[.v (.int .i64 100), .v (.int .i64 5)], [.v (.int .i64 200), .v (.int .i64 (-3))]])) (203 : Int)) == (0 : Int)) ((numsP 1 ((tfV (listC 2 mkLpp (genC [[.v (.int .i64 100), .v (.int .i64 5)], [.v (.int .i64 200), .v (.int .i64 (-3))]])) (203 : Int)).length) (intsC (tfV (listC 2 mkLpp (genC [[.v (.int .i64 100), .v (.int .i64 5)], [.v (.int .i64 200), .v (.int .i64 (-3))]])) (203 : Int))) ∧ numsP 1 2 (genC [[.v (.int .i64 198)], [.v (.int .i64 201)]]) ∧ ((listC ((tfV (listC 2 mkLpp (genC [[.v (.int .i64 100), .v (.int .i64 5)], [.v (.int .i64 200), .v (.int .i64 (-3))]])) (203 : Int)).length) mkInt (intsC (tfV (listC 2 mkLpp (genC [[.v (.int .i64 100), .v (.int .i64 5)], [.v (.int .i64 200), .v (.int .i64 (-3))]])) (203 : Int))))).length ≤ 1000000) ∧ (cond (decide ((listC ((tfV (listC 2 mkLpp (genC [[.v (.int .i64 100), .v (.int .i64 5)], [.v (.int .i64 200), .v (.int .i64 (-3))]])) (203 : Int)).length) mkInt (intsC (tfV (listC 2 mkLpp (genC [[.v (.int .i64 100), .v (.int .i64 5)], [.v (.int .i64 200), .v (.int .i64 (-3))]])) (203 : Int)))) = ([(198 : Int), (201 : Int)] : List Int))) (cond ((avE ([(0 : Int), (1 : Int), (2 : Int), (3 : Int), (6 : Int), (0 : Int)] : List Int) ([(1 : Int), (2 : Int), (3 : Int), (6 : Int)] : List Int)) == (0 : Int)) (post (.t (.c (.v (.bool ((avV ([(0 : Int), (1 : Int), (2 : Int), (3 : Int), (6 : Int), (0 : Int)] : List Int) ([(1 : Int), (2 : Int), (3 : Int), (6 : Int)] : List Int)) == (1 : Int))))))) ((false = false) ∧ (post (.t (.c (.v (.bool false))))))) ((false = false) ∧ ((false = false) ∧ (post (.t (.c (.v (.bool false))))))))) ((false = false) ∧ ((false = false) ∧ ((false = false) ∧ (post (.t (.c (.v (.bool false))))))))) ((false = false) ∧ ((false = false) ∧ ((false = false) ∧ ((false = false) ∧ (post (.t (.c (.v (.bool false))))))))))) ((false = false) ∧ ((false = false) ∧ ((false = false) ∧ ((false = false) ∧ ((false = false) ∧ (post (.t (.c (.v (.bool false))))))))))) ((false = false) ∧ ((false = false) ∧ ((false = false) ∧ ((false = false) ∧ ((false = false) ∧ ((false = false) ∧ (post (.t (.c (.v (.bool false))))))))))))) ((false = false) ∧ ((false = false) ∧ ((false = false) ∧ ((false = false) ∧ ((false = false) ∧ ((false = false) ∧ ((false = false) ∧ (post (.t (.c (.v (.bool false))))))))))))) ((false = false) ∧ ((false = false) ∧ ((false = false) ∧ ((false = false) ∧ ((false = false) ∧ ((false = false) ∧ ((false = false) ∧ ((false = false) ∧ (post (.t (.c (.v (.bool false)))))))))))))) ((false = false) ∧ ((false = false) ∧ ((false = false) ∧ ((false = false) ∧ ((false = false) ∧ ((false = false) ∧ ((false = false) ∧ ((false = false) ∧ ((false = false) ∧ (post (.t (.c (.v (.bool false)))))))))))))))))))
def ann_law01_awake : Ann := ⟨fun _ => none, fun _ => none, fun _ => [], Ilib, false, fun _ => none, fun _ => none⟩
theorem ev_law01_awake (J : Inv)  (post : DV → Prop) : evFn Tryz.prog tab Sw691 ann_law01_awake J Tryz.f6 [] post = vc_law01_awake  post := by kernel_rfl
theorem fit_law01_awake : okFn ann_law01_awake Tryz.f6 = true := by kernel_rfl
theorem lp_law01_awake (J : Inv) (post : DV → Prop) : AllG J (loopsFn Tryz.prog tab Sw691 ann_law01_awake J Tryz.f6 post) = (True) := by kernel_rfl
set_option maxHeartbeats 8000000 in
set_option maxRecDepth 100000 in
theorem spec_law01_awake  : vc_law01_awake  (fun r => LeD r (.t (.c (.v (.bool true))))) := by
 unfold vc_law01_awake
 rw [pngs_listC, txs_of, lnks_listC, rgs_listC, ints_listC, ints_listC]
 have hs : ∀ k, k < exC.length → (txAt exC k).size ≤ 1000000 := by
  intro k hk
  have hk : k < 3 := hk
  rcases (by omega : k = 0 ∨ k = 1 ∨ k = 2) with rfl | rfl | rfl <;> decide
 refine ⟨numsP_pngs _, ⟨txP_txs _, numsP_lnks _, hs⟩, ⟨numsP_gen [_, _, _, _], by decide⟩, nums2_gen [(100, 5), (200, -3)], ⟨numsP_gen [_, _, _, _, _, _], numsP_gen [_, _, _, _], by decide, by decide⟩, ?_⟩
 refine cond_t (by kernel_rfl) (cond_t (by kernel_rfl) (cond_t (by rw [ex_ofE]; rfl) ⟨⟨numsP_rgs _, nums2_gen [(0, 0), (5, 7), (7, 9)], by rw [ex_ofV]; decide⟩, cond_t (by rw [ex_ofV]; kernel_rfl) (cond_t (by kernel_rfl) ⟨⟨numsP_ints _, numsP_gen [_, _, _, _], by decide⟩, cond_t (by kernel_rfl) (cond_t (by kernel_rfl) ⟨⟨numsP_ints _, numsP_gen [_, _], by decide⟩, cond_t (by kernel_rfl) (cond_t (by kernel_rfl) (leB (by kernel_rfl)))⟩)⟩)⟩))
def con_law01_awake : Con := fun args => match args with
 | [] => some (.t (.c (.v (.bool true))), none, false)
 | _ => none
theorem ok_law01_awake : Ok Tryz.prog 6 con_law01_awake := by
 refine Ok.fn (ann := ann_law01_awake) mixed tabOK VSw691 VIlib (fn := Tryz.f6) (by kernel_rfl) (by kernel_rfl) fit_law01_awake fun args r pre fresh h hp => ?_
 unfold con_law01_awake at h
 split at h
 ·cases h
  refine ⟨rfl, fun _ _ _ => False, _, LeA.refl _, Nat.le_of_ble_eq_true (by kernel_rfl), ?_, ?_⟩
  ·rw [ev_law01_awake]; exact spec_law01_awake 
  ·rw [lp_law01_awake]; trivial
 ·cases h
def Sy92 : Sum := addS Sw691 6 con_law01_awake
theorem VSy92 : Valid Tryz.prog Sy92 := Valid.add VSw691 ok_law01_awake
end Go.Proofs.YtlapeoboekchpaaGreatDoor
set_option linter.unusedVariables false
set_option linter.unusedSimpArgs false
namespace Go.Proofs.YtlapeoboekchpaaGreatDoor
open Go.RowKit Ev
theorem hasC_no {c : UInt8} {l : List UInt8} (h : ∀ x ∈ l, x ≠ c) : hasC c l = false := by
 unfold hasC
 rw [Bool.eq_false_iff]
 intro q
 exact h c (List.contains_iff_mem.1 q) rfl
theorem hasC_not {c : UInt8} {l : List UInt8} (h : hasC c l = false) : ∀ x ∈ l, x ≠ c := by
 rintro x hx rfl
 unfold hasC at h
 rw [List.contains_iff_mem.2 hx] at h; cases h
theorem itoa_no {c : UInt8} (h : ¬ (48 ≤ c.toNat ∧ c.toNat ≤ 57)) (h2 : c ≠ 45) (n : Int) : hasC c (Lib.itoa n) = false := by
 refine hasC_no fun x hx => ?_
 rintro rfl
 by_cases g : n < 0
 ·rw [itoa_neg g] at hx
  rcases List.mem_cons.1 hx with q | q
  ·exact h2 q
  ·exact h (dec_dig _ _ q)
 ·rw [itoa_pos (by omega)] at hx
  exact h (dec_dig _ _ hx)
theorem hasC_jn {c d : UInt8} (hd : d ≠ c) : ∀ {ps : List (List UInt8)}, (∀ p ∈ ps, hasC d p = false) → hasC d (jnC c ps) = false
 | [], _ => rfl
 | [p], h => h p (by simp)
 | p :: q :: r, h => by
  have ih := hasC_jn hd (ps := q :: r) (fun x hx => h x (by simp [hx]))
  have hp := h p (by simp)
  refine hasC_no fun x hx => ?_
  have e : jnC c (p :: q :: r) = p ++ c :: jnC c (q :: r) := rfl
  rw [e, List.mem_append, List.mem_cons] at hx
  rcases hx with g | rfl | g
  ·exact hasC_not hp x g
  ·exact fun e => hd e.symm
  ·exact hasC_not ih x g
theorem words_data (l : List Int) : (wordsB l).data.toList = jnC 32 (l.map Lib.itoa) := by
 unfold wordsB
 rw [joinB_one, ofL_data, List.map_map]; rfl
theorem words_pcs {l : List Int} (h : l ≠ []) : pcs 32 (wordsB l).data.toList = l.map Lib.itoa := by
 rw [words_data]
 exact pcs_jn (by simpa using h) fun p hp => by
  obtain ⟨n, _, rfl⟩ := List.mem_map.1 hp
  exact itoa_no (by decide) (by decide) n
theorem words_wAt {l : List Int} (h : l ≠ []) {i : Nat} (hi : i < l.length) : wAt 32 (wordsB l) i = Lib.itoa (l.getD i 0) := by
 unfold wAt
 rw [words_pcs h]
 simp [List.getD, hi]
theorem num_back {v : Int} {dg : Nat} (h0 : 1 ≤ dg) (h : v.natAbs < 10 ^ dg) : numR (Lib.itoa v) dg = some v := by
 have e : dg - 1 + 1 = dg := by omega
 refine numR_itoa ?_
 by_cases g : v < 0
 ·rw [itoa_neg g, if_pos (by rfl)]
  have := dec_len (dg - 1) v.natAbs (by rw [e]; exact h)
  show (Lib.decDigits v.natAbs).length ≤ dg
  omega
 ·rw [itoa_pos (by omega), if_neg (dec_head45 _)]
  have := dec_len (dg - 1) v.toNat (by rw [e]; omega)
  omega
theorem words_back {l : List Int} {dg sg : Nat} (hl : l ≠ []) (h0 : 1 ≤ dg) (h1 : ∀ i, i < l.length → (l.getD i 0).natAbs < 10 ^ dg) (h2 : ∀ i, i < l.length → i < sg → 0 ≤ l.getD i 0) : okW (wordsB l) l.length dg sg = true ∧ valsW (wordsB l) dg l.length = l := by
 have n : nPc 32 (wordsB l) = l.length := by unfold nPc; rw [words_pcs hl, List.length_map]
 have w : ∀ i, i < l.length → numR (wAt 32 (wordsB l) i) dg = some (l.getD i 0) := fun i hi => by rw [words_wAt hl hi]; exact num_back h0 (h1 i hi)
 constructor
 ·unfold okW
  rw [allW_yes fun i hi => by
   rw [n] at hi
   unfold goodW
   rw [w i hi]
   show (!(decide (l.getD i 0 < 0) && decide (i < sg))) = true
   by_cases g : i < sg
   ·rw [decide_eq_false (show ¬ l.getD i 0 < 0 from by have := h2 i hi g; omega)]; rfl
   ·rw [decide_eq_false g, Bool.and_false]; rfl, n]
  simp
 ·refine List.ext_getElem valsW_len fun i h3 h4 => ?_
  have := valsW_at (s := wordsB l) (dg := dg) h4
  unfold valW at this
  rw [w i h4] at this
  simpa [List.getD, h3, h4] using this
theorem four {a b c d : Int} {P : Int → Prop} (h1 : P a) (h2 : P b) (h3 : P c) (h4 : P d) : ∀ i, i < [a, b, c, d].length → P ([a, b, c, d].getD i 0) := by
 intro i hi
 have hi : i < 4 := hi
 rcases (by omega : i = 0 ∨ i = 1 ∨ i = 2 ∨ i = 3) with rfl | rfl | rfl | rfl
 ·exact h1
 ·exact h2
 ·exact h3
 ·exact h4
end Go.Proofs.YtlapeoboekchpaaGreatDoor
set_option linter.unusedVariables false
set_option linter.unusedSimpArgs false
namespace Go.Proofs.YtlapeoboekchpaaGreatDoor
open Go.RowKit Ev
theorem ping_back {p : Png} (h : pngE p = 0) : ppE (wordsB [p.sent, p.arr, p.ans, p.back]) = 0 ∧ ppV (wordsB [p.sent, p.arr, p.ans, p.back]) = p := by
 obtain ⟨⟨a1, a2, a3⟩, b1, b2, b3⟩ := pngE_0.1 h
 have q := words_back (l := [p.sent, p.arr, p.ans, p.back]) (dg := 13) (sg := 4) (by simp) (by decide) (four (P := fun x => x.natAbs < 10 ^ 13) (by omega) (by omega) (by omega) (by omega)) fun i hi _ => four (P := fun x => 0 ≤ x) (by omega) (by omega) (by omega) (by omega) i hi
 have v : valsW (wordsB [p.sent, p.arr, p.ans, p.back]) 13 4 = [p.sent, p.arr, p.ans, p.back] := q.2
 have e : ppE (wordsB [p.sent, p.arr, p.ans, p.back]) = 0 := by
  unfold ppE
  rw [if_neg (by rw [show okW (wordsB [p.sent, p.arr, p.ans, p.back]) 4 13 4 = true from q.1]; simp), v]
  exact h
 refine ⟨e, ?_⟩
 unfold ppV
 rw [if_pos e, v]; rfl
theorem name_no {s : ByteArray} (h : nameB s = true) {c : UInt8} (hc : c = 44 ∨ c = 59) : hasC c s.data.toList = false := by
 unfold nameB at h
 rw [Bool.and_eq_true, List.all_eq_true] at h
 refine hasC_no fun x hx => ?_
 obtain ⟨i, hi, rfl⟩ := List.mem_iff_getElem.1 hx
 have hi' : i < s.size := by rw [← size_data]; exact hi
 have g := h.1 i (List.mem_range.2 hi')
 have hs : i < s.data.size := hi'
 have e : byI s i = (s.data.toList[i].toNat : Int) := by
  unfold byI
  rw [dif_pos hs]; simp
 rw [chB_R (byI_rg s i), e] at g
 intro q
 rw [q] at g
 unfold chR inB at g
 rcases hc with rfl | rfl <;> simp at g
theorem net_back {cs : List ByteArray} {ls : List Lnk} (h : ntE cs ls = 0) (hs : (netT cs ls).size ≤ 60000) : pnE (netT cs ls) = 0 ∧ pnC (netT cs ls) = cs ∧ pnL (netT cs ls) = ls := by
 obtain ⟨h1, h2, h3⟩ := ntE_ok h
 have hb := ntE_bd h
 have hn : ∀ t ∈ cs, nameB t = true := fun t ht => by
  obtain ⟨i, hi, rfl⟩ := List.mem_iff_getElem.1 ht
  have := h2 i hi
  unfold nmE at this
  have := (fn2 (show firstNZ [_, _] = 0 from this)).1
  rw [unl_0 (by decide)] at this
  rwa [show txAt cs i = cs[i] by simp [txAt, List.getD, hi]] at this
 have hc : cs ≠ [] := by rintro rfl; have := hb.1.1; simp at this
 have hd : (netT cs ls).data.toList = jnC 59 ((joinB cs ⟨#[44]⟩).data.toList :: ls.map fun l => (lnkW l).data.toList) := by
  unfold netT
  rw [joinB_one, ofL_data, List.map_cons, List.map_map]; rfl
 have hj : (joinB cs ⟨#[44]⟩).data.toList = jnC 44 (cs.map (·.data.toList)) := by rw [joinB_one, ofL_data]
 have hp : pcs 59 (netT cs ls).data.toList = (joinB cs ⟨#[44]⟩).data.toList :: ls.map fun l => (lnkW l).data.toList := by
  rw [hd]
  refine pcs_jn (by simp) fun p hp => ?_
  rcases List.mem_cons.1 hp with rfl | hp
  ·rw [hj]
   refine hasC_jn (by decide) fun q hq => ?_
   obtain ⟨t, ht, rfl⟩ := List.mem_map.1 hq
   exact name_no (hn t ht) (.inr rfl)
  ·obtain ⟨l, _, rfl⟩ := List.mem_map.1 hp
   unfold lnkW
   rw [words_data]
   refine hasC_jn (by decide) fun q hq => ?_
   obtain ⟨n, _, rfl⟩ := List.mem_map.1 hq
   exact itoa_no (by decide) (by decide) n
 have np : nPc 59 (netT cs ls) = ls.length + 1 := by unfold nPc; rw [hp]; simp
 have hm : nmsB (netT cs ls) = cs := by
  unfold nmsB
  rw [show wAt 59 (netT cs ls) 0 = (joinB cs ⟨#[44]⟩).data.toList by unfold wAt; rw [hp]; rfl, hj, pcs_jn (by simpa using hc) (fun p hp => by
   obtain ⟨t, ht, rfl⟩ := List.mem_map.1 hp
   exact name_no (hn t ht) (.inl rfl)), List.map_map]
  conv => rhs; rw [← List.map_id cs]
  exact List.map_congr_left fun t _ => ofL_back t
 have hq : ∀ i, i < ls.length → partB (netT cs ls) (i + 1) = lnkW (lnkAt ls i) := fun i hi => by
  unfold partB wAt
  rw [hp]
  simp only [List.getD_cons_succ]
  rw [show (ls.map fun l => (lnkW l).data.toList).getD i [] = (lnkW (lnkAt ls i)).data.toList by simp [lnkAt, List.getD, hi]]
  exact ofL_back _
 have hw : ∀ i, i < ls.length → okW (partB (netT cs ls) (i + 1)) 4 10 2 = true ∧ lkOf (partB (netT cs ls) (i + 1)) = lnkAt ls i := fun i hi => by
  rw [hq i hi]
  obtain ⟨⟨a1, a2⟩, ⟨b1, b2⟩, _, c1, c2, c3⟩ := lkE_ok (h3 i hi)
  have hbn := hb.1.2
  have q := words_back (l := [(lnkAt ls i).frm, (lnkAt ls i).«to», (lnkAt ls i).lo, (lnkAt ls i).hi]) (dg := 10) (sg := 2) (by simp) (by decide) (four (P := fun x => x.natAbs < 10 ^ 10) (by omega) (by omega) (by omega) (by omega)) fun j hj hj2 => by
   rcases (by omega : j = 0 ∨ j = 1) with rfl | rfl
   ·exact a1
   ·exact b1
  have v : valsW (lnkW (lnkAt ls i)) 10 4 = [(lnkAt ls i).frm, (lnkAt ls i).«to», (lnkAt ls i).lo, (lnkAt ls i).hi] := q.2
  refine ⟨q.1, ?_⟩
  unfold lkOf
  rw [v]; rfl
 have hk : lksK (netT cs ls) ls.length = ls := by
  refine List.ext_getElem lksK_len fun i h4 h5 => ?_
  have e : (lksK (netT cs ls) ls.length)[i] = lkOf (partB (netT cs ls) (i + 1)) := by simp [lksK]
  rw [e, (hw i h5).2]
  simp [lnkAt, List.getD, h5]
 have sy : synB (netT cs ls) = true := synB_yes fun i hi => (hw i (by omega)).1
 have e : pnE (netT cs ls) = 0 := by
  unfold pnE
  rw [if_neg (by omega), if_neg (by rw [sy]; simp), hm, np, Nat.add_sub_cancel, hk]
  exact h
 refine ⟨e, ?_, ?_⟩
 ·unfold pnC; rw [if_pos e, hm]
 ·unfold pnL; rw [if_pos e, np, Nat.add_sub_cancel, hk]
theorem pnC_len (s : ByteArray) (h : s.size ≤ 100000) : (pnC s).length ≤ 100000000 := by
 unfold pnC nmsB
 split
 ·rw [List.length_map, pcs_len]
  have := List.count_le_length (a := 44) (l := wAt 59 s 0)
  have := wAt_len (c := 59) (s := s) (i := 0)
  omega
 ·simp
theorem pnL_len (s : ByteArray) (h : s.size ≤ 100000) : (pnL s).length ≤ 100000000 := by
 unfold pnL
 split
 ·rw [lksK_len]
  have := nPc_le 59 s
  omega
 ·simp
theorem fwL_of {cs : List ByteArray} {ls : List Lnk} (h : fwL cs ls = true) : cs.length ≤ 8 ∧ ls.length ≤ 14 ∧ ∀ k, k < cs.length → (txAt cs k).size ≤ 20 := by
 unfold fwL at h
 rw [Bool.and_eq_true, Bool.and_eq_true, decide_eq_true_eq, decide_eq_true_eq, List.all_eq_true] at h
 refine ⟨by omega, by omega, fun k hk => ?_⟩
 have := h.2.2 (txAt cs k) (by simp [txAt, List.getD, hk])
 simpa using this
end Go.Proofs.YtlapeoboekchpaaGreatDoor
set_option linter.unusedVariables false
set_option linter.unusedSimpArgs false
namespace Go.Proofs.YtlapeoboekchpaaGreatDoor
open Go.RowKit Ev
def vc_law01_ClockStrings (p0 p1 p2 p3 : Int) (cs : List ByteArray) (ls : List Lnk) (tx : ByteArray) (post : DV → Prop) : Prop := (txP cs.length (txsC cs) ∧ numsP 4 ls.length (lnksC ls)) ∧ ((cond (!(fwL (txOf cs.length (txsC cs)) (listC ls.length mkLnk (lnksC ls)))) ((true = true) ∧ ((true = true) ∧ (True))) (cond (decide ((((tx : ByteArray).size : Nat) : Int) > (300 : Int))) (cond (decide ((((tx : ByteArray).size : Nat) : Int) ≤ (60000 : Int))) ((true = true) ∧ (True)) (True)) ((false = false) ∧ (True)))) ∧ (lt ((bif (!(fwL (txOf cs.length (txsC cs)) (listC ls.length mkLnk (lnksC ls)))) then true else (bif decide ((((tx : ByteArray).size : Nat) : Int) > (300 : Int)) then (bif decide ((((tx : ByteArray).size : Nat) : Int) ≤ (60000 : Int)) then true else decide ((((tx : ByteArray).size : Nat) : Int) > (60010 : Int))) else decide ((((tx : ByteArray).size : Nat) : Int) > (60010 : Int))))) fun x1 => cond x1 (post (.t (.c (.v (.bool true))))) ((inI p0 ∧ inI p1 ∧ inI p2 ∧ inI p3) ∧ ((txP cs.length (txsC cs) ∧ numsP 4 ls.length (lnksC ls) ∧ ((txOf cs.length (txsC cs))).length ≤ 1000 ∧ ((listC ls.length mkLnk (lnksC ls))).length ≤ 1000) ∧ ((txP ((txOf cs.length (txsC cs)).length) (txsC (txOf cs.length (txsC cs))) ∧ numsP 4 ((listC ls.length mkLnk (lnksC ls)).length) (lnksC (listC ls.length mkLnk (lnksC ls))) ∧ ((txOf ((txOf cs.length (txsC cs)).length) (txsC (txOf cs.length (txsC cs))))).length ≤ 8 ∧ ((listC ((listC ls.length mkLnk (lnksC ls)).length) mkLnk (lnksC (listC ls.length mkLnk (lnksC ls))))).length ≤ 14 ∧ (∀ k, k < ((txOf ((txOf cs.length (txsC cs)).length) (txsC (txOf cs.length (txsC cs))))).length → (txAt (txOf ((txOf cs.length (txsC cs)).length) (txsC (txOf cs.length (txsC cs)))) k).size ≤ 20) ∧ ∀ k, k < ((listC ((listC ls.length mkLnk (lnksC ls)).length) mkLnk (lnksC (listC ls.length mkLnk (lnksC ls))))).length → rgI (lnkAt (listC ((listC ls.length mkLnk (lnksC ls)).length) mkLnk (lnksC (listC ls.length mkLnk (lnksC ls)))) k)) ∧ (((tx).size ≤ 100000000) ∧ (((tx).size ≤ 100000000) ∧ ((inI p0 ∧ inI p1 ∧ inI p2 ∧ inI p3) ∧ ((cond (!(((wordsB [p0, p1, p2, p3]) : ByteArray).toList == ((wordsB [p0, p1, p2, p3]) : ByteArray).toList)) ((true = true) ∧ ((true = true) ∧ ((true = true) ∧ ((true = true) ∧ ((true = true) ∧ (True)))))) ((txP cs.length (txsC cs) ∧ numsP 4 ls.length (lnksC ls) ∧ ((txOf cs.length (txsC cs))).length ≤ 8 ∧ ((listC ls.length mkLnk (lnksC ls))).length ≤ 14 ∧ (∀ k, k < ((txOf cs.length (txsC cs))).length → (txAt (txOf cs.length (txsC cs)) k).size ≤ 20) ∧ ∀ k, k < ((listC ls.length mkLnk (lnksC ls))).length → rgI (lnkAt (listC ls.length mkLnk (lnksC ls)) k)) ∧ (cond (!(((netT (txOf ((txOf cs.length (txsC cs)).length) (txsC (txOf cs.length (txsC cs)))) (listC ((listC ls.length mkLnk (lnksC ls)).length) mkLnk (lnksC (listC ls.length mkLnk (lnksC ls))))) : ByteArray).toList == ((netT (txOf cs.length (txsC cs)) (listC ls.length mkLnk (lnksC ls))) : ByteArray).toList)) ((true = true) ∧ ((true = true) ∧ ((true = true) ∧ ((true = true) ∧ (True))))) (cond ((ppE tx) != (ppE tx)) ((true = true) ∧ ((true = true) ∧ ((true = true) ∧ (True)))) (cond (!(bif (((ppV tx).sent) == ((ppV tx).sent)) then (bif (((ppV tx).arr) == ((ppV tx).arr)) then (bif (((ppV tx).ans) == ((ppV tx).ans)) then (bif (((ppV tx).back) == ((ppV tx).back)) then true else false) else false) else false) else false)) ((true = true) ∧ ((true = true) ∧ (True))) (cond ((pnE tx) != (pnE tx)) ((true = true) ∧ (True)) ((txP ((pnC tx).length) (txsC (pnC tx)) ∧ numsP 4 ((pnL tx).length) (lnksC (pnL tx)) ∧ txP ((pnC tx).length) (txsC (pnC tx)) ∧ numsP 4 ((pnL tx).length) (lnksC (pnL tx)) ∧ ((txOf ((pnC tx).length) (txsC (pnC tx)))).length ≤ 100000000 ∧ ((listC ((pnL tx).length) mkLnk (lnksC (pnL tx)))).length ≤ 100000000) ∧ (True)))))))) ∧ (lt ((bif (!(((wordsB [p0, p1, p2, p3]) : ByteArray).toList == ((wordsB [p0, p1, p2, p3]) : ByteArray).toList)) then true else (bif (!(((netT (txOf ((txOf cs.length (txsC cs)).length) (txsC (txOf cs.length (txsC cs)))) (listC ((listC ls.length mkLnk (lnksC ls)).length) mkLnk (lnksC (listC ls.length mkLnk (lnksC ls))))) : ByteArray).toList == ((netT (txOf cs.length (txsC cs)) (listC ls.length mkLnk (lnksC ls))) : ByteArray).toList)) then true else (bif ((ppE tx) != (ppE tx)) then true else (bif (!(bif (((ppV tx).sent) == ((ppV tx).sent)) then (bif (((ppV tx).arr) == ((ppV tx).arr)) then (bif (((ppV tx).ans) == ((ppV tx).ans)) then (bif (((ppV tx).back) == ((ppV tx).back)) then true else false) else false) else false) else false)) then true else (bif ((pnE tx) != (pnE tx)) then true else (!(decide ((txOf ((pnC tx).length) (txsC (pnC tx))) = (txOf ((pnC tx).length) (txsC (pnC tx))) ∧ (listC ((pnL tx).length) mkLnk (lnksC (pnL tx))) = (listC ((pnL tx).length) mkLnk (lnksC (pnL tx)))))))))))) fun x2 => cond x2 (post (.t (.c (.v (.bool false))))) (cond ((pngE (⟨p0, p1, p2, p3⟩ : Png)) == (0 : Int)) ((((wordsB [p0, p1, p2, p3])).size ≤ 100000000) ∧ ((cond ((ppE (wordsB [p0, p1, p2, p3])) != (0 : Int)) ((true = true) ∧ (True)) (True)) ∧ (lt ((bif ((ppE (wordsB [p0, p1, p2, p3])) != (0 : Int)) then true else (!(bif (((ppV (wordsB [p0, p1, p2, p3])).sent) == p0) then (bif (((ppV (wordsB [p0, p1, p2, p3])).arr) == p1) then (bif (((ppV (wordsB [p0, p1, p2, p3])).ans) == p2) then (bif (((ppV (wordsB [p0, p1, p2, p3])).back) == p3) then true else false) else false) else false) else false)))) fun x3 => cond x3 (post (.t (.c (.v (.bool false))))) ((txP cs.length (txsC cs) ∧ numsP 4 ls.length (lnksC ls) ∧ (∀ k, k < ((txOf cs.length (txsC cs))).length → (txAt (txOf cs.length (txsC cs)) k).size ≤ 1000000)) ∧ (cond ((ntE (txOf cs.length (txsC cs)) (listC ls.length mkLnk (lnksC ls))) != (0 : Int)) (post (.t (.c (.v (.bool true))))) ((cond ((pnE (netT (txOf ((txOf cs.length (txsC cs)).length) (txsC (txOf cs.length (txsC cs)))) (listC ((listC ls.length mkLnk (lnksC ls)).length) mkLnk (lnksC (listC ls.length mkLnk (lnksC ls)))))) == (0 : Int)) ((txP ((pnC (netT (txOf ((txOf cs.length (txsC cs)).length) (txsC (txOf cs.length (txsC cs)))) (listC ((listC ls.length mkLnk (lnksC ls)).length) mkLnk (lnksC (listC ls.length mkLnk (lnksC ls)))))).length) (txsC (pnC (netT (txOf ((txOf cs.length (txsC cs)).length) (txsC (txOf cs.length (txsC cs)))) (listC ((listC ls.length mkLnk (lnksC ls)).length) mkLnk (lnksC (listC ls.length mkLnk (lnksC ls))))))) ∧ numsP 4 ((pnL (netT (txOf ((txOf cs.length (txsC cs)).length) (txsC (txOf cs.length (txsC cs)))) (listC ((listC ls.length mkLnk (lnksC ls)).length) mkLnk (lnksC (listC ls.length mkLnk (lnksC ls)))))).length) (lnksC (pnL (netT (txOf ((txOf cs.length (txsC cs)).length) (txsC (txOf cs.length (txsC cs)))) (listC ((listC ls.length mkLnk (lnksC ls)).length) mkLnk (lnksC (listC ls.length mkLnk (lnksC ls))))))) ∧ txP cs.length (txsC cs) ∧ numsP 4 ls.length (lnksC ls) ∧ ((txOf ((pnC (netT (txOf ((txOf cs.length (txsC cs)).length) (txsC (txOf cs.length (txsC cs)))) (listC ((listC ls.length mkLnk (lnksC ls)).length) mkLnk (lnksC (listC ls.length mkLnk (lnksC ls)))))).length) (txsC (pnC (netT (txOf ((txOf cs.length (txsC cs)).length) (txsC (txOf cs.length (txsC cs)))) (listC ((listC ls.length mkLnk (lnksC ls)).length) mkLnk (lnksC (listC ls.length mkLnk (lnksC ls))))))))).length ≤ 100000000 ∧ ((listC ((pnL (netT (txOf ((txOf cs.length (txsC cs)).length) (txsC (txOf cs.length (txsC cs)))) (listC ((listC ls.length mkLnk (lnksC ls)).length) mkLnk (lnksC (listC ls.length mkLnk (lnksC ls)))))).length) mkLnk (lnksC (pnL (netT (txOf ((txOf cs.length (txsC cs)).length) (txsC (txOf cs.length (txsC cs)))) (listC ((listC ls.length mkLnk (lnksC ls)).length) mkLnk (lnksC (listC ls.length mkLnk (lnksC ls))))))))).length ≤ 100000000) ∧ (True)) ((false = false) ∧ (True))) ∧ (lt ((bif ((pnE (netT (txOf ((txOf cs.length (txsC cs)).length) (txsC (txOf cs.length (txsC cs)))) (listC ((listC ls.length mkLnk (lnksC ls)).length) mkLnk (lnksC (listC ls.length mkLnk (lnksC ls)))))) == (0 : Int)) then decide ((txOf ((pnC (netT (txOf ((txOf cs.length (txsC cs)).length) (txsC (txOf cs.length (txsC cs)))) (listC ((listC ls.length mkLnk (lnksC ls)).length) mkLnk (lnksC (listC ls.length mkLnk (lnksC ls)))))).length) (txsC (pnC (netT (txOf ((txOf cs.length (txsC cs)).length) (txsC (txOf cs.length (txsC cs)))) (listC ((listC ls.length mkLnk (lnksC ls)).length) mkLnk (lnksC (listC ls.length mkLnk (lnksC ls)))))))) = (txOf cs.length (txsC cs)) ∧ (listC ((pnL (netT (txOf ((txOf cs.length (txsC cs)).length) (txsC (txOf cs.length (txsC cs)))) (listC ((listC ls.length mkLnk (lnksC ls)).length) mkLnk (lnksC (listC ls.length mkLnk (lnksC ls)))))).length) mkLnk (lnksC (pnL (netT (txOf ((txOf cs.length (txsC cs)).length) (txsC (txOf cs.length (txsC cs)))) (listC ((listC ls.length mkLnk (lnksC ls)).length) mkLnk (lnksC (listC ls.length mkLnk (lnksC ls)))))))) = (listC ls.length mkLnk (lnksC ls))) else false)) fun x4 => post (.t (.c (.v (.bool x4))))))))))) ((txP cs.length (txsC cs) ∧ numsP 4 ls.length (lnksC ls) ∧ (∀ k, k < ((txOf cs.length (txsC cs))).length → (txAt (txOf cs.length (txsC cs)) k).size ≤ 1000000)) ∧ (cond ((ntE (txOf cs.length (txsC cs)) (listC ls.length mkLnk (lnksC ls))) != (0 : Int)) (post (.t (.c (.v (.bool true))))) ((cond ((pnE (netT (txOf ((txOf cs.length (txsC cs)).length) (txsC (txOf cs.length (txsC cs)))) (listC ((listC ls.length mkLnk (lnksC ls)).length) mkLnk (lnksC (listC ls.length mkLnk (lnksC ls)))))) == (0 : Int)) ((txP ((pnC (netT (txOf ((txOf cs.length (txsC cs)).length) (txsC (txOf cs.length (txsC cs)))) (listC ((listC ls.length mkLnk (lnksC ls)).length) mkLnk (lnksC (listC ls.length mkLnk (lnksC ls)))))).length) (txsC (pnC (netT (txOf ((txOf cs.length (txsC cs)).length) (txsC (txOf cs.length (txsC cs)))) (listC ((listC ls.length mkLnk (lnksC ls)).length) mkLnk (lnksC (listC ls.length mkLnk (lnksC ls))))))) ∧ numsP 4 ((pnL (netT (txOf ((txOf cs.length (txsC cs)).length) (txsC (txOf cs.length (txsC cs)))) (listC ((listC ls.length mkLnk (lnksC ls)).length) mkLnk (lnksC (listC ls.length mkLnk (lnksC ls)))))).length) (lnksC (pnL (netT (txOf ((txOf cs.length (txsC cs)).length) (txsC (txOf cs.length (txsC cs)))) (listC ((listC ls.length mkLnk (lnksC ls)).length) mkLnk (lnksC (listC ls.length mkLnk (lnksC ls))))))) ∧ txP cs.length (txsC cs) ∧ numsP 4 ls.length (lnksC ls) ∧ ((txOf ((pnC (netT (txOf ((txOf cs.length (txsC cs)).length) (txsC (txOf cs.length (txsC cs)))) (listC ((listC ls.length mkLnk (lnksC ls)).length) mkLnk (lnksC (listC ls.length mkLnk (lnksC ls)))))).length) (txsC (pnC (netT (txOf ((txOf cs.length (txsC cs)).length) (txsC (txOf cs.length (txsC cs)))) (listC ((listC ls.length mkLnk (lnksC ls)).length) mkLnk (lnksC (listC ls.length mkLnk (lnksC ls))))))))).length ≤ 100000000 ∧ ((listC ((pnL (netT (txOf ((txOf cs.length (txsC cs)).length) (txsC (txOf cs.length (txsC cs)))) (listC ((listC ls.length mkLnk (lnksC ls)).length) mkLnk (lnksC (listC ls.length mkLnk (lnksC ls)))))).length) mkLnk (lnksC (pnL (netT (txOf ((txOf cs.length (txsC cs)).length) (txsC (txOf cs.length (txsC cs)))) (listC ((listC ls.length mkLnk (lnksC ls)).length) mkLnk (lnksC (listC ls.length mkLnk (lnksC ls))))))))).length ≤ 100000000) ∧ (True)) ((false = false) ∧ (True))) ∧ (lt ((bif ((pnE (netT (txOf ((txOf cs.length (txsC cs)).length) (txsC (txOf cs.length (txsC cs)))) (listC ((listC ls.length mkLnk (lnksC ls)).length) mkLnk (lnksC (listC ls.length mkLnk (lnksC ls)))))) == (0 : Int)) then decide ((txOf ((pnC (netT (txOf ((txOf cs.length (txsC cs)).length) (txsC (txOf cs.length (txsC cs)))) (listC ((listC ls.length mkLnk (lnksC ls)).length) mkLnk (lnksC (listC ls.length mkLnk (lnksC ls)))))).length) (txsC (pnC (netT (txOf ((txOf cs.length (txsC cs)).length) (txsC (txOf cs.length (txsC cs)))) (listC ((listC ls.length mkLnk (lnksC ls)).length) mkLnk (lnksC (listC ls.length mkLnk (lnksC ls)))))))) = (txOf cs.length (txsC cs)) ∧ (listC ((pnL (netT (txOf ((txOf cs.length (txsC cs)).length) (txsC (txOf cs.length (txsC cs)))) (listC ((listC ls.length mkLnk (lnksC ls)).length) mkLnk (lnksC (listC ls.length mkLnk (lnksC ls)))))).length) mkLnk (lnksC (pnL (netT (txOf ((txOf cs.length (txsC cs)).length) (txsC (txOf cs.length (txsC cs)))) (listC ((listC ls.length mkLnk (lnksC ls)).length) mkLnk (lnksC (listC ls.length mkLnk (lnksC ls)))))))) = (listC ls.length mkLnk (lnksC ls))) else false)) fun x5 => post (.t (.c (.v (.bool x5)))))))))))))))))))
def ann_law01_ClockStrings : Ann := ⟨fun r => lookA r [(5, ([[], [0], [], [0, 1, 2], [0, 1, 2, 3], [0, 1, 2, 3, 4], [0, 1, 2, 3, 4, 5]], [[42, 44, 45], [44, 45], [42, 44, 45], [45], [], [], []]))], fun _ => none, fun _ => [], Ilib, false, fun r => lookA r [(3, (4, [40])), (10, (5, [96])), (14, (3, [111])), (19, (3, [6]))], fun _ => none⟩
theorem ev_law01_ClockStrings (J : Inv) (p0 p1 p2 p3 : Int) (cs : List ByteArray) (ls : List Lnk) (tx : ByteArray) (post : DV → Prop) : evFn Tryz.prog tab Sy92 ann_law01_ClockStrings J Tryz.f3 [.t (.a [.v (.int .i64 p0), .v (.int .i64 p1), .v (.int .i64 p2), .v (.int .i64 p3)]), .t (.a [.sl 1 cs.length (txsC cs), .sl 4 ls.length (lnksC ls)]), .t (.c (.v (.string tx)))] post = vc_law01_ClockStrings p0 p1 p2 p3 cs ls tx post := by kernel_rfl
theorem fit_law01_ClockStrings : okFn ann_law01_ClockStrings Tryz.f3 = true := by kernel_rfl
theorem lp_law01_ClockStrings (J : Inv) (post : DV → Prop) : AllG J (loopsFn Tryz.prog tab Sy92 ann_law01_ClockStrings J Tryz.f3 post) = (True) := by kernel_rfl
set_option maxHeartbeats 8000000 in
set_option maxRecDepth 100000 in
theorem spec_law01_ClockStrings (p0 p1 p2 p3 : Int) (cs : List ByteArray) (ls : List Lnk) (tx : ByteArray) (hp : (inI p0 ∧ inI p1 ∧ inI p2 ∧ inI p3) ∧ (∀ k, k < ls.length → rgI (lnkAt ls k))) : vc_law01_ClockStrings p0 p1 p2 p3 cs ls tx (fun r => LeD r (.t (.c (.v (.bool true))))) := by
 unfold vc_law01_ClockStrings
 simp only [lnks_listC, txs_of, beq_self_eq_true, bne_self_eq_false, Bool.not_true, cond_false, cond_true, and_self, decide_true]
 refine ⟨⟨txP_txs _, numsP_lnks _⟩, cond_i (fun _ => trivial) (fun _ => cond_i (fun _ => cond_i (fun _ => trivial) (fun _ => trivial)) (fun _ => by simp)), lt_i fun x1 h1 => cond_i (fun _ => LeD.refl _) (fun g => ?_)⟩
 subst g
 have hf : fwL cs ls = true := by
  cases e : fwL cs ls with
  | true => rfl
  | false => rw [e] at h1; cases h1
 rw [hf] at h1
 have hz : tx.size ≤ 60010 := by
  rcases Nat.lt_or_ge 60010 tx.size with c | c
  ·rw [decide_eq_true (show ((tx.size : Nat) : Int) > 300 by omega), decide_eq_false (show ¬ ((tx.size : Nat) : Int) ≤ 60000 by omega), decide_eq_true (show ((tx.size : Nat) : Int) > 60010 by omega)] at h1
   cases h1
  ·exact c
 clear h1
 obtain ⟨f1, f2, f3⟩ := fwL_of hf
 obtain ⟨hpi, hpr⟩ := hp
 have z := netT_len f1 f2 f3 hpr
 have zw := wordsB_len (l := [p0, p1, p2, p3]) (in4 hpi.1 hpi.2.1 hpi.2.2.1 hpi.2.2.2)
 have zw : (wordsB [p0, p1, p2, p3]).size ≤ 84 := zw
 have PC := pnC_len tx (by omega)
 have PL := pnL_len tx (by omega)
 have PCb := pnC_len (netT cs ls) (by omega)
 have PLb := pnL_len (netT cs ls) (by omega)
 have fnp : cs.length ≤ 8 ∧ ls.length ≤ 14 ∧ (∀ k, k < cs.length → (txAt cs k).size ≤ 20) ∧ ∀ k, k < ls.length → rgI (lnkAt ls k) := ⟨f1, f2, f3, hpr⟩
 refine ⟨hpi, ⟨txP_txs _, numsP_lnks _, by omega, by omega⟩, ⟨txP_txs _, numsP_lnks _, fnp⟩, by omega, by omega, hpi, ⟨⟨txP_txs _, numsP_lnks _, fnp⟩, ⟨txP_txs _, numsP_lnks _, txP_txs _, numsP_lnks _, PC, PL⟩, trivial⟩, lt_i fun x2 h2 => ?_⟩
 subst h2
 have tail : ntE cs ls = 0 → pnE (netT cs ls) = 0 ∧ pnC (netT cs ls) = cs ∧ pnL (netT cs ls) = ls := fun h => net_back h (by omega)
 have ping : pngE ⟨p0, p1, p2, p3⟩ = 0 → ppE (wordsB [p0, p1, p2, p3]) = 0 ∧ ppV (wordsB [p0, p1, p2, p3]) = ⟨p0, p1, p2, p3⟩ := fun h => ping_back (p := ⟨p0, p1, p2, p3⟩) h
 simp only [cond_false]
 have T : ∀ {A : Prop}, ((ntE cs ls != 0) = false → A) → cond (ntE cs ls != 0) (LeD (.t (.c (.v (.bool true)))) (.t (.c (.v (.bool true))))) A := fun h => cond_i (fun _ => LeD.refl _) h
 have N : (ntE cs ls != 0) = false → ntE cs ls = 0 := fun h => by simpa using h
 refine cond_i (fun h => ⟨by omega, ?_, lt_i fun x3 h3 => ?_⟩) (fun h => ⟨⟨txP_txs _, numsP_lnks _, fun k hk => Nat.le_trans (f3 k hk) (by decide)⟩, T fun h => ?_⟩)
 ·exact cond_i (fun _ => by simp) (fun _ => trivial)
 ·obtain ⟨e1, e2⟩ := ping (by simpa using h)
  rw [e1, e2] at h3
  simp only [bne_self_eq_false, beq_self_eq_true, cond_true, cond_false, Bool.not_true] at h3
  subst h3
  refine ⟨⟨txP_txs _, numsP_lnks _, fun k hk => Nat.le_trans (f3 k hk) (by decide)⟩, T fun h => ?_⟩
  obtain ⟨e1, e2, e3⟩ := tail (N h)
  simp only [e1, e2, e3, lnks_listC, txs_of, beq_self_eq_true, cond_true, and_self, decide_true]
  exact ⟨⟨⟨txP_txs _, numsP_lnks _, txP_txs _, numsP_lnks _, by omega, by omega⟩, trivial⟩, lt_i fun x4 h4 => by rw [← h4]; exact LeD.refl _⟩
 ·obtain ⟨e1, e2, e3⟩ := tail (N h)
  simp only [e1, e2, e3, lnks_listC, txs_of, beq_self_eq_true, cond_true, and_self, decide_true]
  exact ⟨⟨⟨txP_txs _, numsP_lnks _, txP_txs _, numsP_lnks _, by omega, by omega⟩, trivial⟩, lt_i fun x4 h4 => by rw [← h4]; exact LeD.refl _⟩
theorem law_law01_ClockStrings (p0 p1 p2 p3 : Int) (cs : List ByteArray) (ls : List Lnk) (tx : ByteArray) (hp : (inI p0 ∧ inI p1 ∧ inI p2 ∧ inI p3) ∧ (∀ k, k < ls.length → rgI (lnkAt ls k))) (W : World) (N : Nat → Prop) (vs : List Value) (hG : Gd W) (h : All2 (RelD (RelF W N)) [.t (.a [.v (.int .i64 p0), .v (.int .i64 p1), .v (.int .i64 p2), .v (.int .i64 p3)]), .t (.a [.sl 1 cs.length (txsC cs), .sl 4 ls.length (lnksC ls)]), .t (.c (.v (.string tx)))] vs) : Calls Tryz.prog 3 vs.toArray W fun e w' => e = .returned (.bool true) ∧ Below W.heap.size W w' :=
 law_end (fn_sound mixed tabOK VSy92 (ann := ann_law01_ClockStrings) VIlib (fn := Tryz.f3) (J := fun _ _ _ => False) (by kernel_rfl) fit_law01_ClockStrings (args := [.t (.a [.v (.int .i64 p0), .v (.int .i64 p1), .v (.int .i64 p2), .v (.int .i64 p3)]), .t (.a [.sl 1 cs.length (txsC cs), .sl 4 ls.length (lnksC ls)]), .t (.c (.v (.string tx)))]) (post := (fun r => LeD r (.t (.c (.v (.bool true)))))) (by rw [ev_law01_ClockStrings]; exact spec_law01_ClockStrings p0 p1 p2 p3 cs ls tx hp) (by rw [lp_law01_ClockStrings]; trivial) (Nat.le_of_ble_eq_true (by kernel_rfl)) W N vs hG h)
end Go.Proofs.YtlapeoboekchpaaGreatDoor
set_option linter.unusedVariables false
namespace Go.Proofs.YtlapeoboekchpaaGreatDoor
open Go.RowKit Ev
theorem rg_of {d n : Nat} {c : Nat → Nat → CV} (f : ∀ i j, i < n → j < Tryz.prog.cellsOf 53 → ∃ κ, kindAt Tryz.prog 20 53 j = some κ ∧ okK Tryz.prog d κ (c i j)) : ∀ k, k < (listC n mkLnk c).length → rgI (lnkAt (listC n mkLnk c) k) := by
 intro k hk
 have hk : k < n := by simpa [listC] using hk
 have hs : Tryz.prog.cellsOf 53 = 4 := by kernel_rfl
 obtain ⟨x0, e0, a0, b0⟩ := open_i64 (by kernel_rfl) (f k 0 hk (by rw [hs]; decide))
 obtain ⟨x1, e1, a1, b1⟩ := open_i64 (by kernel_rfl) (f k 1 hk (by rw [hs]; decide))
 obtain ⟨x2, e2, a2, b2⟩ := open_i64 (by kernel_rfl) (f k 2 hk (by rw [hs]; decide))
 obtain ⟨x3, e3, a3, b3⟩ := open_i64 (by kernel_rfl) (f k 3 hk (by rw [hs]; decide))
 have e : lnkAt (listC n mkLnk c) k = ⟨x0, x1, x2, x3⟩ := by
  simp [lnkAt, listC, mkLnk, List.getD, hk, e0, e1, e2, e3, cvInt]
 rw [e]
 exact ⟨⟨a0, b0⟩, ⟨a1, b1⟩, ⟨a2, b2⟩, a3, b3⟩
end Go.Proofs.YtlapeoboekchpaaGreatDoor