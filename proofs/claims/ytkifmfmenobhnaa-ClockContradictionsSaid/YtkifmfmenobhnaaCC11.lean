/- Texts of this claim, together. -/
import Derived.Deep.Cut
import Derived.Deep.MidRow
import Derived.Deep.Upon
import Derived.Test.YtkifmfmenobhnaaCC10

set_option linter.unusedVariables false
set_option linter.unusedSimpArgs false
namespace Go.Proofs.Ytkifmfmenobhnaa
open Go.RowKit Ev
def free6 : Int := 1125899906842624
def M36 (B : Nat) (w : World) (f : Nat → Nat → Int) : Prop := w.rowIs B 117 36 (fun q => .int .i64 (f (q / 6) (q % 6)))
theorem M36.cell {B : Nat} {w : World} {f : Nat → Nat → Int} (h : M36 B w f) {i j : Nat} (hi : i < 6) (hj : j < 6) : w.cell? ⟨B, i * 6 + j, none⟩ = some (.int .i64 (f i j)) := by
 have := World.rowIs.cell h (i := i * 6 + j) (by omega)
 rw [this, show (i * 6 + j) / 6 = i by omega, show (i * 6 + j) % 6 = j by omega]
theorem M36.set {B : Nat} {w : World} {f : Nat → Nat → Int} (h : M36 B w f) {i j : Nat} (hi : i < 6) (hj : j < 6) (v : Int) : M36 B (w.setCell ⟨B, i * 6 + j, none⟩ (.int .i64 v)) (updI f i j v) := by
 refine (World.rowIs.set h (i * 6 + j) (.int .i64 v)).congr fun q hq => ?_
 unfold updI
 by_cases e : q = i * 6 + j
 ·rw [if_pos e, if_pos ⟨by omega, by omega⟩]
 ·rw [if_neg e, if_neg (fun g => e (by omega))]
theorem M36.congr {B : Nat} {w : World} {f g : Nat → Nat → Int} (h : M36 B w f) (e : ∀ i j, i < 6 → j < 6 → f i j = g i j) : M36 B w g := by
 refine World.rowIs.congr h fun q hq => ?_
 rw [e (q / 6) (q % 6) (by omega) (by omega)]
def cells36 (f : Nat → Nat → Int) : List Value := (List.range 36).map fun q => .int .i64 (f (q / 6) (q % 6))
theorem M36.range {B : Nat} {w : World} {f : Nat → Nat → Int} (h : M36 B w f) : w.rangeAt B 0 (cells36 f) := by
 intro j v hv
 unfold cells36 at hv
 rw [List.getElem?_map] at hv
 by_cases hj : j < 36
 ·rw [List.getElem?_range hj] at hv
  rw [Nat.zero_add, World.rowIs.cell h hj]
  simpa using hv
 ·rw [List.getElem?_eq_none (by simpa using hj)] at hv
  cases hv
theorem M36.there {B : Nat} {w : World} {f : Nat → Nat → Int} (h : M36 B w f) : w.there B 0 36 := fun j hj => by
 rw [Nat.zero_add, World.rowIs.cell h hj]
 exact ⟨rfl, World.rowIs.frozen h j⟩
theorem below_sets {B b : Nat} {a : World} (hb : B ≤ b) : ∀ (vs : List Value) (o : Nat) (w : World), Below B a w → Below B a (w.setCells b o vs)
 | [], o, w, h => h
 | v :: vs, o, w, h => by
  unfold World.setCells
  exact below_sets hb vs _ _ (h.setCell hb _)
def iniC (c i : Nat) (k : Nat) : Nat → Nat → Int := fun x y => if x < i ∧ y < c then (if x = y then 0 else free6) else if x = i ∧ y < k then free6 else 0
structure Cl (w wr : World) (v : Value) (f : Nat → Nat → Int) : Prop where
 m : M36 (w.heap.size + 1 + 1) wr f
 z : M36 (w.heap.size + 1) wr (fun _ _ => 0)
 s : wr.cell? ⟨w.heap.size, 1, none⟩ = some v
 b : Below w.heap.size w wr
theorem cell_oth {w : World} {B o b i : Nat} {v : Value} (h : b ≠ B) : (w.setCell ⟨B, o, none⟩ v).cell? ⟨b, i, none⟩ = w.cell? ⟨b, i, none⟩ := World.cell?_setCell_other w _ _ _ (fun e => h (by cases e; rfl))
theorem Cl.store {w wr : World} {v : Value} {f : Nat → Nat → Int} (h : Cl w wr v f) {i j : Nat} (hi : i < 6) (hj : j < 6) (x : Int) : Cl w (wr.setCell ⟨w.heap.size + 1 + 1, i * 6 + j, none⟩ (.int .i64 x)) v (updI f i j x) :=
 ⟨h.m.set hi hj x, World.rowIs.setOther h.z (by show w.heap.size + 1 ≠ w.heap.size + 1 + 1; omega) _, (cell_oth (by omega)).trans h.s, h.b.setCell (by show w.heap.size ≤ w.heap.size + 1 + 1; omega) _⟩
theorem Cl.drew {w wr : World} {v : Value} {f : Nat → Nat → Int} (h : Cl w wr v f) : Cl w wr.drew v f := ⟨World.rowIs.drew h.m, World.rowIs.drew h.z, h.s, h.b.drew⟩
theorem Cl.lt {w wr : World} {v : Value} {f : Nat → Nat → Int} (h : Cl w wr v f) : w.heap.size + 1 + 1 < wr.heap.size := World.rowIs.lt h.m
theorem Cl.keep {w wr w2 : World} {v : Value} {f : Nat → Nat → Int} (h : Cl w wr v f) (hb : Below wr.heap.size wr w2) : Cl w w2 v f := by
 have l := h.lt
 exact ⟨World.rowIs.of_block h.m (hb.block _ l), World.rowIs.of_block h.z (hb.block _ (by omega)), (World.cell?_of_block (w := wr) (a := ⟨w.heap.size, 1, none⟩) (hb.block w.heap.size (by omega))).trans h.s, h.b.trans (hb.mono (by omega))⟩
theorem Cl.congr {w wr : World} {v : Value} {f g : Nat → Nat → Int} (h : Cl w wr v f) (e : ∀ i j, i < 6 → j < 6 → f i j = g i j) : Cl w wr v g := ⟨h.m.congr e, h.z, h.s, h.b⟩
theorem Cl.old {w wr : World} {v : Value} {f : Nat → Nat → Int} (h : Cl w wr v f) {b o : Nat} (hb : b < w.heap.size) : wr.cell? ⟨b, o, none⟩ = w.cell? ⟨b, o, none⟩ := World.cell?_of_block (w := w) (a := ⟨b, o, none⟩) (h.b.block b hb)
theorem iniC_row (c a d x y : Nat) (hd : d < c) : updI (iniC c a d) a d free6 x y = iniC c a (d + 1) x y := by
 unfold updI iniC
 by_cases e : x = a ∧ y = d
 ·rw [if_pos e, if_neg (by omega), if_pos (by omega)]
 ·rw [if_neg e]
  by_cases e2 : x < a ∧ y < c
  ·rw [if_pos e2, if_pos e2]
  ·rw [if_neg e2, if_neg e2]
   by_cases e3 : x = a ∧ y < d
   ·rw [if_pos e3, if_pos (by omega)]
   ·rw [if_neg e3, if_neg (by omega)]
theorem iniC_next (c a x y : Nat) (ha : a < c) : updI (iniC c a c) a a 0 x y = iniC c (a + 1) 0 x y := by
 unfold updI iniC
 by_cases e : x = a ∧ y = a
 ·rw [if_pos e, if_pos (by omega), if_pos (by omega)]
 ·rw [if_neg e]
  by_cases e2 : x < a ∧ y < c
  ·have e4 : x < a + 1 ∧ y < c := by omega
   simp only [if_pos e2, if_pos e4]
  ·rw [if_neg e2]
   by_cases e3 : x = a ∧ y < c
   ·rw [if_pos e3, if_pos (by omega), if_neg (by omega)]
   ·rw [if_neg e3, if_neg (by omega), if_neg (by omega)]
theorem cl_F {w W : World} {v : Value} {f : Nat → Nat → Int} {p d : Nat} {xl xh n : Int} (h : Cl w W v f) (hp : p < 6) (hd : d < 6) (e : n = min (f p d) xh) : Cl w ((W.setCell ⟨w.heap.size + 1 + 1, p * 6 + d, none⟩ (.int .i64 n)).drew) v (lnkF f ⟨p, d, xl, xh⟩) := by
 have := (h.store hp hd n).drew
 rw [e] at this ⊢
 exact this
theorem cl_G {w W : World} {v : Value} {f : Nat → Nat → Int} {p d : Nat} {xl xh n : Int} (h : Cl w W v (lnkF f ⟨p, d, xl, xh⟩)) (hp : p < 6) (hd : d < 6) (e : n = min (lnkF f ⟨p, d, xl, xh⟩ d p) (-xl)) : Cl w ((W.setCell ⟨w.heap.size + 1 + 1, d * 6 + p, none⟩ (.int .i64 n)).drew) v (lnkG f ⟨p, d, xl, xh⟩) := by
 have := (h.store hd hp n).drew
 rw [e] at this ⊢
 exact this
def stepZ (z : Int) (f : Nat → Nat → Int) (k i j : Nat) : Nat → Nat → Int := if f i k < z ∧ f k j < z then updI f i j (min (f i j) (f i k + f k j)) else f
def jZ (z : Int) (f : Nat → Nat → Int) (k i : Nat) : Nat → Nat → Nat → Int
 | 0 => f
 | j + 1 => stepZ z (jZ z f k i j) k i j
def iZ (z : Int) (f : Nat → Nat → Int) (n k : Nat) : Nat → Nat → Nat → Int
 | 0 => f
 | i + 1 => jZ z (iZ z f n k i) k i n
def kZ (z : Int) (f : Nat → Nat → Int) (n : Nat) : Nat → Nat → Nat → Int
 | 0 => f
 | k + 1 => iZ z (kZ z f n k) n k n
def lowZ (z : Int) (f : Nat → Nat → Int) (n : Nat) : Prop := ∀ k i j x y, k < n → i < n → j ≤ n → x < n → y < n → -1000000000000000000 ≤ jZ z (iZ z (kZ z f n k) n k i) k i j x y
theorem cl_S {w W : World} {v : Value} {f : Nat → Nat → Int} {k i j : Nat} {n : Int} (h : Cl w W v f) (hi : i < 6) (hj : j < 6) (h1 : f i k < free6) (h2 : f k j < free6) (e : n = min (f i j) (f i k + f k j)) : Cl w (W.setCell ⟨w.heap.size + 1 + 1, i * 6 + j, none⟩ (.int .i64 n)) v (stepZ free6 f k i j) := by
 have := h.store hi hj n
 unfold stepZ
 rw [if_pos ⟨h1, h2⟩]
 rw [e] at this ⊢
 exact this
def lnkS (c : Nat) (l : List Lnk) (s : List Int) (k : Nat) : Nat → Nat → Int := (s.take k).foldl (fun f q => lnkG f (lnkAt l q.toNat)) (iniC c c 0)
theorem lnkS_succ {c : Nat} {l : List Lnk} {s : List Int} {k : Nat} (hk : k < s.length) : lnkS c l s (k + 1) = lnkG (lnkS c l s k) (lnkAt l (s.getD k 0).toNat) := by
 unfold lnkS
 rw [List.take_succ_eq_append_getElem hk, List.foldl_append]
 simp [List.getD, hk]
theorem results_cell_tmp {P : Program} {fn : Func} {t u : Tmp} {ty : TypeId} {ad : Addr} {v : Value} {w : World} (h : fn.results = #[.cell t ty, .tmp u]) (tmps : Array Value) (hp : tmps.getD t undef = .pointer (some ad)) (hl : (loadVar ty ad).run P w = .ok v w) :
  (results fn tmps).run P w = .ok (.tuple #[v, tmps.getD u undef]) w := by
 have hp2 : tmps[t]?.getD undef = .pointer (some ad) := by rw [← Array.getD_eq_getD_getElem?]; exact hp
 simp [results, h, hp2, asAddr, Sem.run_bind, hl]
theorem KeepA {G : List Nat} {W w : World} (g : KeepB G W w := by (repeat (with_reducible first | assumption | exact KeepB.refl (by first | (simp; done) | (simp; omega)) | refine KeepB.drew ?_ | refine KeepB.alloc ?_ _ | refine KeepB.setCell ?_ (by first | (simp; done) | (simp; omega)) | refine KeepB.below ?_ (by assumption)))) : KeepB G W w := g
set_option maxRecDepth 100000 in
set_option maxHeartbeats 2000000 in
theorem walk_Closed (w : World) (c : Nat) (hc : 1 ≤ c ∧ c ≤ 6) (aoC : Option Addr) (capC : Nat) (l : List Lnk) (ao : Option Addr) (cap : Nat) (s : List Int) (ao2 : Option Addr) (cap2 : Nat) (hl : l.length ≤ 1000) (hls : s.length ≤ 1000)
  (hs : ∀ k, k < s.length → 0 ≤ s.getD k 0 ∧ s.getD k 0 < l.length) (hok : ∀ k, k < l.length → (lnkAt l k).ok c)
  (hc3 : ∀ k, k < l.length → ∃ b off, ao = some ⟨b, off, none⟩ ∧ b < w.heap.size ∧ w.cell? ⟨b, off + k * 4, none⟩ = some (.int .i64 (lnkAt l k).frm) ∧ w.cell? ⟨b, off + k * 4 + 1, none⟩ = some (.int .i64 (lnkAt l k).to) ∧ w.cell? ⟨b, off + k * 4 + 2, none⟩ = some (.int .i64 (lnkAt l k).lo) ∧ w.cell? ⟨b, off + k * 4 + 3, none⟩ = some (.int .i64 (lnkAt l k).hi))
  (hlow : lowZ free6 (lnkS c l s s.length) c)
  (hc2 : ∀ k, k < s.length → ∃ b off, ao2 = some ⟨b, off, none⟩ ∧ b < w.heap.size ∧ w.cell? ⟨b, off + k, none⟩ = some (.int .i64 (s.getD k 0))) :
  Calls Try.prog 75 #[.agg #[.slice aoC c capC, .slice ao l.length cap], .slice ao2 s.length cap2] w fun e w' => Below w.heap.size w w' ∧ (((∃ i, i < c ∧ kZ free6 (lnkS c l s s.length) c c i i < 0) ∧ e = .returned (.tuple #[.agg (cells36 (kZ free6 (lnkS c l s s.length) c c)).toArray, .bool false])) ∨ ((∀ i, i < c → 0 ≤ kZ free6 (lnkS c l s s.length) c c i i) ∧ e = .returned (.tuple #[.agg (cells36 (kZ free6 (lnkS c l s s.length) c c)).toArray, .bool true]))) := by
 have H0 : ∀ zs : Array Value, zs = Array.replicate 36 (.int .i64 0) → Hid (Cl w (((w.alloc (.cells #[.slice aoC c capC, .slice ao l.length cap] 55)).alloc (.cells zs 117)).alloc (.cells zs 117)) (.slice ao l.length cap) (fun _ _ => 0)) := fun zs hz => hid (by
  subst hz
  refine ⟨⟨Array.replicate 36 (.int .i64 0), ?_, by simp, fun i hi => by simp [hi]⟩, ⟨Array.replicate 36 (.int .i64 0), ?_, by simp, fun i hi => by simp [hi]⟩, ?_, by exact BelowA⟩
  ·have := World.alloc_heap_new ((w.alloc (.cells #[.slice aoC c capC, .slice ao l.length cap] 55)).alloc (.cells (Array.replicate 36 (.int .i64 0)) 117)) (.cells (Array.replicate 36 (.int .i64 0)) 117)
   rwa [World.size_alloc, World.size_alloc] at this
  ·have := World.alloc_heap_new (w.alloc (.cells #[.slice aoC c capC, .slice ao l.length cap] 55)) (.cells (Array.replicate 36 (.int .i64 0)) 117)
   rw [World.size_alloc] at this
   exact (Below.heap_alloc _ _ _ (by simp)).trans this
  ·exact (World.cell?_of_block (w := w.alloc (.cells #[.slice aoC c capC, .slice ao l.length cap] 55)) (a := ⟨w.heap.size, 1, none⟩) ((Below.heap_alloc _ _ _ (by simp; omega)).trans (Below.heap_alloc _ _ _ (by simp)))).trans (by simp))
 have H0 := H0 _ rfl
 have H3 := hid hc3
 have H2 := hid hc2
 have HS := hid hs
 have HK := hid hok
 have HLW := hid hlow
 clear hlow
 clear hc3 hc2 hs hok
 go_enter Try.func75, Try.ntmps75
 go_wp2_with fail
 obtain ⟨W0, hW0⟩ : ∃ W0, W0 = (((w.alloc (.cells #[.slice aoC c capC, .slice ao l.length cap] 55)).alloc (.cells (Array.replicate 36 (.int .i64 0)) 117)).alloc (.cells (Array.replicate 36 (.int .i64 0)) 117)) := ⟨_, rfl⟩
 rw [← hW0] at H0
 rw [show (((w.alloc (.cells #[.slice aoC c capC, .slice ao l.length cap] 55)).alloc (.cells #[.int .i64 0, .int .i64 0, .int .i64 0, .int .i64 0, .int .i64 0, .int .i64 0, .int .i64 0, .int .i64 0, .int .i64 0, .int .i64 0, .int .i64 0, .int .i64 0, .int .i64 0, .int .i64 0, .int .i64 0, .int .i64 0, .int .i64 0, .int .i64 0, .int .i64 0, .int .i64 0, .int .i64 0, .int .i64 0, .int .i64 0, .int .i64 0, .int .i64 0, .int .i64 0, .int .i64 0, .int .i64 0, .int .i64 0, .int .i64 0, .int .i64 0, .int .i64 0, .int .i64 0, .int .i64 0, .int .i64 0, .int .i64 0] 117)).alloc (.cells #[.int .i64 0, .int .i64 0, .int .i64 0, .int .i64 0, .int .i64 0, .int .i64 0, .int .i64 0, .int .i64 0, .int .i64 0, .int .i64 0, .int .i64 0, .int .i64 0, .int .i64 0, .int .i64 0, .int .i64 0, .int .i64 0, .int .i64 0, .int .i64 0, .int .i64 0, .int .i64 0, .int .i64 0, .int .i64 0, .int .i64 0, .int .i64 0, .int .i64 0, .int .i64 0, .int .i64 0, .int .i64 0, .int .i64 0, .int .i64 0, .int .i64 0, .int .i64 0, .int .i64 0, .int .i64 0, .int .i64 0, .int .i64 0] 117)) = W0 from hW0.symm]
 clear hW0
 go_loopw [8] (fun i wr => ∃ a : Nat, a ≤ c ∧ i = .int .i64 a ∧ Cl w wr (.slice ao l.length cap) (iniC c a 0)) (fun i _ => c - (intOf i).toNat)
 case atStart => exact ⟨0, Nat.zero_le _, rfl, H0.out.congr fun i j hi hj => by unfold iniC; rw [if_neg (by omega), if_neg (by omega)]⟩
 case round =>
  clear H0
  obtain ⟨a, ha, rfl, hM⟩ := hrel
  by_cases hac : a < c
  ·have HM := hid hM
   clear hM
   go_wp2_with fail
   go_loopw [9] (fun i wi => ∃ d : Nat, d ≤ c ∧ i = .int .i64 d ∧ Cl w wi (.slice ao l.length cap) (iniC c a d)) (fun i _ => c - (intOf i).toNat)
   case atStart => exact ⟨0, Nat.zero_le _, rfl, HM.out⟩
   case round =>
    clear HM
    obtain ⟨d, hd, rfl, hM⟩ := hrel
    by_cases hdc : d < c
    ·have HM := hid hM
     have m1 := hM.m.cell (i := a) (j := d) (by omega) (by omega)
     have q1 := World.rowIs.frozen hM.m (a * 6 + d)
     have z1 := hM.lt
     clear hM
     go_wp2_with fail
     go_roundw
     case rel => exact ⟨d + 1, by omega, by go_num, (HM.out.store (i := a) (j := d) (by omega) (by omega) free6).congr fun x y hx hy => iniC_row c a d x y hdc⟩
     case measure => simp [intOf]; omega
    ·have e : d = c := by omega
     subst e
     have HM := hid hM
     have m1 := hM.m.cell (i := a) (j := a) (by omega) (by omega)
     have q1 := World.rowIs.frozen hM.m (a * 6 + a)
     have z1 := hM.lt
     clear hM
     go_wp2_with fail
     go_roundw
     case rel => exact ⟨a + 1, by omega, by go_num, (HM.out.store (i := a) (j := a) (by omega) (by omega) 0).congr fun x y hx hy => iniC_next d a x y hac⟩
     case measure => simp [intOf]; omega
  ·have e : a = c := by omega
   subst e
   have HM := hid hM
   clear hM
   go_wp2_with fail
   go_loopw [10] (fun i wr => ∃ k : Nat, k ≤ s.length ∧ i = .int .i64 k ∧ Cl w wr (.slice ao l.length cap) (lnkS a l s k)) (fun i _ => s.length - (intOf i).toNat)
   case atStart => exact ⟨0, Nat.zero_le _, rfl, HM.out⟩
   case round =>
    clear HM
    obtain ⟨k, hk, rfl, hM⟩ := hrel
    by_cases hlt : k < s.length
    ·obtain ⟨b2, off2, rfl, hb2, e2⟩ := H2.out k hlt
     obtain ⟨hq1, hq2⟩ := HS.out k hlt
     obtain ⟨q, hq⟩ : ∃ q : Nat, s.getD k 0 = q := ⟨(s.getD k 0).toNat, by omega⟩
     have ES := hid (lnkS_succ (c := a) (l := l) hlt)
     rw [hq] at e2 hq2 ES
     clear hq hq1
     have hq3 : q < l.length := by omega
     obtain ⟨b, off, rfl, hb0, c0, c1, c2, c3⟩ := H3.out q hq3
     rw [← Cl.old hM hb0] at c0 c1 c2 c3
     rw [← Cl.old hM hb2] at e2
     obtain ⟨⟨o1, o2⟩, ⟨o3, o4⟩, o5, o6, o7, o8⟩ := HK.out q hq3
     obtain ⟨x, hx⟩ : ∃ x, x = lnkAt l q := ⟨_, rfl⟩
     rw [Int.toNat_natCast, ← hx] at ES
     rw [← hx] at c0 c1 c2 c3 o1 o2 o3 o4 o5 o6 o7 o8
     clear hx
     obtain ⟨xa, xb, xl, xh⟩ := x
     simp only at c0 c1 c2 c3 o1 o2 o3 o4 o5 o6 o7 o8
     obtain ⟨p, rfl⟩ : ∃ p : Nat, xa = p := ⟨xa.toNat, by omega⟩
     obtain ⟨d, rfl⟩ : ∃ d : Nat, xb = d := ⟨xb.toNat, by omega⟩
     obtain ⟨f, hf⟩ : ∃ f, f = lnkS a l s k := ⟨_, rfl⟩
     rw [← hf] at hM ES
     clear hf
     have s0 := hM.s
     have z1 := hM.lt
     have z0 := hM.lt
     have hbs := hM.b.size
     have z2 : w.heap.size < wr.heap.size := by omega
     have z3 : b < wr.heap.size := by omega
     have z4 : b2 < wr.heap.size := by omega
     have HM := hid hM
     clear hM
     go_wp2_with fail
     refine wp_mixC (fun wc => Below (wr.heap.size) wr wc) 9 [.q [0, 1, 2, 3, 4, 5, 6, 7], .f [8]] [.f [9]] (by kernel_rfl) (by kernel_rfl) ((Below.refl _ _).drew) ?_
     intro Q' hQ'
     (rw [wpMixC]; simp only [pick, List.drop_succ_cons, List.drop_zero, List.head?_cons, Option.toList_some, List.cons_append, List.nil_append])
     (repeat (first | go_big_quiet_skip | (go_big_quiet_want; refine quiet_simple rfl ?_; go_big_quiet_op; go_big_quiet_on) | (go_big_quiet_want; refine quiet_cellB (ty := 3) rfl rfl (by kernel_rfl) (by assumption) (by first | omega | (simp; omega)) ?_; simp only [Act.put, List.setIfInBounds_toArray, List.set_cons_succ, List.set_cons_zero]; go_big_quiet_on) | (go_big_quiet_want; refine quiet_cellB (ty := 53) rfl rfl (by kernel_rfl) (by assumption) (by first | omega | (simp; omega)) ?_; simp only [Act.put, List.setIfInBounds_toArray, List.set_cons_succ, List.set_cons_zero]; go_big_quiet_on) | (go_big_quiet_want; refine quiet_agg4B (ty := 125) rfl rfl (by kernel_rfl) (by assumption) (by assumption) (by assumption) (by assumption) (by first | omega | (simp; omega)) ?_; simp only [Act.put, List.setIfInBounds_toArray, List.set_cons_succ, List.set_cons_zero]; go_big_quiet_on)))
     (try refine wpQuiet_nil ?_)
     (rw [wpMixC]; simp only [pick, List.drop_succ_cons, List.drop_zero, List.head?_cons, Option.toList_some, List.cons_append, List.nil_append])
     (rw [wpSteps]; go_wp2_with (fail); rw [contF]; refine ⟨?_, ?_⟩; (next => exact BelowA))
     (rw [wpSteps])
     (rw [wpMixC])
     (rw [wpMix]; simp only [pick, List.drop_succ_cons, List.drop_zero, List.head?_cons, Option.toList_some, List.cons_append, List.nil_append])
     (go_wp2_with (fail); rw [contF])
     (rw [wpMix])
     (refine hQ' _ _ ?_)
     obtain ⟨W1, hW1⟩ : ∃ W1, W1 = (wr.alloc (.cells #[.int .i64 p, .int .i64 d, .int .i64 xl, .int .i64 xh] 125)).drew := ⟨_, rfl⟩
     go_wp2_with fail
     rw [← hW1]
     have r0 : W1.cell? ⟨wr.heap.size, 0, none⟩ = some (.int .i64 p) := by rw [hW1]; simp
     have r1 : W1.cell? ⟨wr.heap.size, 1, none⟩ = some (.int .i64 d) := by rw [hW1]; simp
     have r2 : W1.cell? ⟨wr.heap.size, 2, none⟩ = some (.int .i64 xl) := by rw [hW1]; simp
     have r3 : W1.cell? ⟨wr.heap.size, 3, none⟩ = some (.int .i64 xh) := by rw [hW1]; simp
     have hsz : wr.heap.size < W1.heap.size := by rw [hW1]; simp
     have HM1 : Hid (Cl w W1 (.slice (some ⟨b, off, none⟩) l.length cap) f) := hid (by rw [hW1]; exact (HM.out.keep (by exact BelowA)).drew)
     clear hW1 HM c0 c1 c2 c3 e2 s0 z1 z2 z3 z4 hbs
     have hp6 : p < 6 := by omega
     have hd6 : d < 6 := by omega
     have m2 := HM1.out.m.cell hp6 hd6
     have q1 := World.rowIs.frozen HM1.out.m (p * 6 + d)
     have z1 := HM1.out.lt
     have hw : IntKind.i64.wrap (-xl) = -xl := wi (by omega)
     by_cases hmn : f p d ≤ xh
     ·have tok := trivial
      refine wp_mixC (KeepB [wr.heap.size] W1) 18 [.q [0, 1, 2, 3, 4, 5, 6, 7, 8, 9, 11, 12, 13, 15], .f [10, 14], .q [16], .f [17]] [] (by kernel_rfl) (by kernel_rfl) ((KeepB.refl (by first | (simp; done) | (simp; omega))).drew) ?_
      intro Q' hQ'
      (rw [wpMixC]; simp only [pick, List.drop_succ_cons, List.drop_zero, List.head?_cons, Option.toList_some, List.cons_append, List.nil_append])
      (repeat (first | go_big_quiet_skip | (go_big_quiet_want; refine quiet_simple rfl ?_; go_big_quiet_op; go_big_quiet_on) | (go_big_quiet_want; refine quiet_cellK (ty := 3) rfl rfl (by kernel_rfl) (by assumption) (by simp) ?_; simp only [Act.put, List.setIfInBounds_toArray, List.set_cons_succ, List.set_cons_zero]; go_big_quiet_on) | (go_big_quiet_want; refine quiet_min rfl rfl rfl (by first | assumption | rfl | omega) ?_; simp only [Act.put, List.setIfInBounds_toArray, List.set_cons_succ, List.set_cons_zero]; go_big_quiet_on)))
      (try refine wpQuiet_nil ?_)
      (rw [wpMixC]; simp only [pick, List.drop_succ_cons, List.drop_zero, List.head?_cons, Option.toList_some, List.cons_append, List.nil_append])
      (rw [wpSteps]; go_wp2_with (fail); rw [contF]; refine ⟨?_, ?_⟩; (next => exact KeepA))
      (rw [wpSteps]; go_wp2_with (fail); rw [contF]; refine ⟨?_, ?_⟩; (next => exact KeepA))
      (rw [wpSteps])
      (rw [wpMixC]; simp only [pick, List.drop_succ_cons, List.drop_zero, List.head?_cons, Option.toList_some, List.cons_append, List.nil_append])
      (repeat (first | go_big_quiet_skip | (go_big_quiet_want; refine quiet_simple rfl ?_; go_big_quiet_op; go_big_quiet_on) | (go_big_quiet_want; refine quiet_cellK (ty := 3) rfl rfl (by kernel_rfl) (by assumption) (by simp) ?_; simp only [Act.put, List.setIfInBounds_toArray, List.set_cons_succ, List.set_cons_zero]; go_big_quiet_on) | (go_big_quiet_want; refine quiet_min rfl rfl rfl (by first | assumption | rfl | omega) ?_; simp only [Act.put, List.setIfInBounds_toArray, List.set_cons_succ, List.set_cons_zero]; go_big_quiet_on)))
      (try refine wpQuiet_nil ?_)
      (rw [wpMixC]; simp only [pick, List.drop_succ_cons, List.drop_zero, List.head?_cons, Option.toList_some, List.cons_append, List.nil_append])
      (rw [wpSteps]; go_wp2_with (fail); rw [contF]; refine ⟨?_, ?_⟩; (next => exact KeepA))
      (rw [wpSteps])
      (rw [wpMixC])
      (rw [wpMix])
      (refine hQ' _ _ ?_)
      obtain ⟨W2, hW2⟩ : ∃ W2, W2 = (W1.setCell ⟨w.heap.size + 1 + 1, p * 6 + d, none⟩ (.int .i64 (f p d))).drew := ⟨_, rfl⟩
      go_wp2_with fail
      rw [← hW2]
      have HM2 : Hid (Cl w W2 (.slice (some ⟨b, off, none⟩) l.length cap) (lnkF f ⟨p, d, xl, xh⟩)) := hid (by rw [hW2]; exact cl_F HM1.out hp6 hd6 (by omega))
      have s0 : W2.cell? ⟨wr.heap.size, 0, none⟩ = some (.int .i64 p) := by rw [hW2]; exact (cell_ot (by omega)).trans r0
      have s1 : W2.cell? ⟨wr.heap.size, 1, none⟩ = some (.int .i64 d) := by rw [hW2]; exact (cell_ot (by omega)).trans r1
      have s2 : W2.cell? ⟨wr.heap.size, 2, none⟩ = some (.int .i64 xl) := by rw [hW2]; exact (cell_ot (by omega)).trans r2
      have hsz2 : wr.heap.size < W2.heap.size := by rw [hW2]; simpa using hsz
      clear hW2 r0 r1 r2 r3 hsz m2 q1 z1
      have m4 := HM2.out.m.cell hd6 hp6
      have q2 := World.rowIs.frozen HM2.out.m (d * 6 + p)
      have z3 := HM2.out.lt
      obtain ⟨y, hy⟩ : ∃ y, y = lnkF f ⟨p, d, xl, xh⟩ d p := ⟨_, rfl⟩
      rw [← hy] at m4
      have HY := hid hy
      clear hy
      by_cases hmn2 : y ≤ -xl
      ·have tok2 := trivial
       refine wp_mixC (KeepB [wr.heap.size] W2) 19 [.q [0, 1, 2, 3, 4, 5, 6, 7, 8, 9, 11, 12, 13, 14, 16], .f [10, 15], .q [17], .f [18]] [] (by kernel_rfl) (by kernel_rfl) ((KeepB.refl (by first | (simp; done) | (simp; omega))).drew) ?_
       intro Q' hQ'
       (rw [wpMixC]; simp only [pick, List.drop_succ_cons, List.drop_zero, List.head?_cons, Option.toList_some, List.cons_append, List.nil_append])
       (repeat (first | go_big_quiet_skip | (go_big_quiet_want; refine quiet_simple rfl ?_; go_big_quiet_op; go_big_quiet_on) | (go_big_quiet_want; refine quiet_cellK (ty := 3) rfl rfl (by kernel_rfl) (by assumption) (by simp) ?_; simp only [Act.put, List.setIfInBounds_toArray, List.set_cons_succ, List.set_cons_zero]; go_big_quiet_on) | (go_big_quiet_want; refine quiet_min rfl rfl rfl (by first | assumption | rfl | omega) ?_; simp only [Act.put, List.setIfInBounds_toArray, List.set_cons_succ, List.set_cons_zero]; go_big_quiet_on)))
       (try refine wpQuiet_nil ?_)
       (rw [wpMixC]; simp only [pick, List.drop_succ_cons, List.drop_zero, List.head?_cons, Option.toList_some, List.cons_append, List.nil_append])
       (rw [wpSteps]; go_wp2_with (fail); rw [contF]; refine ⟨?_, ?_⟩; (next => exact KeepA))
       (rw [wpSteps]; go_wp2_with (fail); rw [contF]; refine ⟨?_, ?_⟩; (next => exact KeepA))
       (rw [wpSteps])
       (rw [wpMixC]; simp only [pick, List.drop_succ_cons, List.drop_zero, List.head?_cons, Option.toList_some, List.cons_append, List.nil_append])
       (repeat (first | go_big_quiet_skip | (go_big_quiet_want; refine quiet_simple rfl ?_; go_big_quiet_op; go_big_quiet_on) | (go_big_quiet_want; refine quiet_cellK (ty := 3) rfl rfl (by kernel_rfl) (by assumption) (by simp) ?_; simp only [Act.put, List.setIfInBounds_toArray, List.set_cons_succ, List.set_cons_zero]; go_big_quiet_on) | (go_big_quiet_want; refine quiet_min rfl rfl rfl (by first | assumption | rfl | omega) ?_; simp only [Act.put, List.setIfInBounds_toArray, List.set_cons_succ, List.set_cons_zero]; go_big_quiet_on)))
       (try refine wpQuiet_nil ?_)
       (rw [wpMixC]; simp only [pick, List.drop_succ_cons, List.drop_zero, List.head?_cons, Option.toList_some, List.cons_append, List.nil_append])
       (rw [wpSteps]; go_wp2_with (fail); rw [contF]; refine ⟨?_, ?_⟩; (next => exact KeepA))
       (rw [wpSteps])
       (rw [wpMixC])
       (rw [wpMix])
       (refine hQ' _ _ ?_)
       obtain ⟨W3, hW3⟩ : ∃ W3, W3 = (W2.setCell ⟨w.heap.size + 1 + 1, d * 6 + p, none⟩ (.int .i64 (y))).drew := ⟨_, rfl⟩
       have HM3 : Hid (Cl w W3 (.slice (some ⟨b, off, none⟩) l.length cap) (lnkG f ⟨p, d, xl, xh⟩)) := hid (by rw [hW3]; exact cl_G HM2.out hp6 hd6 (by rw [← HY.out]; omega))
       (try go_wp2_with fail)
       go_roundw
       case rel => exact ⟨k + 1, by omega, by go_num, by rw [ES.out]; have t := HM3.out; rw [hW3] at t; exact t⟩
       case measure => simp [intOf]; omega
      ·have tok2 := trivial
       refine wp_mixC (KeepB [wr.heap.size] W2) 19 [.q [0, 1, 2, 3, 4, 5, 6, 7, 8, 9, 11, 12, 13, 14, 16], .f [10, 15], .q [17], .f [18]] [] (by kernel_rfl) (by kernel_rfl) ((KeepB.refl (by first | (simp; done) | (simp; omega))).drew) ?_
       intro Q' hQ'
       (rw [wpMixC]; simp only [pick, List.drop_succ_cons, List.drop_zero, List.head?_cons, Option.toList_some, List.cons_append, List.nil_append])
       (repeat (first | go_big_quiet_skip | (go_big_quiet_want; refine quiet_simple rfl ?_; go_big_quiet_op; go_big_quiet_on) | (go_big_quiet_want; refine quiet_cellK (ty := 3) rfl rfl (by kernel_rfl) (by assumption) (by simp) ?_; simp only [Act.put, List.setIfInBounds_toArray, List.set_cons_succ, List.set_cons_zero]; go_big_quiet_on) | (go_big_quiet_want; refine quiet_min rfl rfl rfl (by first | assumption | rfl | omega) ?_; simp only [Act.put, List.setIfInBounds_toArray, List.set_cons_succ, List.set_cons_zero]; go_big_quiet_on)))
       (try refine wpQuiet_nil ?_)
       (rw [wpMixC]; simp only [pick, List.drop_succ_cons, List.drop_zero, List.head?_cons, Option.toList_some, List.cons_append, List.nil_append])
       (rw [wpSteps]; go_wp2_with (fail); rw [contF]; refine ⟨?_, ?_⟩; (next => exact KeepA))
       (rw [wpSteps]; go_wp2_with (fail); rw [contF]; refine ⟨?_, ?_⟩; (next => exact KeepA))
       (rw [wpSteps])
       (rw [wpMixC]; simp only [pick, List.drop_succ_cons, List.drop_zero, List.head?_cons, Option.toList_some, List.cons_append, List.nil_append])
       (repeat (first | go_big_quiet_skip | (go_big_quiet_want; refine quiet_simple rfl ?_; go_big_quiet_op; go_big_quiet_on) | (go_big_quiet_want; refine quiet_cellK (ty := 3) rfl rfl (by kernel_rfl) (by assumption) (by simp) ?_; simp only [Act.put, List.setIfInBounds_toArray, List.set_cons_succ, List.set_cons_zero]; go_big_quiet_on) | (go_big_quiet_want; refine quiet_min rfl rfl rfl (by first | assumption | rfl | omega) ?_; simp only [Act.put, List.setIfInBounds_toArray, List.set_cons_succ, List.set_cons_zero]; go_big_quiet_on)))
       (try refine wpQuiet_nil ?_)
       (rw [wpMixC]; simp only [pick, List.drop_succ_cons, List.drop_zero, List.head?_cons, Option.toList_some, List.cons_append, List.nil_append])
       (rw [wpSteps]; go_wp2_with (fail); rw [contF]; refine ⟨?_, ?_⟩; (next => exact KeepA))
       (rw [wpSteps])
       (rw [wpMixC])
       (rw [wpMix])
       (refine hQ' _ _ ?_)
       obtain ⟨W3, hW3⟩ : ∃ W3, W3 = (W2.setCell ⟨w.heap.size + 1 + 1, d * 6 + p, none⟩ (.int .i64 (-xl))).drew := ⟨_, rfl⟩
       have HM3 : Hid (Cl w W3 (.slice (some ⟨b, off, none⟩) l.length cap) (lnkG f ⟨p, d, xl, xh⟩)) := hid (by rw [hW3]; exact cl_G HM2.out hp6 hd6 (by rw [← HY.out]; omega))
       (try go_wp2_with fail)
       go_roundw
       case rel => exact ⟨k + 1, by omega, by go_num, by rw [ES.out]; have t := HM3.out; rw [hW3] at t; exact t⟩
       case measure => simp [intOf]; omega
     ·have tok := trivial
      refine wp_mixC (KeepB [wr.heap.size] W1) 18 [.q [0, 1, 2, 3, 4, 5, 6, 7, 8, 9, 11, 12, 13, 15], .f [10, 14], .q [16], .f [17]] [] (by kernel_rfl) (by kernel_rfl) ((KeepB.refl (by first | (simp; done) | (simp; omega))).drew) ?_
      intro Q' hQ'
      (rw [wpMixC]; simp only [pick, List.drop_succ_cons, List.drop_zero, List.head?_cons, Option.toList_some, List.cons_append, List.nil_append])
      (repeat (first | go_big_quiet_skip | (go_big_quiet_want; refine quiet_simple rfl ?_; go_big_quiet_op; go_big_quiet_on) | (go_big_quiet_want; refine quiet_cellK (ty := 3) rfl rfl (by kernel_rfl) (by assumption) (by simp) ?_; simp only [Act.put, List.setIfInBounds_toArray, List.set_cons_succ, List.set_cons_zero]; go_big_quiet_on) | (go_big_quiet_want; refine quiet_min rfl rfl rfl (by first | assumption | rfl | omega) ?_; simp only [Act.put, List.setIfInBounds_toArray, List.set_cons_succ, List.set_cons_zero]; go_big_quiet_on)))
      (try refine wpQuiet_nil ?_)
      (rw [wpMixC]; simp only [pick, List.drop_succ_cons, List.drop_zero, List.head?_cons, Option.toList_some, List.cons_append, List.nil_append])
      (rw [wpSteps]; go_wp2_with (fail); rw [contF]; refine ⟨?_, ?_⟩; (next => exact KeepA))
      (rw [wpSteps]; go_wp2_with (fail); rw [contF]; refine ⟨?_, ?_⟩; (next => exact KeepA))
      (rw [wpSteps])
      (rw [wpMixC]; simp only [pick, List.drop_succ_cons, List.drop_zero, List.head?_cons, Option.toList_some, List.cons_append, List.nil_append])
      (repeat (first | go_big_quiet_skip | (go_big_quiet_want; refine quiet_simple rfl ?_; go_big_quiet_op; go_big_quiet_on) | (go_big_quiet_want; refine quiet_cellK (ty := 3) rfl rfl (by kernel_rfl) (by assumption) (by simp) ?_; simp only [Act.put, List.setIfInBounds_toArray, List.set_cons_succ, List.set_cons_zero]; go_big_quiet_on) | (go_big_quiet_want; refine quiet_min rfl rfl rfl (by first | assumption | rfl | omega) ?_; simp only [Act.put, List.setIfInBounds_toArray, List.set_cons_succ, List.set_cons_zero]; go_big_quiet_on)))
      (try refine wpQuiet_nil ?_)
      (rw [wpMixC]; simp only [pick, List.drop_succ_cons, List.drop_zero, List.head?_cons, Option.toList_some, List.cons_append, List.nil_append])
      (rw [wpSteps]; go_wp2_with (fail); rw [contF]; refine ⟨?_, ?_⟩; (next => exact KeepA))
      (rw [wpSteps])
      (rw [wpMixC])
      (rw [wpMix])
      (refine hQ' _ _ ?_)
      obtain ⟨W2, hW2⟩ : ∃ W2, W2 = (W1.setCell ⟨w.heap.size + 1 + 1, p * 6 + d, none⟩ (.int .i64 (xh))).drew := ⟨_, rfl⟩
      go_wp2_with fail
      rw [← hW2]
      have HM2 : Hid (Cl w W2 (.slice (some ⟨b, off, none⟩) l.length cap) (lnkF f ⟨p, d, xl, xh⟩)) := hid (by rw [hW2]; exact cl_F HM1.out hp6 hd6 (by omega))
      have s0 : W2.cell? ⟨wr.heap.size, 0, none⟩ = some (.int .i64 p) := by rw [hW2]; exact (cell_ot (by omega)).trans r0
      have s1 : W2.cell? ⟨wr.heap.size, 1, none⟩ = some (.int .i64 d) := by rw [hW2]; exact (cell_ot (by omega)).trans r1
      have s2 : W2.cell? ⟨wr.heap.size, 2, none⟩ = some (.int .i64 xl) := by rw [hW2]; exact (cell_ot (by omega)).trans r2
      have hsz2 : wr.heap.size < W2.heap.size := by rw [hW2]; simpa using hsz
      clear hW2 r0 r1 r2 r3 hsz m2 q1 z1
      have m4 := HM2.out.m.cell hd6 hp6
      have q2 := World.rowIs.frozen HM2.out.m (d * 6 + p)
      have z3 := HM2.out.lt
      obtain ⟨y, hy⟩ : ∃ y, y = lnkF f ⟨p, d, xl, xh⟩ d p := ⟨_, rfl⟩
      rw [← hy] at m4
      have HY := hid hy
      clear hy
      by_cases hmn2 : y ≤ -xl
      ·have tok2 := trivial
       refine wp_mixC (KeepB [wr.heap.size] W2) 19 [.q [0, 1, 2, 3, 4, 5, 6, 7, 8, 9, 11, 12, 13, 14, 16], .f [10, 15], .q [17], .f [18]] [] (by kernel_rfl) (by kernel_rfl) ((KeepB.refl (by first | (simp; done) | (simp; omega))).drew) ?_
       intro Q' hQ'
       (rw [wpMixC]; simp only [pick, List.drop_succ_cons, List.drop_zero, List.head?_cons, Option.toList_some, List.cons_append, List.nil_append])
       (repeat (first | go_big_quiet_skip | (go_big_quiet_want; refine quiet_simple rfl ?_; go_big_quiet_op; go_big_quiet_on) | (go_big_quiet_want; refine quiet_cellK (ty := 3) rfl rfl (by kernel_rfl) (by assumption) (by simp) ?_; simp only [Act.put, List.setIfInBounds_toArray, List.set_cons_succ, List.set_cons_zero]; go_big_quiet_on) | (go_big_quiet_want; refine quiet_min rfl rfl rfl (by first | assumption | rfl | omega) ?_; simp only [Act.put, List.setIfInBounds_toArray, List.set_cons_succ, List.set_cons_zero]; go_big_quiet_on)))
       (try refine wpQuiet_nil ?_)
       (rw [wpMixC]; simp only [pick, List.drop_succ_cons, List.drop_zero, List.head?_cons, Option.toList_some, List.cons_append, List.nil_append])
       (rw [wpSteps]; go_wp2_with (fail); rw [contF]; refine ⟨?_, ?_⟩; (next => exact KeepA))
       (rw [wpSteps]; go_wp2_with (fail); rw [contF]; refine ⟨?_, ?_⟩; (next => exact KeepA))
       (rw [wpSteps])
       (rw [wpMixC]; simp only [pick, List.drop_succ_cons, List.drop_zero, List.head?_cons, Option.toList_some, List.cons_append, List.nil_append])
       (repeat (first | go_big_quiet_skip | (go_big_quiet_want; refine quiet_simple rfl ?_; go_big_quiet_op; go_big_quiet_on) | (go_big_quiet_want; refine quiet_cellK (ty := 3) rfl rfl (by kernel_rfl) (by assumption) (by simp) ?_; simp only [Act.put, List.setIfInBounds_toArray, List.set_cons_succ, List.set_cons_zero]; go_big_quiet_on) | (go_big_quiet_want; refine quiet_min rfl rfl rfl (by first | assumption | rfl | omega) ?_; simp only [Act.put, List.setIfInBounds_toArray, List.set_cons_succ, List.set_cons_zero]; go_big_quiet_on)))
       (try refine wpQuiet_nil ?_)
       (rw [wpMixC]; simp only [pick, List.drop_succ_cons, List.drop_zero, List.head?_cons, Option.toList_some, List.cons_append, List.nil_append])
       (rw [wpSteps]; go_wp2_with (fail); rw [contF]; refine ⟨?_, ?_⟩; (next => exact KeepA))
       (rw [wpSteps])
       (rw [wpMixC])
       (rw [wpMix])
       (refine hQ' _ _ ?_)
       obtain ⟨W3, hW3⟩ : ∃ W3, W3 = (W2.setCell ⟨w.heap.size + 1 + 1, d * 6 + p, none⟩ (.int .i64 (y))).drew := ⟨_, rfl⟩
       have HM3 : Hid (Cl w W3 (.slice (some ⟨b, off, none⟩) l.length cap) (lnkG f ⟨p, d, xl, xh⟩)) := hid (by rw [hW3]; exact cl_G HM2.out hp6 hd6 (by rw [← HY.out]; omega))
       (try go_wp2_with fail)
       go_roundw
       case rel => exact ⟨k + 1, by omega, by go_num, by rw [ES.out]; have t := HM3.out; rw [hW3] at t; exact t⟩
       case measure => simp [intOf]; omega
      ·have tok2 := trivial
       refine wp_mixC (KeepB [wr.heap.size] W2) 19 [.q [0, 1, 2, 3, 4, 5, 6, 7, 8, 9, 11, 12, 13, 14, 16], .f [10, 15], .q [17], .f [18]] [] (by kernel_rfl) (by kernel_rfl) ((KeepB.refl (by first | (simp; done) | (simp; omega))).drew) ?_
       intro Q' hQ'
       (rw [wpMixC]; simp only [pick, List.drop_succ_cons, List.drop_zero, List.head?_cons, Option.toList_some, List.cons_append, List.nil_append])
       (repeat (first | go_big_quiet_skip | (go_big_quiet_want; refine quiet_simple rfl ?_; go_big_quiet_op; go_big_quiet_on) | (go_big_quiet_want; refine quiet_cellK (ty := 3) rfl rfl (by kernel_rfl) (by assumption) (by simp) ?_; simp only [Act.put, List.setIfInBounds_toArray, List.set_cons_succ, List.set_cons_zero]; go_big_quiet_on) | (go_big_quiet_want; refine quiet_min rfl rfl rfl (by first | assumption | rfl | omega) ?_; simp only [Act.put, List.setIfInBounds_toArray, List.set_cons_succ, List.set_cons_zero]; go_big_quiet_on)))
       (try refine wpQuiet_nil ?_)
       (rw [wpMixC]; simp only [pick, List.drop_succ_cons, List.drop_zero, List.head?_cons, Option.toList_some, List.cons_append, List.nil_append])
       (rw [wpSteps]; go_wp2_with (fail); rw [contF]; refine ⟨?_, ?_⟩; (next => exact KeepA))
       (rw [wpSteps]; go_wp2_with (fail); rw [contF]; refine ⟨?_, ?_⟩; (next => exact KeepA))
       (rw [wpSteps])
       (rw [wpMixC]; simp only [pick, List.drop_succ_cons, List.drop_zero, List.head?_cons, Option.toList_some, List.cons_append, List.nil_append])
       (repeat (first | go_big_quiet_skip | (go_big_quiet_want; refine quiet_simple rfl ?_; go_big_quiet_op; go_big_quiet_on) | (go_big_quiet_want; refine quiet_cellK (ty := 3) rfl rfl (by kernel_rfl) (by assumption) (by simp) ?_; simp only [Act.put, List.setIfInBounds_toArray, List.set_cons_succ, List.set_cons_zero]; go_big_quiet_on) | (go_big_quiet_want; refine quiet_min rfl rfl rfl (by first | assumption | rfl | omega) ?_; simp only [Act.put, List.setIfInBounds_toArray, List.set_cons_succ, List.set_cons_zero]; go_big_quiet_on)))
       (try refine wpQuiet_nil ?_)
       (rw [wpMixC]; simp only [pick, List.drop_succ_cons, List.drop_zero, List.head?_cons, Option.toList_some, List.cons_append, List.nil_append])
       (rw [wpSteps]; go_wp2_with (fail); rw [contF]; refine ⟨?_, ?_⟩; (next => exact KeepA))
       (rw [wpSteps])
       (rw [wpMixC])
       (rw [wpMix])
       (refine hQ' _ _ ?_)
       obtain ⟨W3, hW3⟩ : ∃ W3, W3 = (W2.setCell ⟨w.heap.size + 1 + 1, d * 6 + p, none⟩ (.int .i64 (-xl))).drew := ⟨_, rfl⟩
       have HM3 : Hid (Cl w W3 (.slice (some ⟨b, off, none⟩) l.length cap) (lnkG f ⟨p, d, xl, xh⟩)) := hid (by rw [hW3]; exact cl_G HM2.out hp6 hd6 (by rw [← HY.out]; omega))
       (try go_wp2_with fail)
       go_roundw
       case rel => exact ⟨k + 1, by omega, by go_num, by rw [ES.out]; have t := HM3.out; rw [hW3] at t; exact t⟩
       case measure => simp [intOf]; omega
    ·have e : k = s.length := by omega
     subst e
     obtain ⟨f0, hf0⟩ : ∃ f0, f0 = lnkS a l s s.length := ⟨_, rfl⟩
     rw [← hf0] at hM HLW
     have HF0 := hid hf0
     clear hf0 H3 H2 HS HK hlt hk
     have HM := hid hM
     clear hM
     go_wp2_with fail
     go_loopw [12] (fun i wi => ∃ k : Nat, k ≤ a ∧ i = .int .i64 k ∧ Cl w wi (.slice ao l.length cap) (kZ free6 f0 a k)) (fun i _ => a - (intOf i).toNat)
     case atStart => exact ⟨0, Nat.zero_le _, rfl, HM.out⟩
     case round =>
      clear HM
      obtain ⟨k, hk, rfl, hM⟩ := hrel
      by_cases hka : k < a
      ·have HM := hid hM
       clear hM
       go_wp2_with fail
       go_loopw [13] (fun i wi => ∃ p : Nat, p ≤ a ∧ i = .int .i64 p ∧ Cl w wi (.slice ao l.length cap) (iZ free6 (kZ free6 f0 a k) a k p)) (fun i _ => a - (intOf i).toNat)
       case atStart => exact ⟨0, Nat.zero_le _, rfl, HM.out⟩
       case round =>
        clear HM
        obtain ⟨p, hp, rfl, hM⟩ := hrel
        by_cases hpa : p < a
        ·have HM := hid hM
         clear hM
         go_wp2_with fail
         go_loopw [14] (fun i wi => ∃ d : Nat, d ≤ a ∧ i = .int .i64 d ∧ Cl w wi (.slice ao l.length cap) (jZ free6 (iZ free6 (kZ free6 f0 a k) a k p) k p d)) (fun i _ => a - (intOf i).toNat)
         case atStart => exact ⟨0, Nat.zero_le _, rfl, HM.out⟩
         case round =>
          clear HM
          obtain ⟨d, hd, rfl, hM⟩ := hrel
          by_cases hda : d < a
          ·have L1 := HLW.out k p d p k hka hpa hd hpa hka
           have L2 := HLW.out k p d k d hka hpa hd hka hda
           have ES : Hid (jZ free6 (iZ free6 (kZ free6 f0 a k) a k p) k p (d + 1) = stepZ free6 (jZ free6 (iZ free6 (kZ free6 f0 a k) a k p) k p d) k p d) := hid rfl
           obtain ⟨f, hf⟩ : ∃ f, f = jZ free6 (iZ free6 (kZ free6 f0 a k) a k p) k p d := ⟨_, rfl⟩
           rw [← hf] at L1 L2 ES hM
           clear hf
           have hp6 : p < 6 := by omega
           have hk6 : k < 6 := by omega
           have hd6 : d < 6 := by omega
           have m1 := hM.m.cell hp6 hk6
           have m2 := hM.m.cell hk6 hd6
           have m3 := hM.m.cell hp6 hd6
           have z1 := hM.lt
           have HM := hid hM
           clear hM
           have E1 : Hid (free6 = 1125899906842624) := hid rfl
           by_cases h1 : f p k < 1125899906842624
           ·by_cases h2 : f k d < 1125899906842624
            ·have hw : IntKind.i64.wrap (f p k + f k d) = f p k + f k d := wi (by omega)
             go_wp2_with fail
             by_cases hmn : f p d ≤ f p k + f k d
             ·have hm2 : min (f p d) (f p k + f k d) = f p d := by omega
              ((refine wp_three_in (fun wc => Below wr.heap.size wr wc) [] [0, 1, 2, 3, 4, 5, 6, 7, 8, 9, 10, 11, 12, 13, 14, 15, 16, 17, 18, 19] 20 (by kernel_rfl) (by kernel_rfl) ((Below.refl _ _).drew) ?_); (intro _ _); (simp only [pick, List.drop_succ_cons, List.drop_zero, List.head?_cons, Option.toList_some, List.cons_append, List.nil_append]); (try refine wpQuiet_nil ?_); (repeat (first | go_big_quiet_skip | (go_big_quiet_want; refine quiet_simple rfl ?_; go_big_quiet_op; go_big_quiet_on) | (go_big_quiet_want; refine quiet_load rfl rfl Try.underlying3 (by assumption) (by first | omega | (simp; omega)) ?_; simp only [Act.put, List.setIfInBounds_toArray, List.set_cons_succ, List.set_cons_zero]; go_big_quiet_on) | (go_big_quiet_want; refine quiet_min rfl rfl rfl hm2 ?_; simp only [Act.put, List.setIfInBounds_toArray, List.set_cons_succ, List.set_cons_zero]; go_big_quiet_on))); (try refine wpQuiet_nil ?_); (intro wq hbq))
              have HM2 : Hid (Cl w wq (.slice ao l.length cap) f) := hid (HM.out.keep hbq)
              have HM3 : Hid (Cl w (wq.setCell ⟨w.heap.size + 1 + 1, p * 6 + d, none⟩ (.int .i64 (f p d))) (.slice ao l.length cap) (stepZ free6 f k p d)) := hid (cl_S HM2.out hp6 hd6 (by rw [E1.out]; exact h1) (by rw [E1.out]; exact h2) (by omega))
              have m5 := HM2.out.m.cell hp6 hd6
              have q1 := World.rowIs.frozen HM2.out.m (p * 6 + d)
              have z2 := HM2.out.lt
              go_wp2_with fail
              go_roundw
              case rel => exact ⟨d + 1, by omega, by go_num, by rw [ES.out]; exact HM3.out⟩
              case measure => simp [intOf]; omega
             ·have hm2 : min (f p d) (f p k + f k d) = f p k + f k d := by omega
              ((refine wp_three_in (fun wc => Below wr.heap.size wr wc) [] [0, 1, 2, 3, 4, 5, 6, 7, 8, 9, 10, 11, 12, 13, 14, 15, 16, 17, 18, 19] 20 (by kernel_rfl) (by kernel_rfl) ((Below.refl _ _).drew) ?_); (intro _ _); (simp only [pick, List.drop_succ_cons, List.drop_zero, List.head?_cons, Option.toList_some, List.cons_append, List.nil_append]); (try refine wpQuiet_nil ?_); (repeat (first | go_big_quiet_skip | (go_big_quiet_want; refine quiet_simple rfl ?_; go_big_quiet_op; go_big_quiet_on) | (go_big_quiet_want; refine quiet_load rfl rfl Try.underlying3 (by assumption) (by first | omega | (simp; omega)) ?_; simp only [Act.put, List.setIfInBounds_toArray, List.set_cons_succ, List.set_cons_zero]; go_big_quiet_on) | (go_big_quiet_want; refine quiet_min rfl rfl rfl hm2 ?_; simp only [Act.put, List.setIfInBounds_toArray, List.set_cons_succ, List.set_cons_zero]; go_big_quiet_on))); (try refine wpQuiet_nil ?_); (intro wq hbq))
              have HM2 : Hid (Cl w wq (.slice ao l.length cap) f) := hid (HM.out.keep hbq)
              have HM3 : Hid (Cl w (wq.setCell ⟨w.heap.size + 1 + 1, p * 6 + d, none⟩ (.int .i64 (f p k + f k d))) (.slice ao l.length cap) (stepZ free6 f k p d)) := hid (cl_S HM2.out hp6 hd6 (by rw [E1.out]; exact h1) (by rw [E1.out]; exact h2) (by omega))
              have m5 := HM2.out.m.cell hp6 hd6
              have q1 := World.rowIs.frozen HM2.out.m (p * 6 + d)
              have z2 := HM2.out.lt
              go_wp2_with fail
              go_roundw
              case rel => exact ⟨d + 1, by omega, by go_num, by rw [ES.out]; exact HM3.out⟩
              case measure => simp [intOf]; omega
            ·go_wp2_with fail
             go_roundw
             case rel => exact ⟨d + 1, by omega, by go_num, by rw [ES.out, show stepZ free6 f k p d = f from if_neg (fun q => by rw [E1.out] at q; omega)]; exact HM.out⟩
             case measure => simp [intOf]; omega
           ·go_wp2_with fail
            go_roundw
            case rel => exact ⟨d + 1, by omega, by go_num, by rw [ES.out, show stepZ free6 f k p d = f from if_neg (fun q => by rw [E1.out] at q; omega)]; exact HM.out⟩
            case measure => simp [intOf]; omega
          ·have e : d = a := by omega
           subst e
           go_wp2_with fail
           go_roundw
           case rel => exact ⟨p + 1, by omega, by go_num, hM⟩
           case measure => simp [intOf]; omega
        ·have e : p = a := by omega
         subst e
         go_wp2_with fail
         go_roundw
         case rel => exact ⟨k + 1, by omega, by go_num, hM⟩
         case measure => simp [intOf]; omega
      ·have e : k = a := by omega
       subst e
       obtain ⟨g, hg⟩ : ∃ g, g = kZ free6 f0 k k := ⟨_, rfl⟩
       rw [← hg] at hM
       clear hka hk HLW
       go_wp2_with fail
       obtain ⟨W4, hW4⟩ : ∃ W4 : World, W4 = wr := ⟨_, rfl⟩
       rw [← hW4] at hM ⊢
       clear hW4
       have HM := hid hM
       have HG := hid hg
       clear hM hg
       go_loopw [15] (fun i wi => ∃ x : Nat, x ≤ k ∧ i = .int .i64 x ∧ wi = W4 ∧ Hid (∀ q, q < x → 0 ≤ g q q)) (fun i _ => k - (intOf i).toNat)
       case atStart => exact ⟨0, Nat.zero_le _, rfl, rfl, hid fun q hq => absurd hq (Nat.not_lt_zero _)⟩
       case round =>
        obtain ⟨x, hx, rfl, rfl, HQ⟩ := hrel
        by_cases hxk : x < k
        ·have hx6 : x < 6 := by omega
         have m1 := HM.out.m.cell hx6 hx6
         by_cases h0 : g x x < 0
         ·have z1 := HM.out.lt
          go_upto_region 32 with fail
          obtain ⟨W5, hW5⟩ : ∃ W5, W5 = wr.setCells (w.heap.size + 1) 0 (cells36 g) := ⟨_, rfl⟩
          refine wp_region_list ?_
          refine wpList_load_mid rfl 117 (.tmp 6) rfl _ _ rfl (cells36 g) _ HM.out.m.range Try.underlying117 rfl (by kernel_rfl) ?_
          simp only [Act.put, List.setIfInBounds_toArray, List.set_cons_succ, List.set_cons_zero]
          refine wpList_store_mid rfl 117 (.tmp 4) (.tmp 147) rfl (w.heap.size + 1) 0 (cells36 g).toArray rfl rfl (by rw [show (cells36 g).toArray.size = 36 by simp [cells36]]; exact HM.out.z.there) (by rw [show (cells36 g).toArray.size = 36 by simp [cells36]]; kernel_rfl) (by simp [cells36, Value.oneCell']) ?_
          have hB5 : Below w.heap.size w W5 := by rw [hW5]; exact below_sets (by omega) _ _ _ HM.out.b
          have hR5 : W5.rangeAt (w.heap.size + 1) 0 (cells36 g) := by rw [hW5]; exact World.rangeAt_setCells_same wr _ _ _ (by rw [show (cells36 g).length = 36 by simp [cells36]]; exact HM.out.z.there)
          have HB5 := hid hB5
          have hL5 := run_loadVar_mid (P := Try.prog) W5 (w.heap.size + 1) 0 117 (cells36 g) _ hR5 Try.underlying117 rfl (by kernel_rfl)
          rw [← hW5]
          clear hW5 hR5 hB5
          simp only [Act.put]
          go_wp2_with fail
          (try simp only [Exit.inBlock, Exit.then])
          have hres := hL5
          refine bodyPost_ret (v := .tuple #[.agg (cells36 g).toArray, .bool false]) ?_ rfl ?_
          ·exact results_cell_tmp Try.results75 _ rfl hL5
          ·have EG : kZ free6 (lnkS k l s s.length) k k = g := by rw [HG.out, HF0.out]
           rw [EG]
           exact ⟨HB5.out, Or.inl ⟨⟨x, hxk, h0⟩, rfl⟩⟩
         ·go_wp2_with fail
          go_roundw
          case rel => exact ⟨x + 1, by omega, by go_num, by trivial, hid fun q hq => by
           by_cases e : q = x
           ·rw [e]; omega
           ·exact HQ.out q (by omega)⟩
          case measure => simp [intOf]; omega
        ·have z1 := HM.out.lt
         go_upto_region 33 with fail
         obtain ⟨W5, hW5⟩ : ∃ W5, W5 = wr.setCells (w.heap.size + 1) 0 (cells36 g) := ⟨_, rfl⟩
         refine wp_region_list ?_
         refine wpList_load_mid rfl 117 (.tmp 6) rfl _ _ rfl (cells36 g) _ HM.out.m.range Try.underlying117 rfl (by kernel_rfl) ?_
         simp only [Act.put, List.setIfInBounds_toArray, List.set_cons_succ, List.set_cons_zero]
         refine wpList_store_mid rfl 117 (.tmp 4) (.tmp 148) rfl (w.heap.size + 1) 0 (cells36 g).toArray rfl rfl (by rw [show (cells36 g).toArray.size = 36 by simp [cells36]]; exact HM.out.z.there) (by rw [show (cells36 g).toArray.size = 36 by simp [cells36]]; kernel_rfl) (by simp [cells36, Value.oneCell']) ?_
         have hB5 : Below w.heap.size w W5 := by rw [hW5]; exact below_sets (by omega) _ _ _ HM.out.b
         have hR5 : W5.rangeAt (w.heap.size + 1) 0 (cells36 g) := by rw [hW5]; exact World.rangeAt_setCells_same wr _ _ _ (by rw [show (cells36 g).length = 36 by simp [cells36]]; exact HM.out.z.there)
         have HB5 := hid hB5
         have hL5 := run_loadVar_mid (P := Try.prog) W5 (w.heap.size + 1) 0 117 (cells36 g) _ hR5 Try.underlying117 rfl (by kernel_rfl)
         rw [← hW5]
         clear hW5 hR5 hB5
         simp only [Act.put]
         go_wp2_with fail
         (try simp only [Exit.inBlock, Exit.then])
         have hres := hL5
         refine bodyPost_ret (v := .tuple #[.agg (cells36 g).toArray, .bool true]) ?_ rfl ?_
         ·exact results_cell_tmp Try.results75 _ rfl hL5
         ·have EG : kZ free6 (lnkS k l s s.length) k k = g := by rw [HG.out, HF0.out]
          rw [EG]
          exact ⟨HB5.out, Or.inr ⟨fun i hi => HQ.out i (by omega), rfl⟩⟩
end Go.Proofs.Ytkifmfmenobhnaa
set_option linter.unusedVariables false
set_option linter.unusedSimpArgs false
namespace Go.Proofs.Ytkifmfmenobhnaa
open Go.RowKit Ev
def txCv (s : ByteArray) : List CV := [.v (.string s)]
theorem txs_fwd (l : List ByteArray) : ((List.range l.length).map fun i => fwd ((txsC l) i) 0 1) = l.map txCv := by
 apply List.ext_getElem?
 intro i
 by_cases hi : i < l.length
 ·simp [hi, fwd, txsC, txCv, txAt, List.getD]
 ·simp [hi]
theorem leC_txs (l : List ByteArray) : LeC1 (.sl 1 (l.map txCv).length (genC (l.map txCv))) (.sl 1 l.length (txsC l)) := by
 rw [List.length_map]
 refine leSlC fun i j hi hj => ?_
 obtain rfl : j = 0 := by omega
 refine leC_k ?_
 simp [genC, txsC, txCv, txAt, List.getD, hi]
theorem leC_lnks (l : List Lnk) : LeC1 (.sl 4 (l.map lnkCv).length (genC (l.map lnkCv))) (.sl 4 l.length (lnksC l)) := fun w N v h => le_lnks l w N v h
theorem plain_str (l : List ByteArray) (i j : Nat) : ∃ y, txsC l i j = .v y := ⟨_, rfl⟩
theorem txAt_in {l : List ByteArray} {k : Nat} (h : k < l.length) : txAt l k ∈ l := by
 rw [show txAt l k = l[k] by simp [txAt, List.getD, h]]; exact List.getElem_mem h
theorem txs_mem {l : List ByteArray} {s : ByteArray} (h : s ∈ l) : ∃ j, j < l.length ∧ txAt l j = s := by
 obtain ⟨j, hj, e⟩ := List.mem_iff_getElem.1 h
 exact ⟨j, hj, by simp [txAt, List.getD, hj, e]⟩
theorem stepK_le (f : Nat → Nat → Int) (k i j x y : Nat) : stepK f k i j x y ≤ f x y := by
 unfold stepK
 split
 ·unfold updI
  split
  ·rename_i h; rw [h.1, h.2]; omega
  ·omega
 ·omega
theorem jK_le (f : Nat → Nat → Int) (k i : Nat) : ∀ j x y, jK f k i j x y ≤ f x y := by
 intro j
 induction j with
 | zero => intro x y; exact Int.le_refl _
 | succ j ih => intro x y; exact Int.le_trans (stepK_le _ k i j x y) (ih x y)
theorem iK_le (f : Nat → Nat → Int) (n k : Nat) : ∀ i x y, iK f n k i x y ≤ f x y := by
 intro i
 induction i with
 | zero => intro x y; exact Int.le_refl _
 | succ i ih => intro x y; exact Int.le_trans (jK_le _ k i n x y) (ih x y)
theorem kK_le (f : Nat → Nat → Int) (n : Nat) : ∀ k x y, kK f n k x y ≤ f x y := by
 intro k
 induction k with
 | zero => intro x y; exact Int.le_refl _
 | succ k ih => intro x y; exact Int.le_trans (iK_le _ n k n x y) (ih x y)
theorem lnkM_hi (l : List Lnk) : ∀ k, k ≤ l.length → ∀ x y, lnkM l k x y ≤ far := by
 intro k
 induction k with
 | zero => intro _ x y; show initM x y ≤ far; unfold initM far; split <;> decide
 | succ k ih =>
  intro hk x y
  have i := ih (by omega)
  rw [lnkM_succ hk]
  generalize lnkAt l k = z at *
  have F : ∀ x y, lnkF (lnkM l k) z x y ≤ far := by
   intro x y
   unfold lnkF updI
   have := i z.frm.toNat z.to.toNat
   have := i x y
   split <;> omega
  unfold lnkG updI
  have := F z.to.toNat z.frm.toNat
  have := F x y
  split <;> omega
theorem bdF_rg {n : Nat} {l : List Lnk} (h : bdOk n l) (x y : Nat) : -50000000000000 ≤ bdF l n x y ∧ bdF l n x y ≤ 1152921504606846976 := by
 obtain ⟨hn, hl, hok⟩ := h
 rw [Int.toNat_natCast] at hok
 have h1 := kK_low (by decide) (lnkM_low hok l.length (Nat.le_refl _)) n n x y
 have h2 := kK_le (lnkM l l.length) n n x y
 have h3 := lnkM_hi l l.length (Nat.le_refl _) x y
 unfold bdF
 unfold far at h3
 refine ⟨?_, by omega⟩
 rcases (by omega : n = 1 ∨ n = 2 ∨ n = 3 ∨ n = 4 ∨ n = 5 ∨ n = 6) with rfl | rfl | rfl | rfl | rfl | rfl <;> simp at h1 <;> omega
theorem ntE_ok {cs : List ByteArray} {ls : List Lnk} (h : ntE cs ls = 0) : ntH cs ls = 0 ∧ (∀ j, j < cs.length → nmE cs j = 0) ∧ ∀ j, j < ls.length → lkE cs.length (lnkAt ls j) = 0 := by
 unfold ntE at h
 split at h
 ·rename_i g; exact absurd h g
 ·rename_i g
  split at h
  ·rename_i g2; exact absurd h g2
  ·rename_i g2
   exact ⟨by omega, scan_zero (by omega), scan_zero h⟩
theorem fnz {a : Int} {l : List Int} (h : firstNZ (a :: l) = 0) : a = 0 ∧ firstNZ l = 0 := by
 by_cases e : a = 0
 ·subst e; exact ⟨rfl, by simpa [firstNZ] using h⟩
 ·simp [firstNZ, e] at h
theorem lkE_ok {n : Nat} {x : Lnk} (h : lkE n x = 0) : x.ok n := by
 obtain ⟨h1, h⟩ := fnz (show firstNZ (_ :: _) = 0 from h)
 obtain ⟨h2, h⟩ := fnz h
 obtain ⟨h3, h⟩ := fnz h
 obtain ⟨h4, _⟩ := fnz h
 rw [unl_0 (by decide)] at h1 h2 h3 h4
 rw [Bool.and_eq_true, inB_true, inB_true] at h1 h3
 have h4 := of_decide_eq_true h4
 have h2 : x.frm ≠ x.to := by simpa using h2
 exact ⟨by omega, by omega, h2, by omega, h4, by omega⟩
theorem ntE_bd {cs : List ByteArray} {ls : List Lnk} (h : ntE cs ls = 0) : bdOk cs.length ls := by
 obtain ⟨h1, h2, h3⟩ := ntE_ok h
 have h1 := ntH_ok h1
 refine ⟨by omega, h1.2, fun k hk => ?_⟩
 rw [Int.toNat_natCast]
 exact lkE_ok (h3 k hk)
def opnB (l : List Lnk) (n i : Nat) : Bool := (bdF l n 0 i == 1152921504606846976) || (bdF l n i 0 == 1152921504606846976)
def ofS (cs : List ByteArray) (ls : List Lnk) : Bool := (List.range cs.length).any (opnB ls cs.length)
def ofE (cs : List ByteArray) (ls : List Lnk) : Int := if ntE cs ls ≠ 0 then ntE cs ls else if bdB ls cs.length = true then (if ofS cs ls = true then 21 else 0) else 13
def ofK (ls : List Lnk) (n k : Nat) : List Rg := (List.range k).map fun i => ⟨-bdF ls n i 0, bdF ls n 0 i⟩
theorem ofK_succ (ls : List Lnk) (n k : Nat) : ofK ls n (k + 1) = ofK ls n k ++ [⟨-bdF ls n k 0, bdF ls n 0 k⟩] := by
 unfold ofK; rw [List.range_succ, List.map_append]; rfl
def ofV (cs : List ByteArray) (ls : List Lnk) : List Rg := if ofE cs ls = 0 then ofK ls cs.length cs.length else []
def fwL (cs : List ByteArray) (ls : List Lnk) : Bool := decide ((cs.length : Int) ≤ 8) && (decide ((ls.length : Int) ≤ 14) && cs.all fun s => decide (s.size ≤ 20))
def exP : List Png := [⟨1000, 50, 250, 1300⟩, ⟨101000, 100050, 100250, 101304⟩]
def exC : List ByteArray := [⟨#[97]⟩, ⟨#[98]⟩, ⟨#[100]⟩]
def exL : List Lnk := [⟨0, 1, 5, 7⟩, ⟨1, 2, 1, 2⟩, ⟨0, 2, 7, 10⟩]
def Sw91 : Sum := addS St90 93 con_bounds
theorem VSw91 : Valid Try.prog Sw91 := Valid.add VSt90 ok_bounds
def vc_clock_agree (sz : Int) (ls : List Lnk) (post : DV → Prop) : Prop := (numsP 4 ls.length (lnksC ls) ∧ bdOk sz (listC ls.length mkLnk (lnksC ls))) ∧ (post (.t (.c (.v (.bool (bdB (listC ls.length mkLnk (lnksC ls)) ((sz).toNat)))))))
def ann_clock_agree : Ann := ⟨fun _ => none, fun _ => none, fun _ => [], I1, false, fun _ => none, fun _ => none⟩
theorem ev_clock_agree (J : Inv) (sz : Int) (ls : List Lnk) (post : DV → Prop) : evFn Try.prog tab Sw91 ann_clock_agree J Try.f116 [.t (.c (.v (.int .i64 sz))), .t (.c (.sl 4 ls.length (lnksC ls)))] post = vc_clock_agree sz ls post := by kernel_rfl
theorem fit_clock_agree : okFn ann_clock_agree Try.f116 = true := by kernel_rfl
theorem lp_clock_agree (J : Inv) (post : DV → Prop) : AllG J (loopsFn Try.prog tab Sw91 ann_clock_agree J Try.f116 post) = (True) := by kernel_rfl
theorem spec_clock_agree (sz : Int) (ls : List Lnk) (hp : bdOk sz ls) : vc_clock_agree sz ls (fun r => LeD r (.t (.c (.v (.bool (bdB ls (sz).toNat)))))) := by
 unfold vc_clock_agree
 simp only [lnks_listC]
 exact ⟨⟨numsP_lnks ls, hp⟩, LeD.refl _⟩
def con_clock_agree : Con := fun args => match args with
 | [.t (.c (.v (.int .i64 sz))), .t (.c (.sl 4 n_ls c_ls))] => some (.t (.c (.v (.bool (bdB (listC n_ls mkLnk c_ls) (sz).toNat)))), some (numsP 4 n_ls c_ls ∧ bdOk sz (listC n_ls mkLnk c_ls)), false)
 | _ => none
theorem ok_clock_agree : Ok Try.prog 116 con_clock_agree := by
 refine Ok.fn (ann := ann_clock_agree) mixed tabOK VSw91 VI1 (fn := Try.f116) (by kernel_rfl) (by kernel_rfl) fit_clock_agree fun args r pre fresh h hp => ?_
 unfold con_clock_agree at h
 split at h
 ·rename_i sz n_ls c_ls
  cases h
  obtain ⟨hp0, hp⟩ := hp
  refine ⟨rfl, fun _ _ _ => False, [.t (.c (.v (.int .i64 sz))), .t (.c (.sl 4 ((listC n_ls mkLnk c_ls).length) (lnksC (listC n_ls mkLnk c_ls))))], ?_, Nat.le_of_ble_eq_true (by kernel_rfl), ?_, ?_⟩
  ·exact (LeA_cons (LeD.refl _) (LeA_cons (leT_c ((leL_Lnk hp0))) LeA_nil))
  ·rw [ev_clock_agree]; exact spec_clock_agree sz (listC n_ls mkLnk c_ls) hp
  ·rw [lp_clock_agree]; trivial
 ·cases h
def Sw92 : Sum := addS Sw91 116 con_clock_agree
theorem VSw92 : Valid Try.prog Sw92 := Valid.add VSw91 ok_clock_agree
def mk_clock_OffsetsOf_0 (cs : List ByteArray) (ls : List Lnk) (v0_0 : List (List CV)) (v0_1 : Int) : DS := ⟨[none, none, none, none, none, some (.t (.c (.sl 1 (bdN (listC ls.length mkLnk (lnksC ls)) ((((cs.length : Nat) : Int)).toNat)) (matC ((((cs.length : Nat) : Int)).toNat) (bdF (listC ls.length mkLnk (lnksC ls)) ((((cs.length : Nat) : Int)).toNat)))))), none, some (.t (.c (.os 7))), none, none, none, none, none, none, none, none, none, none, none, none, none, none, none, none, none, none, none, some (.t (.c (.v (.int .i64 ((cs.length : Nat) : Int))))), some (.t (.c (.v (.int .i64 v0_1)))), none, none, none, none, none, none, none, none, none, none, none, none, none, none, none, none, none, none, none, none, none, none, none, none, none, none, none, none, none, none, none, none, none, none, none, none, none], [none, none, none, none, none, none, none, some (.gen 90 2 v0_0), none, none, none, none, none, none, none, none, none, none, none, none, none, none, none, none, none, none, none, none, none, none, none, none, none, none, none, none, none, none, none, none, none, none, none, none, none, none, none, none, none, none, none, none, none, none, none, none, none, none, none, none, none, none, none, none, none, none]⟩
def vc_clock_OffsetsOf (J : Inv) (cs : List ByteArray) (ls : List Lnk) (post : DV → Prop) : Prop := (txP cs.length (txsC cs) ∧ numsP 4 ls.length (lnksC ls) ∧ (∀ k, k < ((txOf cs.length (txsC cs))).length → (txAt (txOf cs.length (txsC cs)) k).size ≤ 1000000)) ∧ (cond ((ntE (txOf cs.length (txsC cs)) (listC ls.length mkLnk (lnksC ls))) != (0 : Int)) (post (.tu [.c (.v (.slice none 0 0)), .c (.v (.int .i64 (ntE (txOf cs.length (txsC cs)) (listC ls.length mkLnk (lnksC ls)))))])) ((numsP 4 ls.length (lnksC ls) ∧ bdOk ((cs.length : Nat) : Int) (listC ls.length mkLnk (lnksC ls))) ∧ (cond (!(bdB (listC ls.length mkLnk (lnksC ls)) ((((cs.length : Nat) : Int)).toNat))) (post (.tu [.c (.v (.slice none 0 0)), .c (.v (.int .i64 13))])) (∃ n, J 0 (n :: []) (mk_clock_OffsetsOf_0 cs ls ([]) 0)))))
def ann_clock_OffsetsOf : Ann := ⟨fun r => lookA r [(13, ([[], [], [], [1, 2], [1, 2, 3], [1, 2, 3, 4], [1, 2, 3, 4, 5], [1, 2, 3, 4, 5, 6], [], [8], [8, 9], [], [8, 9, 10, 11], [8, 9, 10, 11, 12], [1, 2, 3, 4, 5, 6, 7, 8, 9, 10, 11, 12, 13], [1, 2, 3, 4, 5, 6, 7, 8, 9, 10, 11, 12, 13, 14], [0, 1, 2, 3, 4, 5, 6, 7, 8, 9, 10, 11, 12, 13, 14, 15], [0, 1, 2, 3, 4, 5, 6, 7, 8, 9, 10, 11, 12, 13, 14, 15, 16]], [[62], [62], [62], [62], [62], [62], [62], [62], [62], [62], [62], [62], [62], [62], [62], [], [], []]))], fun b => lookA b [(0, (none, some ⟨[5, 27, 28], [], [(7, .gen 90 2 [])]⟩))], fun _ => [], I1, false, fun r => lookA r [(11, (8, [46]))], fun _ => none⟩
theorem ev_clock_OffsetsOf (J : Inv) (cs : List ByteArray) (ls : List Lnk) (post : DV → Prop) : evFn Try.prog tab Sw92 ann_clock_OffsetsOf J Try.f39 [.t (.a [.sl 1 cs.length (txsC cs), .sl 4 ls.length (lnksC ls)])] post = vc_clock_OffsetsOf J cs ls post := by kernel_rfl
theorem fit_clock_OffsetsOf : okFn ann_clock_OffsetsOf Try.f39 = true := by kernel_rfl
def rd_clock_OffsetsOf_0 (J : Inv) (cs : List ByteArray) (ls : List Lnk) (v0_0 : List (List CV)) (v0_1 : Int) (nn0 : Nat) (post : DV → Prop) : Prop := cond (decide (v0_1 < ((cs.length : Nat) : Int))) ((0 ≤ (0 : Int) ∧ (0 : Int) < (((bdN (listC ls.length mkLnk (lnksC ls)) ((((cs.length : Nat) : Int)).toNat)) : Nat) : Int)) ∧ ((0 ≤ v0_1 ∧ v0_1 < (((((cs.length : Nat) : Int)).toNat : Nat) : Int)) ∧ ((cond ((bdF (listC ls.length mkLnk (lnksC ls)) ((((cs.length : Nat) : Int)).toNat) 0 v0_1.toNat) == (1152921504606846976 : Int)) ((true = true) ∧ (True)) ((0 ≤ v0_1 ∧ v0_1 < (((bdN (listC ls.length mkLnk (lnksC ls)) ((((cs.length : Nat) : Int)).toNat)) : Nat) : Int)) ∧ ((0 ≤ (0 : Int) ∧ (0 : Int) < (((((cs.length : Nat) : Int)).toNat : Nat) : Int)) ∧ (True)))) ∧ (lt ((bif ((bdF (listC ls.length mkLnk (lnksC ls)) ((((cs.length : Nat) : Int)).toNat) 0 v0_1.toNat) == (1152921504606846976 : Int)) then true else ((bdF (listC ls.length mkLnk (lnksC ls)) ((((cs.length : Nat) : Int)).toNat) v0_1.toNat 0) == (1152921504606846976 : Int)))) fun x1 => cond x1 (post (.tu [.c (.v (.slice none 0 0)), .c (.v (.int .i64 21))])) ((0 ≤ v0_1 ∧ v0_1 < (((bdN (listC ls.length mkLnk (lnksC ls)) ((((cs.length : Nat) : Int)).toNat)) : Nat) : Int)) ∧ ((0 ≤ (0 : Int) ∧ (0 : Int) < (((((cs.length : Nat) : Int)).toNat : Nat) : Int)) ∧ (lt (IntKind.i64.wrap ((0 : Int) - (bdF (listC ls.length mkLnk (lnksC ls)) ((((cs.length : Nat) : Int)).toNat) v0_1.toNat 0))) fun x2 => (0 ≤ (0 : Int) ∧ (0 : Int) < (((bdN (listC ls.length mkLnk (lnksC ls)) ((((cs.length : Nat) : Int)).toNat)) : Nat) : Int)) ∧ ((0 ≤ v0_1 ∧ v0_1 < (((((cs.length : Nat) : Int)).toNat : Nat) : Int)) ∧ ((roomP 16 (v0_0.length + ([[.v (.int .i64 x2), .v (.int .i64 (bdF (listC ls.length mkLnk (lnksC ls)) ((((cs.length : Nat) : Int)).toNat) 0 v0_1.toNat))]] : List (List CV)).length)) ∧ (lt (IntKind.i64.wrap (v0_1 + (1 : Int))) fun x3 => J 0 (nn0 :: []) (mk_clock_OffsetsOf_0 cs ls (v0_0 ++ ([[.v (.int .i64 x2), .v (.int .i64 (bdF (listC ls.length mkLnk (lnksC ls)) ((((cs.length : Nat) : Int)).toNat) 0 v0_1.toNat))]] : List (List CV))) x3))))))))))) (post (.tu [.c (.sl 2 v0_0.length (genC v0_0)), .c (.v (.int .i64 0))]))
theorem er_clock_OffsetsOf_0 (J : Inv) (cs : List ByteArray) (ls : List Lnk) (v0_0 : List (List CV)) (v0_1 : Int) (nn0 : Nat) (post : DV → Prop) : round Try.prog tab Sw92 ann_clock_OffsetsOf J Try.f39 post 0 (nn0 :: []) (mk_clock_OffsetsOf_0 cs ls v0_0 v0_1) = rd_clock_OffsetsOf_0 J cs ls v0_0 v0_1 nn0 post := by kernel_rfl
theorem lp_clock_OffsetsOf (J : Inv) (post : DV → Prop) : AllG J (loopsFn Try.prog tab Sw92 ann_clock_OffsetsOf J Try.f39 post) = (((∀ F s, ¬ J 0 (0 :: F) s) ∧ ∀ n F s, J 0 ((n + 1) :: F) s → round Try.prog tab Sw92 ann_clock_OffsetsOf J Try.f39 post 0 (n :: F) s) ∧ True) := by kernel_rfl
def J_clock_OffsetsOf (cs : List ByteArray) (ls : List Lnk) : Inv := fun b F s => match b, F with
 | 0, [nn0] => ∃ (v0_0 : List (List CV)) (v0_1 : Int), s = mk_clock_OffsetsOf_0 cs ls v0_0 v0_1 ∧ ((ntE cs ls = 0 ∧ bdB ls cs.length = true) ∧ 0 ≤ v0_1 ∧ v0_1 ≤ cs.length ∧ (nn0 : Int) + v0_1 = cs.length + 1 ∧ v0_0 = (ofK ls cs.length v0_1.toNat).map rgCv ∧ ∀ j : Nat, (j : Int) < v0_1 → opnB ls cs.length j = false)
 | _, _ => False
theorem rnd_clock_OffsetsOf_0 (cs : List ByteArray) (ls : List Lnk) (v0_0 : List (List CV)) (v0_1 : Int) (nn0 : Nat) (hp : (∀ k, k < (cs).length → (txAt cs k).size ≤ 1000000)) (hi : (ntE cs ls = 0 ∧ bdB ls cs.length = true) ∧ 0 ≤ v0_1 ∧ v0_1 ≤ cs.length ∧ ((nn0 + 1) : Int) + v0_1 = cs.length + 1 ∧ v0_0 = (ofK ls cs.length v0_1.toNat).map rgCv ∧ ∀ j : Nat, (j : Int) < v0_1 → opnB ls cs.length j = false) : rd_clock_OffsetsOf_0 (J_clock_OffsetsOf cs ls) cs ls v0_0 v0_1 nn0 (fun r => LeD r (.tu [.c (.sl 2 ((ofV cs ls).length) (rgsC (ofV cs ls))), .c (.v (.int .i64 (ofE cs ls)))])) := by
 obtain ⟨q, i1, i2, i3, i4, i5⟩ := hi
 obtain ⟨k, rfl⟩ : ∃ k : Nat, v0_1 = k := ⟨v0_1.toNat, by omega⟩
 have hk : (k : Int).toNat = k := rfl
 rw [hk] at i4
 unfold rd_clock_OffsetsOf_0
 simp only [lnks_listC, Int.toNat_natCast]
 have eN : bdN ls cs.length = cs.length := if_pos q.2
 have z := ntE_bd q.1
 have zn := z.1
 rw [eN]
 refine cond_i (fun h => ?_) (fun h => ?_)
 ·have hlt : k < cs.length := by have := of_decide_eq_true h; omega
  have b1 := bdF_rg z k 0
  refine ⟨⟨by trivial, by omega⟩, ⟨by omega, by omega⟩, ⟨cond_i (fun _ => ⟨by trivial, trivial⟩) (fun _ => ⟨⟨by omega, by omega⟩, ⟨by trivial, by omega⟩, trivial⟩), lt_i fun x1 h1 => ?_⟩⟩
  have e1 : x1 = opnB ls cs.length k := by rw [← h1]; unfold opnB; cases (bdF ls cs.length 0 k == 1152921504606846976) <;> rfl
  subst e1
  refine cond_i (fun g => ?_) (fun g => ⟨⟨by omega, by omega⟩, ⟨by trivial, by omega⟩, lt_i fun x2 h2 => ⟨⟨by trivial, by omega⟩, ⟨by omega, by omega⟩, ?_, lt_i fun x3 h3 => ?_⟩⟩)
  ·have e : ofE cs ls = 21 := by
    unfold ofE
    rw [if_neg (by rw [q.1]; simp), if_pos q.2, if_pos]
    unfold ofS
    rw [List.any_eq_true]
    exact ⟨k, List.mem_range.2 hlt, g⟩
   rw [show ofV cs ls = [] from if_neg (by rw [e]; decide), e]
   exact le_tu le_nil (LeD.refl _)
  ·unfold roomP maxLen; rw [i4]; simp [ofK]; omega
  ·rw [wi (by omega)] at h2 h3
   subst h2 h3
   refine ⟨_, _, rfl, q, by omega, by omega, by omega, ?_, fun j hj => ?_⟩
   ·rw [show ((k : Int) + 1).toNat = k + 1 by omega, ofK_succ, List.map_append, i4, Int.zero_sub]
    rfl
   ·rcases (by omega : (j : Int) < k ∨ j = k) with c | rfl
    ·exact i5 j c
    ·exact g
 ·have h := of_decide_eq_false h
  have e : k = cs.length := by omega
  have eS : ofS cs ls = false := by
   unfold ofS
   rw [Bool.eq_false_iff]
   intro c
   obtain ⟨j, hj, hj2⟩ := List.any_eq_true.1 c
   have := List.mem_range.1 hj
   rw [i5 j (by omega)] at hj2
   cases hj2
  have e0 : ofE cs ls = 0 := by
   unfold ofE
   rw [if_neg (by rw [q.1]; simp), if_pos q.2, if_neg (by rw [eS]; simp)]
  rw [show ofV cs ls = ofK ls cs.length cs.length from if_pos e0, e0, i4, e]
  exact le_tu (le_rgs _) (LeD.refl _)
theorem zero_clock_OffsetsOf_0 (cs : List ByteArray) (ls : List Lnk) (v0_0 : List (List CV)) (v0_1 : Int)  (hi : (ntE cs ls = 0 ∧ bdB ls cs.length = true) ∧ 0 ≤ v0_1 ∧ v0_1 ≤ cs.length ∧ (0 : Int) + v0_1 = cs.length + 1 ∧ v0_0 = (ofK ls cs.length v0_1.toNat).map rgCv ∧ ∀ j : Nat, (j : Int) < v0_1 → opnB ls cs.length j = false) : False := by
 omega
theorem spec_clock_OffsetsOf (cs : List ByteArray) (ls : List Lnk) (hp : (∀ k, k < (cs).length → (txAt cs k).size ≤ 1000000)) : vc_clock_OffsetsOf (J_clock_OffsetsOf cs ls) cs ls (fun r => LeD r (.tu [.c (.sl 2 ((ofV cs ls).length) (rgsC (ofV cs ls))), .c (.v (.int .i64 (ofE cs ls)))])) := by
 unfold vc_clock_OffsetsOf
 simp only [lnks_listC, txs_of, Int.toNat_natCast]
 refine ⟨⟨txP_txs cs, numsP_lnks ls, hp⟩, cond_i (fun h => ?_) (fun h => ?_)⟩
 ·have h : ntE cs ls ≠ 0 := by simpa using h
  have e : ofE cs ls = ntE cs ls := if_pos h
  rw [show ofV cs ls = [] from if_neg (by rw [e]; exact h), e]
  exact le_tu le_nil (LeD.refl _)
 ·have h : ntE cs ls = 0 := by simpa using h
  refine ⟨⟨numsP_lnks ls, ntE_bd h⟩, cond_i (fun g => ?_) (fun g => ?_)⟩
  ·have g : bdB ls cs.length = false := by simpa using g
   have e : ofE cs ls = 13 := by unfold ofE; rw [if_neg (by rw [h]; simp), if_neg (by rw [g]; simp)]
   rw [show ofV cs ls = [] from if_neg (by rw [e]; decide), e]
   exact le_tu le_nil (LeD.refl _)
  ·have g : bdB ls cs.length = true := by simpa using g
   exact ⟨cs.length + 1, [], 0, rfl, ⟨h, g⟩, by omega, by omega, by omega, rfl, fun j hj => by omega⟩
theorem all_clock_OffsetsOf (cs : List ByteArray) (ls : List Lnk) (hp : (∀ k, k < (cs).length → (txAt cs k).size ≤ 1000000)) : AllG (J_clock_OffsetsOf cs ls) (loopsFn Try.prog tab Sw92 ann_clock_OffsetsOf (J_clock_OffsetsOf cs ls) Try.f39 (fun r => LeD r (.tu [.c (.sl 2 ((ofV cs ls).length) (rgsC (ofV cs ls))), .c (.v (.int .i64 (ofE cs ls)))]))) := by
 rw [lp_clock_OffsetsOf]
 refine ⟨⟨?_, ?_⟩, trivial⟩
 ·intro F s h
  obtain _ | ⟨g, F⟩ := F
  case cons => exact h.elim
  obtain ⟨w0, w1, rfl, hi⟩ := h
  exact zero_clock_OffsetsOf_0 cs ls w0 w1 hi
 ·intro n F s h
  obtain _ | ⟨g, F⟩ := F
  case cons => exact h.elim
  obtain ⟨w0, w1, rfl, hi⟩ := h
  rw [er_clock_OffsetsOf_0]
  exact rnd_clock_OffsetsOf_0 cs ls _ _ _ hp hi
def con_clock_OffsetsOf : Con := fun args => match args with
 | [.t (.a [.sl 1 n_cs c_cs, .sl 4 n_ls c_ls])] => some (.tu [.c (.sl 2 ((ofV (txOf n_cs c_cs) (listC n_ls mkLnk c_ls)).length) (rgsC (ofV (txOf n_cs c_cs) (listC n_ls mkLnk c_ls)))), .c (.v (.int .i64 (ofE (txOf n_cs c_cs) (listC n_ls mkLnk c_ls))))], some (txP n_cs c_cs ∧ numsP 4 n_ls c_ls ∧ (∀ k, k < ((txOf n_cs c_cs)).length → (txAt (txOf n_cs c_cs) k).size ≤ 1000000)), false)
 | _ => none
theorem ok_clock_OffsetsOf : Ok Try.prog 39 con_clock_OffsetsOf := by
 refine Ok.fn (ann := ann_clock_OffsetsOf) mixed tabOK VSw92 VI1 (fn := Try.f39) (by kernel_rfl) (by kernel_rfl) fit_clock_OffsetsOf fun args r pre fresh h hp => ?_
 unfold con_clock_OffsetsOf at h
 split at h
 ·rename_i n_cs c_cs n_ls c_ls
  cases h
  obtain ⟨hp0, hp1, hp⟩ := hp
  refine ⟨rfl, J_clock_OffsetsOf (txOf n_cs c_cs) (listC n_ls mkLnk c_ls), [.t (.a [.sl 1 ((txOf n_cs c_cs).length) (txsC (txOf n_cs c_cs)), .sl 4 ((listC n_ls mkLnk c_ls).length) (lnksC (listC n_ls mkLnk c_ls))])], ?_, Nat.le_of_ble_eq_true (by kernel_rfl), ?_, ?_⟩
  ·exact (LeA_cons (leT_a (LeCs.cons ((leL_str hp0)) (LeCs.cons ((leL_Lnk hp1)) LeCs.nil))) LeA_nil)
  ·rw [ev_clock_OffsetsOf]; exact spec_clock_OffsetsOf (txOf n_cs c_cs) (listC n_ls mkLnk c_ls) hp
  ·exact all_clock_OffsetsOf (txOf n_cs c_cs) (listC n_ls mkLnk c_ls) hp
 ·cases h
def Sw93 : Sum := addS Sw92 39 con_clock_OffsetsOf
theorem VSw93 : Valid Try.prog Sw93 := Valid.add VSw92 ok_clock_OffsetsOf
def vc_ref01_CopyNet (cs : List ByteArray) (ls : List Lnk) (post : DV → Prop) : Prop := (roomP 16 (([] : List (List CV)).length + ((List.range cs.length).map fun i => fwd ((txsC cs) i) 0 1).length)) ∧ ((roomP 32 (([] : List (List CV)).length + ((List.range ls.length).map fun i => fwd ((lnksC ls) i) 0 4).length)) ∧ (post (.t (.a [.sl 1 ((([] : List (List CV)) ++ ((List.range cs.length).map fun i => fwd ((txsC cs) i) 0 1)).length) (genC (([] : List (List CV)) ++ ((List.range cs.length).map fun i => fwd ((txsC cs) i) 0 1))), .sl 4 ((([] : List (List CV)) ++ ((List.range ls.length).map fun i => fwd ((lnksC ls) i) 0 4)).length) (genC (([] : List (List CV)) ++ ((List.range ls.length).map fun i => fwd ((lnksC ls) i) 0 4)))]))))
def ann_ref01_CopyNet : Ann := ⟨fun r => lookA r [(1, ([[], [], [1], [0, 1, 2], [], [], [5], [0, 1, 2, 3, 4, 5, 6], [0, 1, 2, 3, 4, 5, 6, 7], [0, 1, 2, 3, 4, 5, 6, 7, 8]], [[7], [3, 7], [3, 7], [9999, 3, 6], [3, 6], [3, 7], [3, 6, 7], [], [], []]))], fun _ => none, fun _ => [], I1, true, fun _ => none, fun _ => none⟩
theorem ev_ref01_CopyNet (J : Inv) (cs : List ByteArray) (ls : List Lnk) (post : DV → Prop) : evFn Try.prog tab Sw93 ann_ref01_CopyNet J Try.f38 [.t (.a [.sl 1 cs.length (txsC cs), .sl 4 ls.length (lnksC ls)])] post = vc_ref01_CopyNet cs ls post := by kernel_rfl
theorem fit_ref01_CopyNet : okFn ann_ref01_CopyNet Try.f38 = true := by kernel_rfl
theorem lp_ref01_CopyNet (J : Inv) (post : DV → Prop) : AllG J (loopsFn Try.prog tab Sw93 ann_ref01_CopyNet J Try.f38 post) = (True) := by kernel_rfl
theorem spec_ref01_CopyNet (cs : List ByteArray) (ls : List Lnk) (hp : (cs).length ≤ 1000 ∧ (ls).length ≤ 1000) : vc_ref01_CopyNet cs ls (fun r => LeD r (.t (.a [.sl 1 cs.length (txsC cs), .sl 4 ls.length (lnksC ls)]))) := by
 unfold vc_ref01_CopyNet
 rw [txs_fwd, lnks_fwd, List.nil_append, List.nil_append]
 refine ⟨?_, ?_, leT_a (LeCs.cons (leC_txs cs) (LeCs.cons (leC_lnks ls) LeCs.nil))⟩
 all_goals
  unfold roomP maxLen
  simp
  omega
def con_ref01_CopyNet : Con := fun args => match args with
 | [.t (.a [.sl 1 n_cs c_cs, .sl 4 n_ls c_ls])] => some (.t (.a [.sl 1 ((txOf n_cs c_cs).length) (txsC (txOf n_cs c_cs)), .sl 4 ((listC n_ls mkLnk c_ls).length) (lnksC (listC n_ls mkLnk c_ls))]), some (txP n_cs c_cs ∧ numsP 4 n_ls c_ls ∧ ((txOf n_cs c_cs)).length ≤ 1000 ∧ ((listC n_ls mkLnk c_ls)).length ≤ 1000), true)
 | _ => none
theorem ok_ref01_CopyNet : Ok Try.prog 38 con_ref01_CopyNet := by
 refine Ok.fnFr (ann := ann_ref01_CopyNet) mixed tabOK VSw93 VI1 rfl (fn := Try.f38) (by kernel_rfl) (by kernel_rfl) fit_ref01_CopyNet fun args r pre fresh h hp => ?_
 unfold con_ref01_CopyNet at h
 split at h
 ·rename_i n_cs c_cs n_ls c_ls
  cases h
  obtain ⟨hp0, hp1, hp⟩ := hp
  refine ⟨rfl, (by intro x hx; simp only [List.mem_cons, List.not_mem_nil, or_false] at hx; rcases hx with rfl | rfl <;> first | trivial | exact (fun i j _ hj => plain_str _ i j) | exact (fun i j _ hj => plain_Lnk _ i j)), fun _ _ _ => False, [.t (.a [.sl 1 ((txOf n_cs c_cs).length) (txsC (txOf n_cs c_cs)), .sl 4 ((listC n_ls mkLnk c_ls).length) (lnksC (listC n_ls mkLnk c_ls))])], ?_, Nat.le_of_ble_eq_true (by kernel_rfl), ?_, ?_⟩
  ·exact (LeA_cons (leT_a (LeCs.cons ((leL_str hp0)) (LeCs.cons ((leL_Lnk hp1)) LeCs.nil))) LeA_nil)
  ·rw [ev_ref01_CopyNet]; exact spec_ref01_CopyNet (txOf n_cs c_cs) (listC n_ls mkLnk c_ls) hp
  ·rw [lp_ref01_CopyNet]; trivial
 ·cases h
def Sw94 : Sum := addS Sw93 38 con_ref01_CopyNet
theorem VSw94 : Valid Try.prog Sw94 := Valid.add VSw93 ok_ref01_CopyNet
def Sw95 : Sum := Sw94
theorem VSw95 : Valid Try.prog Sw95 := VSw94
def mk_law01_fewLinks_0 (cs : List ByteArray) (ls : List Lnk) (v0_0 : Int) : DS := ⟨[none, some (.t (.c (.p 1 0))), none, some (.t (.c (.v (.int .i64 v0_0)))), none, none, none, none, none, none, none, none, none, none, none, none, none, none, none, none, none, none, none, none, none, none, none, none], [none, some (.box 55 [.sl 1 cs.length (txsC cs), .sl 4 ls.length (lnksC ls)]), none, none, none, none, none, none, none, none, none, none, none, none, none, none, none, none, none, none, none, none, none, none, none, none, none, none]⟩
def vc_law01_fewLinks (J : Inv) (cs : List ByteArray) (ls : List Lnk) (post : DV → Prop) : Prop := (cond (decide (((cs.length : Nat) : Int) > (8 : Int))) ((true = true) ∧ (True)) (True)) ∧ (lt ((bif decide (((cs.length : Nat) : Int) > (8 : Int)) then true else decide (((ls.length : Nat) : Int) > (14 : Int)))) fun x1 => cond x1 (post (.t (.c (.v (.bool false))))) (∃ n, J 0 (n :: []) (mk_law01_fewLinks_0 cs ls 0)))
def ann_law01_fewLinks : Ann := ⟨fun _ => none, fun b => lookA b [(0, (none, some ⟨[1, 3], [1], []⟩))], fun _ => [], I1, false, fun r => lookA r [(1, (5, [13]))], fun _ => none⟩
theorem ev_law01_fewLinks (J : Inv) (cs : List ByteArray) (ls : List Lnk) (post : DV → Prop) : evFn Try.prog tab Sw95 ann_law01_fewLinks J Try.f36 [.t (.a [.sl 1 cs.length (txsC cs), .sl 4 ls.length (lnksC ls)])] post = vc_law01_fewLinks J cs ls post := by kernel_rfl
theorem fit_law01_fewLinks : okFn ann_law01_fewLinks Try.f36 = true := by kernel_rfl
def rd_law01_fewLinks_0 (J : Inv) (cs : List ByteArray) (ls : List Lnk) (v0_0 : Int) (nn0 : Nat) (post : DV → Prop) : Prop := cond (decide (v0_0 < ((cs.length : Nat) : Int))) ((0 ≤ v0_0 ∧ v0_0 < ((cs.length : Nat) : Int)) ∧ (cond (decide (((((txAt cs v0_0.toNat) : ByteArray).size : Nat) : Int) > (20 : Int))) (post (.t (.c (.v (.bool false))))) (lt (IntKind.i64.wrap (v0_0 + (1 : Int))) fun x1 => J 0 (nn0 :: []) (mk_law01_fewLinks_0 cs ls x1)))) (post (.t (.c (.v (.bool true)))))
theorem er_law01_fewLinks_0 (J : Inv) (cs : List ByteArray) (ls : List Lnk) (v0_0 : Int) (nn0 : Nat) (post : DV → Prop) : round Try.prog tab Sw95 ann_law01_fewLinks J Try.f36 post 0 (nn0 :: []) (mk_law01_fewLinks_0 cs ls v0_0) = rd_law01_fewLinks_0 J cs ls v0_0 nn0 post := by kernel_rfl
theorem lp_law01_fewLinks (J : Inv) (post : DV → Prop) : AllG J (loopsFn Try.prog tab Sw95 ann_law01_fewLinks J Try.f36 post) = (((∀ F s, ¬ J 0 (0 :: F) s) ∧ ∀ n F s, J 0 ((n + 1) :: F) s → round Try.prog tab Sw95 ann_law01_fewLinks J Try.f36 post 0 (n :: F) s) ∧ True) := by kernel_rfl
def J_law01_fewLinks (cs : List ByteArray) (ls : List Lnk) : Inv := fun b F s => match b, F with
 | 0, [nn0] => ∃ (v0_0 : Int), s = mk_law01_fewLinks_0 cs ls v0_0 ∧ (((cs.length : Int) ≤ 8 ∧ (ls.length : Int) ≤ 14) ∧ 0 ≤ v0_0 ∧ v0_0 ≤ cs.length ∧ (nn0 : Int) + v0_0 = cs.length + 1 ∧ ∀ j : Nat, (j : Int) < v0_0 → (txAt cs j).size ≤ 20)
 | _, _ => False
theorem rnd_law01_fewLinks_0 (cs : List ByteArray) (ls : List Lnk) (v0_0 : Int) (nn0 : Nat) (hi : ((cs.length : Int) ≤ 8 ∧ (ls.length : Int) ≤ 14) ∧ 0 ≤ v0_0 ∧ v0_0 ≤ cs.length ∧ ((nn0 + 1) : Int) + v0_0 = cs.length + 1 ∧ ∀ j : Nat, (j : Int) < v0_0 → (txAt cs j).size ≤ 20) : rd_law01_fewLinks_0 (J_law01_fewLinks cs ls) cs ls v0_0 nn0 (fun r => LeD r (.t (.c (.v (.bool (fwL cs ls)))))) := by
 obtain ⟨q, i1, i2, i3, i4⟩ := hi
 obtain ⟨k, rfl⟩ : ∃ k : Nat, v0_0 = k := ⟨v0_0.toNat, by omega⟩
 have hk : (k : Int).toNat = k := rfl
 unfold rd_law01_fewLinks_0
 rw [hk]
 refine cond_i (fun h => ⟨by have := of_decide_eq_true h; omega, cond_i (fun g => leB ?_) (fun g => lt_i fun x1 h1 => ?_)⟩) (fun h => leB ?_)
 ·have hlt : k < cs.length := by have := of_decide_eq_true h; omega
  have g := of_decide_eq_true g
  unfold fwL
  have e : (cs.all fun s => decide (s.size ≤ 20)) = false := ?_
  ·rw [e, decide_eq_true q.2, decide_eq_true q.1]; rfl
  rw [Bool.eq_false_iff]
  intro c
  have := of_decide_eq_true (List.all_eq_true.1 c (txAt cs k) (txAt_in hlt))
  omega
 ·have hlt : k < cs.length := by have := of_decide_eq_true h; omega
  have g := of_decide_eq_false g
  rw [wi (by omega)] at h1
  subst h1
  refine ⟨_, rfl, q, by omega, by omega, by omega, fun j hj => ?_⟩
  rcases (by omega : (j : Int) < k ∨ j = k) with c | rfl
  ·exact i4 j c
  ·omega
 ·have h := of_decide_eq_false h
  unfold fwL
  rw [decide_eq_true q.1, decide_eq_true q.2, Bool.true_and, Bool.true_and]
  refine (List.all_eq_true.2 fun s hs => ?_).symm
  obtain ⟨j, hj, rfl⟩ := txs_mem hs
  exact decide_eq_true (i4 j (by omega))
theorem zero_law01_fewLinks_0 (cs : List ByteArray) (ls : List Lnk) (v0_0 : Int)  (hi : ((cs.length : Int) ≤ 8 ∧ (ls.length : Int) ≤ 14) ∧ 0 ≤ v0_0 ∧ v0_0 ≤ cs.length ∧ (0 : Int) + v0_0 = cs.length + 1 ∧ ∀ j : Nat, (j : Int) < v0_0 → (txAt cs j).size ≤ 20) : False := by
 omega
theorem spec_law01_fewLinks (cs : List ByteArray) (ls : List Lnk) : vc_law01_fewLinks (J_law01_fewLinks cs ls) cs ls (fun r => LeD r (.t (.c (.v (.bool (fwL cs ls)))))) := by
 unfold vc_law01_fewLinks
 refine ⟨cond_i (fun _ => ⟨rfl, trivial⟩) (fun _ => trivial), lt_i fun x1 h1 => cond_i (fun g => leB ?_) (fun g => ?_)⟩
 ·subst h1
  unfold fwL
  cases e : decide ((cs.length : Int) > 8) with
  | true => rw [decide_eq_false (by have := of_decide_eq_true e; omega)]; rfl
  | false =>
   rw [e] at g
   have := of_decide_eq_true g
   rw [decide_eq_false (show ¬ (ls.length : Int) ≤ 14 by omega)]; cases decide ((cs.length : Int) ≤ 8) <;> rfl
 ·subst h1
  have c : (cs.length : Int) ≤ 8 ∧ (ls.length : Int) ≤ 14 := by
   cases e : decide ((cs.length : Int) > 8) with
   | true => rw [e] at g; cases g
   | false =>
    rw [e] at g
    have h1 := of_decide_eq_false e
    have h2 := of_decide_eq_false g
    omega
  exact ⟨cs.length + 1, 0, rfl, c, by omega, by omega, by omega, fun j hj => by omega⟩
theorem all_law01_fewLinks (cs : List ByteArray) (ls : List Lnk) : AllG (J_law01_fewLinks cs ls) (loopsFn Try.prog tab Sw95 ann_law01_fewLinks (J_law01_fewLinks cs ls) Try.f36 (fun r => LeD r (.t (.c (.v (.bool (fwL cs ls))))))) := by
 rw [lp_law01_fewLinks]
 refine ⟨⟨?_, ?_⟩, trivial⟩
 ·intro F s h
  obtain _ | ⟨g, F⟩ := F
  case cons => exact h.elim
  obtain ⟨w0, rfl, hi⟩ := h
  exact zero_law01_fewLinks_0 cs ls w0 hi
 ·intro n F s h
  obtain _ | ⟨g, F⟩ := F
  case cons => exact h.elim
  obtain ⟨w0, rfl, hi⟩ := h
  rw [er_law01_fewLinks_0]
  exact rnd_law01_fewLinks_0 cs ls _ _ hi
def con_law01_fewLinks : Con := fun args => match args with
 | [.t (.a [.sl 1 n_cs c_cs, .sl 4 n_ls c_ls])] => some (.t (.c (.v (.bool (fwL (txOf n_cs c_cs) (listC n_ls mkLnk c_ls))))), some (txP n_cs c_cs ∧ numsP 4 n_ls c_ls), false)
 | _ => none
theorem ok_law01_fewLinks : Ok Try.prog 36 con_law01_fewLinks := by
 refine Ok.fn (ann := ann_law01_fewLinks) mixed tabOK VSw95 VI1 (fn := Try.f36) (by kernel_rfl) (by kernel_rfl) fit_law01_fewLinks fun args r pre fresh h hp => ?_
 unfold con_law01_fewLinks at h
 split at h
 ·rename_i n_cs c_cs n_ls c_ls
  cases h
  obtain ⟨hp0, hp1⟩ := hp
  refine ⟨rfl, J_law01_fewLinks (txOf n_cs c_cs) (listC n_ls mkLnk c_ls), [.t (.a [.sl 1 ((txOf n_cs c_cs).length) (txsC (txOf n_cs c_cs)), .sl 4 ((listC n_ls mkLnk c_ls).length) (lnksC (listC n_ls mkLnk c_ls))])], ?_, Nat.le_of_ble_eq_true (by kernel_rfl), ?_, ?_⟩
  ·exact (LeA_cons (leT_a (LeCs.cons ((leL_str hp0)) (LeCs.cons ((leL_Lnk hp1)) LeCs.nil))) LeA_nil)
  ·rw [ev_law01_fewLinks]; exact spec_law01_fewLinks (txOf n_cs c_cs) (listC n_ls mkLnk c_ls)
  ·exact all_law01_fewLinks (txOf n_cs c_cs) (listC n_ls mkLnk c_ls)
 ·cases h
def Sw96 : Sum := addS Sw95 36 con_law01_fewLinks
theorem VSw96 : Valid Try.prog Sw96 := Valid.add VSw95 ok_law01_fewLinks
def vc_law01_Cable  (post : DV → Prop) : Prop := post (.t (.a [.v (.int .i64 100), .v (.int .i64 2)]))
def ann_law01_Cable : Ann := ⟨fun _ => none, fun _ => none, fun _ => [], I1, false, fun _ => none, fun _ => none⟩
theorem ev_law01_Cable (J : Inv)  (post : DV → Prop) : evFn Try.prog tab Sw96 ann_law01_Cable J Try.f122 [] post = vc_law01_Cable  post := by kernel_rfl
theorem fit_law01_Cable : okFn ann_law01_Cable Try.f122 = true := by kernel_rfl
theorem lp_law01_Cable (J : Inv) (post : DV → Prop) : AllG J (loopsFn Try.prog tab Sw96 ann_law01_Cable J Try.f122 post) = (True) := by kernel_rfl
theorem spec_law01_Cable  : vc_law01_Cable  (fun r => LeD r (.t (.a [.v (.int .i64 100), .v (.int .i64 2)]))) := by
 exact LeD.refl _
def con_law01_Cable : Con := fun args => match args with
 | [] => some (.t (.a [.v (.int .i64 100), .v (.int .i64 2)]), none, false)
 | _ => none
theorem ok_law01_Cable : Ok Try.prog 122 con_law01_Cable := by
 refine Ok.fn (ann := ann_law01_Cable) mixed tabOK VSw96 VI1 (fn := Try.f122) (by kernel_rfl) (by kernel_rfl) fit_law01_Cable fun args r pre fresh h hp => ?_
 unfold con_law01_Cable at h
 split at h
 ·cases h
  refine ⟨rfl, fun _ _ _ => False, _, LeA.refl _, Nat.le_of_ble_eq_true (by kernel_rfl), ?_, ?_⟩
  ·rw [ev_law01_Cable]; exact spec_law01_Cable 
  ·rw [lp_law01_Cable]; trivial
 ·cases h
def Sw97 : Sum := addS Sw96 122 con_law01_Cable
theorem VSw97 : Valid Try.prog Sw97 := Valid.add VSw96 ok_law01_Cable
def vc_law01_Ping  (post : DV → Prop) : Prop := post (.t (.a [.v (.int .i64 1000), .v (.int .i64 50), .v (.int .i64 250), .v (.int .i64 1300)]))
def ann_law01_Ping : Ann := ⟨fun _ => none, fun _ => none, fun _ => [], I1, false, fun _ => none, fun _ => none⟩
theorem ev_law01_Ping (J : Inv)  (post : DV → Prop) : evFn Try.prog tab Sw97 ann_law01_Ping J Try.f123 [] post = vc_law01_Ping  post := by kernel_rfl
theorem fit_law01_Ping : okFn ann_law01_Ping Try.f123 = true := by kernel_rfl
theorem lp_law01_Ping (J : Inv) (post : DV → Prop) : AllG J (loopsFn Try.prog tab Sw97 ann_law01_Ping J Try.f123 post) = (True) := by kernel_rfl
theorem spec_law01_Ping  : vc_law01_Ping  (fun r => LeD r (.t (.a [.v (.int .i64 1000), .v (.int .i64 50), .v (.int .i64 250), .v (.int .i64 1300)]))) := by
 exact LeD.refl _
def con_law01_Ping : Con := fun args => match args with
 | [] => some (.t (.a [.v (.int .i64 1000), .v (.int .i64 50), .v (.int .i64 250), .v (.int .i64 1300)]), none, false)
 | _ => none
theorem ok_law01_Ping : Ok Try.prog 123 con_law01_Ping := by
 refine Ok.fn (ann := ann_law01_Ping) mixed tabOK VSw97 VI1 (fn := Try.f123) (by kernel_rfl) (by kernel_rfl) fit_law01_Ping fun args r pre fresh h hp => ?_
 unfold con_law01_Ping at h
 split at h
 ·cases h
  refine ⟨rfl, fun _ _ _ => False, _, LeA.refl _, Nat.le_of_ble_eq_true (by kernel_rfl), ?_, ?_⟩
  ·rw [ev_law01_Ping]; exact spec_law01_Ping 
  ·rw [lp_law01_Ping]; trivial
 ·cases h
def Sw98 : Sum := addS Sw97 123 con_law01_Ping
theorem VSw98 : Valid Try.prog Sw98 := Valid.add VSw97 ok_law01_Ping
def vc_law01_Track  (post : DV → Prop) : Prop := post (.t (.a [.v (.int .i64 100), .v (.int .i64 2), .sl 4 2 (genC [[.v (.int .i64 1000), .v (.int .i64 50), .v (.int .i64 250), .v (.int .i64 1300)], [.v (.int .i64 101000), .v (.int .i64 100050), .v (.int .i64 100250), .v (.int .i64 101304)]])]))
def ann_law01_Track : Ann := ⟨fun _ => none, fun _ => none, fun _ => [], I1, true, fun _ => none, fun _ => none⟩
theorem ev_law01_Track (J : Inv)  (post : DV → Prop) : evFn Try.prog tab Sw98 ann_law01_Track J Try.f77 [] post = vc_law01_Track  post := by kernel_rfl
theorem fit_law01_Track : okFn ann_law01_Track Try.f77 = true := by kernel_rfl
theorem lp_law01_Track (J : Inv) (post : DV → Prop) : AllG J (loopsFn Try.prog tab Sw98 ann_law01_Track J Try.f77 post) = (True) := by kernel_rfl
theorem spec_law01_Track  : vc_law01_Track  (fun r => LeD r (.t (.a [.v (.int .i64 100), .v (.int .i64 2), .sl 4 exP.length (pngsC exP)]))) := by
 exact leT_a (LeCs.cons (LeC1.refl _) (LeCs.cons (LeC1.refl _) (LeCs.cons (leC_pngs exP) LeCs.nil)))
def con_law01_Track : Con := fun args => match args with
 | [] => some (.t (.a [.v (.int .i64 100), .v (.int .i64 2), .sl 4 exP.length (pngsC exP)]), none, true)
 | _ => none
theorem ok_law01_Track : Ok Try.prog 77 con_law01_Track := by
 refine Ok.fnFr (ann := ann_law01_Track) mixed tabOK VSw98 VI1 rfl (fn := Try.f77) (by kernel_rfl) (by kernel_rfl) fit_law01_Track fun args r pre fresh h hp => ?_
 unfold con_law01_Track at h
 split at h
 ·cases h
  refine ⟨rfl, (by intro x hx; simp only [List.mem_cons, List.not_mem_nil, or_false] at hx; rcases hx with rfl | rfl | rfl <;> first | trivial | exact (fun i j _ hj => plain_Png _ i j)), fun _ _ _ => False, _, LeA.refl _, Nat.le_of_ble_eq_true (by kernel_rfl), ?_, ?_⟩
  ·rw [ev_law01_Track]; exact spec_law01_Track 
  ·rw [lp_law01_Track]; trivial
 ·cases h
def Sw99 : Sum := addS Sw98 77 con_law01_Track
theorem VSw99 : Valid Try.prog Sw99 := Valid.add VSw98 ok_law01_Track
def vc_law01_Net  (post : DV → Prop) : Prop := post (.t (.a [.sl 1 3 (genC [[.v (.string ⟨#[97]⟩)], [.v (.string ⟨#[98]⟩)], [.v (.string ⟨#[100]⟩)]]), .sl 4 3 (genC [[.v (.int .i64 0), .v (.int .i64 1), .v (.int .i64 5), .v (.int .i64 7)], [.v (.int .i64 1), .v (.int .i64 2), .v (.int .i64 1), .v (.int .i64 2)], [.v (.int .i64 0), .v (.int .i64 2), .v (.int .i64 7), .v (.int .i64 10)]])]))
def ann_law01_Net : Ann := ⟨fun _ => none, fun _ => none, fun _ => [], I1, true, fun _ => none, fun _ => none⟩
theorem ev_law01_Net (J : Inv)  (post : DV → Prop) : evFn Try.prog tab Sw99 ann_law01_Net J Try.f78 [] post = vc_law01_Net  post := by kernel_rfl
theorem fit_law01_Net : okFn ann_law01_Net Try.f78 = true := by kernel_rfl
theorem lp_law01_Net (J : Inv) (post : DV → Prop) : AllG J (loopsFn Try.prog tab Sw99 ann_law01_Net J Try.f78 post) = (True) := by kernel_rfl
theorem spec_law01_Net  : vc_law01_Net  (fun r => LeD r (.t (.a [.sl 1 exC.length (txsC exC), .sl 4 exL.length (lnksC exL)]))) := by
 exact leT_a (LeCs.cons (leC_txs exC) (LeCs.cons (leC_lnks exL) LeCs.nil))
def con_law01_Net : Con := fun args => match args with
 | [] => some (.t (.a [.sl 1 exC.length (txsC exC), .sl 4 exL.length (lnksC exL)]), none, true)
 | _ => none
theorem ok_law01_Net : Ok Try.prog 78 con_law01_Net := by
 refine Ok.fnFr (ann := ann_law01_Net) mixed tabOK VSw99 VI1 rfl (fn := Try.f78) (by kernel_rfl) (by kernel_rfl) fit_law01_Net fun args r pre fresh h hp => ?_
 unfold con_law01_Net at h
 split at h
 ·cases h
  refine ⟨rfl, (by intro x hx; simp only [List.mem_cons, List.not_mem_nil, or_false] at hx; rcases hx with rfl | rfl <;> first | trivial | exact (fun i j _ hj => plain_str _ i j) | exact (fun i j _ hj => plain_Lnk _ i j)), fun _ _ _ => False, _, LeA.refl _, Nat.le_of_ble_eq_true (by kernel_rfl), ?_, ?_⟩
  ·rw [ev_law01_Net]; exact spec_law01_Net 
  ·rw [lp_law01_Net]; trivial
 ·cases h
def Sw100 : Sum := addS Sw99 78 con_law01_Net
theorem VSw100 : Valid Try.prog Sw100 := Valid.add VSw99 ok_law01_Net
end Go.Proofs.Ytkifmfmenobhnaa
set_option linter.unusedVariables false
set_option linter.unusedSimpArgs false
namespace Go.Proofs.Ytkifmfmenobhnaa
open Go.RowKit Ev
theorem cond_t {b : Bool} {A B : Prop} (hb : b = true) (h : A) : cond b A B := by rw [hb]; exact h
theorem nums2_gen (l : List (Int × Int)) : numsP 2 l.length (genC (l.map fun x => [.v (.int .i64 x.1), .v (.int .i64 x.2)])) := by
 intro i j hi hj
 rcases (by omega : j = 0 ∨ j = 1) with rfl | rfl <;> simp [genC, List.getD, hi, cvInt]
def tabM (n : Nat) (t : List Int) : Nat → Nat → Int := fun i j => t.getD (i * n + j) far
def AgM (n : Nat) (f : Nat → Nat → Int) (t : List Int) : Prop := t.length = n * n ∧ ∀ x y, x < n → y < n → f x y = tabM n t x y
theorem ix_lt {n i j : Nat} (hi : i < n) (hj : j < n) : i * n + j < n * n := by
 have : (i + 1) * n ≤ n * n := Nat.mul_le_mul_right n hi
 rw [Nat.succ_mul] at this; omega
theorem ix_eq {n i j x y : Nat} (hj : j < n) (hy : y < n) (h : i * n + j = x * n + y) : i = x ∧ j = y := by
 have h1 : (i * n + j) / n = i := by rw [Nat.add_comm, Nat.add_mul_div_right _ _ (by omega), Nat.div_eq_of_lt hj, Nat.zero_add]
 have h2 : (x * n + y) / n = x := by rw [Nat.add_comm, Nat.add_mul_div_right _ _ (by omega), Nat.div_eq_of_lt hy, Nat.zero_add]
 have e : i = x := by rw [← h1, ← h2, h]
 subst e
 exact ⟨rfl, by omega⟩
theorem AgM.upd {n : Nat} {f : Nat → Nat → Int} {t : List Int} (h : AgM n f t) {i j : Nat} (hi : i < n) (hj : j < n) (v : Int) : AgM n (updI f i j v) (t.set (i * n + j) v) := by
 refine ⟨by rw [List.length_set]; exact h.1, fun x y hx hy => ?_⟩
 unfold updI
 by_cases e : x = i ∧ y = j
 ·obtain ⟨rfl, rfl⟩ := e
  rw [if_pos ⟨rfl, rfl⟩]
  simp [tabM, List.getD, h.1, ix_lt hi hj]
 ·rw [if_neg e, h.2 x y hx hy]
  have : i * n + j ≠ x * n + y := fun q => e ⟨(ix_eq hj hy q).1.symm, (ix_eq hj hy q).2.symm⟩
  simp [tabM, List.getD, List.getElem?_set, this]
def stepT (n : Nat) (t : List Int) (k i j : Nat) : List Int := if tabM n t i k < far ∧ tabM n t k j < far then t.set (i * n + j) (min (tabM n t i j) (tabM n t i k + tabM n t k j)) else t
theorem AgM.step {n : Nat} {f : Nat → Nat → Int} {t : List Int} (h : AgM n f t) {k i j : Nat} (hk : k < n) (hi : i < n) (hj : j < n) : AgM n (stepK f k i j) (stepT n t k i j) := by
 unfold stepK stepT
 rw [← h.2 i k hi hk, ← h.2 k j hk hj, ← h.2 i j hi hj]
 split
 ·exact h.upd hi hj _
 ·exact h
def jT (n : Nat) (t : List Int) (k i : Nat) : Nat → List Int
 | 0 => t
 | j + 1 => stepT n (jT n t k i j) k i j
def iT (n : Nat) (t : List Int) (k : Nat) : Nat → List Int
 | 0 => t
 | i + 1 => jT n (iT n t k i) k i n
def kT (n : Nat) (t : List Int) : Nat → List Int
 | 0 => t
 | k + 1 => iT n (kT n t k) k n
theorem AgM.j {n : Nat} {f : Nat → Nat → Int} {t : List Int} (h : AgM n f t) {k i : Nat} (hk : k < n) (hi : i < n) : ∀ j, j ≤ n → AgM n (jK f k i j) (jT n t k i j)
 | 0, _ => h
 | j + 1, hj => (AgM.j h hk hi j (by omega)).step hk hi (by omega)
theorem AgM.i {n : Nat} {f : Nat → Nat → Int} {t : List Int} (h : AgM n f t) {k : Nat} (hk : k < n) : ∀ i, i ≤ n → AgM n (iK f n k i) (iT n t k i)
 | 0, _ => h
 | i + 1, hi => (AgM.i h hk i (by omega)).j hk (by omega) n (Nat.le_refl _)
theorem AgM.k {n : Nat} {f : Nat → Nat → Int} {t : List Int} (h : AgM n f t) : ∀ k, k ≤ n → AgM n (kK f n k) (kT n t k)
 | 0, _ => h
 | k + 1, hk => (AgM.k h k (by omega)).i (by omega) n (Nat.le_refl _)
def lnkT (n : Nat) (t : List Int) (x : Lnk) : List Int := (fun t => t.set (x.to.toNat * n + x.frm.toNat) (min (tabM n t x.to.toNat x.frm.toNat) (-x.lo))) (t.set (x.frm.toNat * n + x.to.toNat) (min (tabM n t x.frm.toNat x.to.toNat) x.hi))
theorem AgM.lnk {n : Nat} {f : Nat → Nat → Int} {t : List Int} (h : AgM n f t) {x : Lnk} (hx : x.ok n) : AgM n (lnkG f x) (lnkT n t x) := by
 obtain ⟨h1, h2, _⟩ := hx
 have g := h.upd (i := x.frm.toNat) (j := x.to.toNat) (by omega) (by omega) (min (tabM n t x.frm.toNat x.to.toNat) x.hi)
 have g2 := g.upd (i := x.to.toNat) (j := x.frm.toNat) (by omega) (by omega) (min (tabM n (t.set (x.frm.toNat * n + x.to.toNat) (min (tabM n t x.frm.toNat x.to.toNat) x.hi)) x.to.toNat x.frm.toNat) (-x.lo))
 rw [← g.2 _ _ (by omega) (by omega), ← h.2 _ _ (by omega) (by omega)] at g2
 unfold lnkG lnkF lnkT
 rw [← h.2 _ _ (by omega) (by omega)]
 rw [← h.2 _ _ (by omega) (by omega)] at g
 dsimp only
 rw [← g.2 _ _ (by omega) (by omega)]
 exact g2
def initT (n : Nat) : List Int := (List.range (n * n)).map fun q => if q / n = q % n then 0 else far
theorem AgM.init {n : Nat} : AgM n initM (initT n) := by
 refine ⟨by simp [initT], fun x y hx hy => ?_⟩
 have h1 : (x * n + y) / n = x := by rw [Nat.add_comm, Nat.add_mul_div_right _ _ (by omega), Nat.div_eq_of_lt hy, Nat.zero_add]
 have h2 : (x * n + y) % n = y := by rw [Nat.add_comm, Nat.add_mul_mod_self_right, Nat.mod_eq_of_lt hy]
 simp [tabM, initT, List.getD, ix_lt hx hy, h1, h2, initM]
def bdT (l : List Lnk) (n : Nat) : List Int := kT n (l.foldl (lnkT n) (initT n)) n
theorem AgM.links {n : Nat} : ∀ {l : List Lnk} {f : Nat → Nat → Int} {t : List Int}, (∀ x ∈ l, x.ok n) → AgM n f t → AgM n (l.foldl lnkG f) (l.foldl (lnkT n) t)
 | [], _, _, _, h => h
 | x :: l, f, t, hx, h => AgM.links (f := lnkG f x) (t := lnkT n t x) (fun y hy => hx y (by simp [hy])) (h.lnk (hx x (by simp)))
theorem lnks_ok {n : Nat} {l : List Lnk} (h : ∀ k, k < l.length → (lnkAt l k).ok n) : ∀ x ∈ l, x.ok n := by
 intro x hx
 obtain ⟨i, hi, e⟩ := List.mem_iff_getElem.1 hx
 have := h i hi
 rwa [show lnkAt l i = x by simp [lnkAt, List.getD, hi, e]] at this
theorem bd_tab {n : Nat} {l : List Lnk} (h : ∀ k, k < l.length → (lnkAt l k).ok n) : AgM n (bdF l n) (bdT l n) := by
 unfold bdF bdT lnkM
 rw [List.take_length]
 exact (AgM.links (lnks_ok h) AgM.init).k n (Nat.le_refl _)
theorem ex_nt : ntE exC exL = 0 := by kernel_rfl
theorem ex_bd (i j : Nat) (hi : i < 3) (hj : j < 3) : bdF exL 3 i j = tabM 3 [0, 7, 9, -5, 0, 2, -7, -1, 0] i j := by
 have h := ntE_bd ex_nt
 have e := (bd_tab (n := 3) h.2.2).2 i j hi hj
 rw [e, show bdT exL 3 = [0, 7, 9, -5, 0, 2, -7, -1, 0] from by kernel_rfl]
theorem ex_bdB : bdB exL exC.length = true := by
 rw [bdB_true]
 intro i hi
 have hi : i < 3 := hi
 rw [show exC.length = 3 from rfl, ex_bd i i hi hi]
 rcases (by omega : i = 0 ∨ i = 1 ∨ i = 2) with rfl | rfl | rfl <;> decide
theorem ex_opn (i : Nat) (hi : i < 3) : opnB exL 3 i = false := by
 unfold opnB
 rw [ex_bd 0 i (by omega) hi, ex_bd i 0 hi (by omega)]
 rcases (by omega : i = 0 ∨ i = 1 ∨ i = 2) with rfl | rfl | rfl <;> decide
theorem ex_ofE : ofE exC exL = 0 := by
 unfold ofE
 rw [if_neg (by rw [ex_nt]; simp), if_pos ex_bdB, if_neg]
 intro h
 unfold ofS at h
 obtain ⟨i, hi, e⟩ := List.any_eq_true.1 h
 rw [show exC.length = 3 from rfl, ex_opn i (List.mem_range.1 hi)] at e
 cases e
theorem ex_ofV : ofV exC exL = [⟨0, 0⟩, ⟨5, 7⟩, ⟨7, 9⟩] := by
 unfold ofV ofK
 rw [if_pos ex_ofE, show exC.length = 3 from rfl]
 simp only [show List.range 3 = [0, 1, 2] from rfl, List.map_cons, List.map_nil]
 rw [ex_bd 0 0 (by omega) (by omega), ex_bd 1 0 (by omega) (by omega), ex_bd 0 1 (by omega) (by omega), ex_bd 2 0 (by omega) (by omega), ex_bd 0 2 (by omega) (by omega)]
 rfl
def vc_law01_awake  (post : DV → Prop) : Prop := (numsP 4 exP.length (pngsC exP)) ∧ ((txP exC.length (txsC exC) ∧ numsP 4 exL.length (lnksC exL) ∧ (∀ k, k < ((txOf exC.length (txsC exC))).length → (txAt (txOf exC.length (txsC exC)) k).size ≤ 1000000)) ∧ ((numsP 1 4 (genC [[.v (.int .i64 7)], [.v (.int .i64 2)], [.v (.int .i64 2)], [.v (.int .i64 9)]]) ∧ (([(7 : Int), (2 : Int), (2 : Int), (9 : Int)] : List Int)).length ≤ 1000000) ∧ ((numsP 2 2 (genC [[.v (.int .i64 100), .v (.int .i64 5)], [.v (.int .i64 200), .v (.int .i64 (-3))]])) ∧ ((numsP 1 6 (genC [[.v (.int .i64 0)], [.v (.int .i64 1)], [.v (.int .i64 2)], [.v (.int .i64 3)], [.v (.int .i64 6)], [.v (.int .i64 0)]]) ∧ numsP 1 4 (genC [[.v (.int .i64 1)], [.v (.int .i64 2)], [.v (.int .i64 3)], [.v (.int .i64 6)]]) ∧ (([(0 : Int), (1 : Int), (2 : Int), (3 : Int), (6 : Int), (0 : Int)] : List Int)).length ≤ 1000000 ∧ (([(1 : Int), (2 : Int), (3 : Int), (6 : Int)] : List Int)).length ≤ 1000000) ∧ (cond ((obE (⟨(100 : Int), (2 : Int)⟩ : Cab) (listC exP.length mkPng (pngsC exP)) (50050 : Int)) == (0 : Int)) (cond (bif (((taV (⟨(100 : Int), (2 : Int)⟩ : Cab) (listC exP.length mkPng (pngsC exP)) (50050 : Int)).lo) == (51045 : Int)) then (bif (((taV (⟨(100 : Int), (2 : Int)⟩ : Cab) (listC exP.length mkPng (pngsC exP)) (50050 : Int)).hi) == (51057 : Int)) then true else false) else false) (cond ((ofE (txOf exC.length (txsC exC)) (listC exL.length mkLnk (lnksC exL))) == (0 : Int)) ((numsP 2 ((ofV (txOf exC.length (txsC exC)) (listC exL.length mkLnk (lnksC exL))).length) (rgsC (ofV (txOf exC.length (txsC exC)) (listC exL.length mkLnk (lnksC exL)))) ∧ numsP 2 3 (genC [[.v (.int .i64 0), .v (.int .i64 0)], [.v (.int .i64 5), .v (.int .i64 7)], [.v (.int .i64 7), .v (.int .i64 9)]]) ∧ ((listC ((ofV (txOf exC.length (txsC exC)) (listC exL.length mkLnk (lnksC exL))).length) mkRg (rgsC (ofV (txOf exC.length (txsC exC)) (listC exL.length mkLnk (lnksC exL)))))).length ≤ 1000000) ∧ (cond (decide ((listC ((ofV (txOf exC.length (txsC exC)) (listC exL.length mkLnk (lnksC exL))).length) mkRg (rgsC (ofV (txOf exC.length (txsC exC)) (listC exL.length mkLnk (lnksC exL))))) = (listC 3 mkRg (genC [[.v (.int .i64 0), .v (.int .i64 0)], [.v (.int .i64 5), .v (.int .i64 7)], [.v (.int .i64 7), .v (.int .i64 9)]])))) (cond ((urE ([(7 : Int), (2 : Int), (2 : Int), (9 : Int)] : List Int) (10 : Int)) == (0 : Int)) ((numsP 1 ((urR ([(7 : Int), (2 : Int), (2 : Int), (9 : Int)] : List Int) (10 : Int)).length) (intsC (urR ([(7 : Int), (2 : Int), (2 : Int), (9 : Int)] : List Int) (10 : Int))) ∧ numsP 1 4 (genC [[.v (.int .i64 7)], [.v (.int .i64 12)], [.v (.int .i64 12)], [.v (.int .i64 19)]]) ∧ ((listC ((urR ([(7 : Int), (2 : Int), (2 : Int), (9 : Int)] : List Int) (10 : Int)).length) mkInt (intsC (urR ([(7 : Int), (2 : Int), (2 : Int), (9 : Int)] : List Int) (10 : Int))))).length ≤ 1000000) ∧ (cond (decide ((listC ((urR ([(7 : Int), (2 : Int), (2 : Int), (9 : Int)] : List Int) (10 : Int)).length) mkInt (intsC (urR ([(7 : Int), (2 : Int), (2 : Int), (9 : Int)] : List Int) (10 : Int)))) = ([(7 : Int), (12 : Int), (12 : Int), (19 : Int)] : List Int))) (cond ((tfE (listC 2 mkLpp (genC [[.v (.int .i64 100), .v (.int .i64 5)], [.v (.int .i64 200), .v (.int .i64 (-3))]])) (203 : Int)) == (0 : Int)) ((numsP 1 ((tfV (listC 2 mkLpp (genC [[.v (.int .i64 100), .v (.int .i64 5)], [.v (.int .i64 200), .v (.int .i64 (-3))]])) (203 : Int)).length) (intsC (tfV (listC 2 mkLpp (genC [[.v (.int .i64 100), .v (.int .i64 5)], [.v (.int .i64 200), .v (.int .i64 (-3))]])) (203 : Int))) ∧ numsP 1 2 (genC [[.v (.int .i64 198)], [.v (.int .i64 201)]]) ∧ ((listC ((tfV (listC 2 mkLpp (genC [[.v (.int .i64 100), .v (.int .i64 5)], [.v (.int .i64 200), .v (.int .i64 (-3))]])) (203 : Int)).length) mkInt (intsC (tfV (listC 2 mkLpp (genC [[.v (.int .i64 100), .v (.int .i64 5)], [.v (.int .i64 200), .v (.int .i64 (-3))]])) (203 : Int))))).length ≤ 1000000) ∧ (cond (decide ((listC ((tfV (listC 2 mkLpp (genC [[.v (.int .i64 100), .v (.int .i64 5)], [.v (.int .i64 200), .v (.int .i64 (-3))]])) (203 : Int)).length) mkInt (intsC (tfV (listC 2 mkLpp (genC [[.v (.int .i64 100), .v (.int .i64 5)], [.v (.int .i64 200), .v (.int .i64 (-3))]])) (203 : Int)))) = ([(198 : Int), (201 : Int)] : List Int))) (cond ((avE ([(0 : Int), (1 : Int), (2 : Int), (3 : Int), (6 : Int), (0 : Int)] : List Int) ([(1 : Int), (2 : Int), (3 : Int), (6 : Int)] : List Int)) == (0 : Int)) (post (.t (.c (.v (.bool ((avV ([(0 : Int), (1 : Int), (2 : Int), (3 : Int), (6 : Int), (0 : Int)] : List Int) ([(1 : Int), (2 : Int), (3 : Int), (6 : Int)] : List Int)) == (1 : Int))))))) ((false = false) ∧ (post (.t (.c (.v (.bool false))))))) ((false = false) ∧ ((false = false) ∧ (post (.t (.c (.v (.bool false))))))))) ((false = false) ∧ ((false = false) ∧ ((false = false) ∧ (post (.t (.c (.v (.bool false))))))))) ((false = false) ∧ ((false = false) ∧ ((false = false) ∧ ((false = false) ∧ (post (.t (.c (.v (.bool false))))))))))) ((false = false) ∧ ((false = false) ∧ ((false = false) ∧ ((false = false) ∧ ((false = false) ∧ (post (.t (.c (.v (.bool false))))))))))) ((false = false) ∧ ((false = false) ∧ ((false = false) ∧ ((false = false) ∧ ((false = false) ∧ ((false = false) ∧ (post (.t (.c (.v (.bool false))))))))))))) ((false = false) ∧ ((false = false) ∧ ((false = false) ∧ ((false = false) ∧ ((false = false) ∧ ((false = false) ∧ ((false = false) ∧ (post (.t (.c (.v (.bool false))))))))))))) ((false = false) ∧ ((false = false) ∧ ((false = false) ∧ ((false = false) ∧ ((false = false) ∧ ((false = false) ∧ ((false = false) ∧ ((false = false) ∧ (post (.t (.c (.v (.bool false)))))))))))))) ((false = false) ∧ ((false = false) ∧ ((false = false) ∧ ((false = false) ∧ ((false = false) ∧ ((false = false) ∧ ((false = false) ∧ ((false = false) ∧ ((false = false) ∧ (post (.t (.c (.v (.bool false)))))))))))))))))))
def ann_law01_awake : Ann := ⟨fun _ => none, fun _ => none, fun _ => [], I1, false, fun _ => none, fun _ => none⟩
theorem ev_law01_awake (J : Inv)  (post : DV → Prop) : evFn Try.prog tab Sw100 ann_law01_awake J Try.f15 [] post = vc_law01_awake  post := by kernel_rfl
theorem fit_law01_awake : okFn ann_law01_awake Try.f15 = true := by kernel_rfl
theorem lp_law01_awake (J : Inv) (post : DV → Prop) : AllG J (loopsFn Try.prog tab Sw100 ann_law01_awake J Try.f15 post) = (True) := by kernel_rfl
set_option maxHeartbeats 8000000 in
set_option maxRecDepth 100000 in
theorem spec_law01_awake  : vc_law01_awake  (fun r => LeD r (.t (.c (.v (.bool true))))) := by
 unfold vc_law01_awake
 rw [pngs_listC, txs_of, lnks_listC, rgs_listC, ints_listC, ints_listC]
 have hs : ∀ k, k < exC.length → (txAt exC k).size ≤ 1000000 := by
  intro k hk
  have hk : k < 3 := hk
  rcases (by omega : k = 0 ∨ k = 1 ∨ k = 2) with rfl | rfl | rfl <;> decide
 refine ⟨numsP_pngs _, ⟨txP_txs _, numsP_lnks _, hs⟩, ⟨numsP_gen [_, _, _, _], by decide⟩, nums2_gen [(100, 5), (200, -3)], ⟨numsP_gen [_, _, _, _, _, _], numsP_gen [_, _, _, _], by decide, by decide⟩, ?_⟩
 refine cond_t (by kernel_rfl) (cond_t (by kernel_rfl) (cond_t (by rw [ex_ofE]; rfl) ⟨⟨numsP_rgs _, nums2_gen [(0, 0), (5, 7), (7, 9)], by rw [ex_ofV]; decide⟩, cond_t (by rw [ex_ofV]; kernel_rfl) (cond_t (by kernel_rfl) ⟨⟨numsP_ints _, numsP_gen [_, _, _, _], by decide⟩, cond_t (by kernel_rfl) (cond_t (by kernel_rfl) ⟨⟨numsP_ints _, numsP_gen [_, _], by decide⟩, cond_t (by kernel_rfl) (cond_t (by kernel_rfl) (leB (by kernel_rfl)))⟩)⟩)⟩))
def con_law01_awake : Con := fun args => match args with
 | [] => some (.t (.c (.v (.bool true))), none, false)
 | _ => none
theorem ok_law01_awake : Ok Try.prog 15 con_law01_awake := by
 refine Ok.fn (ann := ann_law01_awake) mixed tabOK VSw100 VI1 (fn := Try.f15) (by kernel_rfl) (by kernel_rfl) fit_law01_awake fun args r pre fresh h hp => ?_
 unfold con_law01_awake at h
 split at h
 ·cases h
  refine ⟨rfl, fun _ _ _ => False, _, LeA.refl _, Nat.le_of_ble_eq_true (by kernel_rfl), ?_, ?_⟩
  ·rw [ev_law01_awake]; exact spec_law01_awake 
  ·rw [lp_law01_awake]; trivial
 ·cases h
def Sy101 : Sum := addS Sw100 15 con_law01_awake
theorem VSy101 : Valid Try.prog Sy101 := Valid.add VSw100 ok_law01_awake
end Go.Proofs.Ytkifmfmenobhnaa
set_option linter.unusedVariables false
set_option linter.unusedSimpArgs false
namespace Go.Proofs.Ytkifmfmenobhnaa
open Go.RowKit Ev
theorem invZ_step {z : Int} {g : Nat → Nat → Int} {B : Int} (hB : 0 ≤ B) (hg : ∀ x y, -B ≤ g x y) {k i j : Nat} {c : Nat → Nat → Int} (h : invK g B k i j c) : invK g B k i (j + 1) (stepZ z c k i j) := by
 have hij : c i j = g i j := (h i j).1 (by omega)
 have key : lowB B k i j ≤ c i k + c k j := by
  have a := (h i k).2
  have b := (h k j).2
  have hik : lowB B k i k = if i = k then -(2 * B) else -(3 * B) := by unfold lowB; by_cases e : i = k <;> simp [e]
  have hkj : lowB B k k j = if j = k then -(2 * B) else -(3 * B) := by unfold lowB; by_cases e : j = k <;> simp [e]
  rw [hik] at a
  rw [hkj] at b
  unfold lowB
  by_cases e1 : i = k
  ·by_cases e2 : j = k
   ·rw [if_pos ⟨e1, e2⟩]
    have u : c i k = g i k := (h i k).1 (by omega)
    have v : c k j = g k j := (h k j).1 (by omega)
    have := hg i k; have := hg k j
    omega
   ·rw [if_neg (by omega), if_pos (Or.inl e1)]
    have v : c k j = g k j := (h k j).1 (by omega)
    have := hg k j
    rw [if_pos e1] at a
    omega
  ·by_cases e2 : j = k
   ·rw [if_neg (by omega), if_pos (Or.inr e2)]
    have v : c i k = g i k := (h i k).1 (by omega)
    have := hg i k
    rw [if_pos e2] at b
    omega
   ·rw [if_neg (by omega), if_neg (by omega)]
    rw [if_neg e1] at a
    rw [if_neg e2] at b
    omega
 intro x y
 have hx := h x y
 unfold stepZ
 split
 ·unfold updI
  split
  ·rename_i e
   obtain ⟨rfl, rfl⟩ := e
   refine ⟨fun q => absurd q (by omega), ?_⟩
   have := lowB_g hB hg k x y
   omega
  ·exact ⟨fun q => hx.1 (by omega), hx.2⟩
 ·exact ⟨fun q => hx.1 (by omega), hx.2⟩
theorem invZ_all {z : Int} {g : Nat → Nat → Int} {B : Int} (hB : 0 ≤ B) (hg : ∀ x y, -B ≤ g x y) (n k : Nat) : ∀ i j, invK g B k i j (jZ z (iZ z g n k i) k i j) := by
 intro i
 induction i with
 | zero =>
  intro j
  induction j with
  | zero => exact fun x y => ⟨fun _ => rfl, lowB_g hB hg k x y⟩
  | succ j ih => exact invZ_step hB hg ih
 | succ i ih =>
  intro j
  induction j with
  | zero =>
   have h := ih n
   intro x y
   exact ⟨fun q => (h x y).1 (by omega), (h x y).2⟩
  | succ j ih2 => exact invZ_step hB hg ih2
theorem jZ_low {z : Int} {g : Nat → Nat → Int} {B : Int} (hB : 0 ≤ B) (hg : ∀ x y, -B ≤ g x y) (n k i j x y : Nat) : -(6 * B) ≤ jZ z (iZ z g n k i) k i j x y := by
 have h := (invZ_all (z := z) hB hg n k i j x y).2
 unfold lowB at h
 split at h
 ·omega
 ·split at h <;> omega
theorem kZ_low {z : Int} {f : Nat → Nat → Int} {B : Int} (hB : 0 ≤ B) (hf : ∀ x y, -B ≤ f x y) (n : Nat) : ∀ k x y, -(6 ^ k * B) ≤ kZ z f n k x y := by
 intro k
 induction k with
 | zero => intro x y; have := hf x y; simpa [kZ] using this
 | succ k ih =>
  intro x y
  have hp : 0 ≤ (6 : Int) ^ k * B := Int.mul_nonneg (Int.le_of_lt (Int.pow_pos (by decide))) hB
  have h := jZ_low (z := z) hp ih n k n 0 x y
  rw [Int.pow_succ, Int.mul_comm ((6 : Int) ^ k) 6, Int.mul_assoc]
  exact h
theorem lnkG_low {n : Nat} {f : Nat → Nat → Int} (hf : ∀ x y, -1000000000 ≤ f x y) {x : Lnk} (h : x.ok n) (p q : Nat) : -1000000000 ≤ lnkG f x p q := by
 obtain ⟨o1, o2, o3, o4, o5, o6⟩ := h
 have F : ∀ p q, -1000000000 ≤ lnkF f x p q := by
  intro p q
  unfold lnkF updI
  have := hf x.frm.toNat x.to.toNat
  have := hf p q
  split <;> omega
 unfold lnkG updI
 have := F x.to.toNat x.frm.toNat
 have := F p q
 split <;> omega
theorem lnkS_low {c : Nat} {l : List Lnk} {s : List Int} (hok : ∀ k, k < l.length → (lnkAt l k).ok c) (hs : ∀ k, k < s.length → 0 ≤ s.getD k 0 ∧ s.getD k 0 < l.length) : ∀ k, k ≤ s.length → ∀ x y, -1000000000 ≤ lnkS c l s k x y := by
 intro k
 induction k with
 | zero => intro _ x y; show -1000000000 ≤ iniC c c 0 x y; unfold iniC free6; split <;> split <;> decide
 | succ k ih =>
  intro hk x y
  rw [lnkS_succ hk]
  have := hs k hk
  exact lnkG_low (ih (by omega)) (hok _ (by omega)) x y
theorem low_linksS {c : Nat} (hc : c ≤ 6) {l : List Lnk} {s : List Int} (hok : ∀ k, k < l.length → (lnkAt l k).ok c) (hs : ∀ k, k < s.length → 0 ≤ s.getD k 0 ∧ s.getD k 0 < l.length) : lowZ free6 (lnkS c l s s.length) c := by
 intro k i j x y hk _ _ _ _
 have hB : (0 : Int) ≤ 1000000000 := by decide
 have h0 := kZ_low (z := free6) hB (lnkS_low hok hs s.length (Nat.le_refl _)) c k
 have hp : (0 : Int) ≤ 6 ^ k * 1000000000 := Int.mul_nonneg (Int.le_of_lt (Int.pow_pos (by decide))) hB
 have h1 := jZ_low (z := free6) hp h0 c k i j x y
 rcases (by omega : k = 0 ∨ k = 1 ∨ k = 2 ∨ k = 3 ∨ k = 4 ∨ k = 5) with rfl | rfl | rfl | rfl | rfl | rfl <;> simp at h1 <;> omega
def clF (l : List Lnk) (s : List Int) (c : Nat) : Nat → Nat → Int := kZ free6 (lnkS c l s s.length) c c
def clO (l : List Lnk) (s : List Int) (c : Nat) : Bool := (List.range c).all fun i => decide (0 ≤ clF l s c i i)
def clOk (c : Nat) (l : List Lnk) (s : List Int) : Prop := (1 ≤ c ∧ c ≤ 6) ∧ (l.length ≤ 12 ∧ s.length ≤ 1000) ∧ (∀ k, k < l.length → (lnkAt l k).ok c) ∧ ∀ k, k < s.length → 0 ≤ s.getD k 0 ∧ s.getD k 0 < l.length
theorem clO_true {l : List Lnk} {s : List Int} {n : Nat} : clO l s n = true ↔ ∀ i, i < n → 0 ≤ clF l s n i i := by
 unfold clO; simp [List.all_eq_true]
theorem clO_false {l : List Lnk} {s : List Int} {n : Nat} (h : ∃ i, i < n ∧ clF l s n i i < 0) : clO l s n = false := by
 obtain ⟨i, hi, hn⟩ := h
 cases e : clO l s n
 ·rfl
 ·have := clO_true.1 e i hi; omega
@[reducible] def cvs36 (f : Nat → Nat → Int) : List CV := (List.range 36).map fun q => .v (.int .i64 (f (q / 6) (q % 6)))
theorem cvs36_rel {w : World} {N : Nat → Prop} (f : Nat → Nat → Int) : All2 (RelF w N) (cvs36 f) (cells36 f) := by
 unfold cvs36 cells36
 generalize List.range 36 = L
 induction L with
 | nil => trivial
 | cons q L ih => exact ⟨⟨rfl, rfl⟩, ih⟩
def con_Closed : Con := fun args => match args with
 | [.t (.a [.sl 1 n_cs c_cs, .sl 4 n_ls c_ls]), .t (.c (.sl 1 n_s c_s))] => some (.tu [.a (cvs36 (clF (listC n_ls mkLnk c_ls) (listC n_s mkInt c_s) n_cs)), .c (.v (.bool (clO (listC n_ls mkLnk c_ls) (listC n_s mkInt c_s) n_cs)))], some (numsP 4 n_ls c_ls ∧ numsP 1 n_s c_s ∧ clOk n_cs (listC n_ls mkLnk c_ls) (listC n_s mkInt c_s)), Fre.no)
 | _ => none
theorem ok_Closed : Ok Try.prog 75 con_Closed := by
 intro args r pre fresh h hp
 unfold con_Closed at h
 split at h
 ·rename_i n_cs c_cs n_ls c_ls n_s c_s
  cases h
  obtain ⟨hp0, hp1, hp⟩ := hp
  refine ⟨Enters.of (fn := Try.f75) (by kernel_rfl) (by kernel_rfl) (by kernel_rfl), fun W N vs hG hv => ?_⟩
  have hv : All2 (RelD (RelF W N)) [.t (.a [.sl 1 n_cs c_cs, .sl 4 n_ls c_ls]), .t (.c (.sl 1 n_s c_s))] vs := hv
  obtain ⟨v0, us0, rfl, r0, hv0⟩ := hv.cons_inv
  obtain ⟨v1, us1, rfl, r1, hv1⟩ := hv0.cons_inv
  obtain rfl := hv1.nil_inv
  obtain ⟨ws, rfl, r0⟩ := r0
  obtain ⟨x0, ws0, rfl, y0, r0⟩ := r0.cons_inv
  obtain ⟨x1, ws1, rfl, y1, r0⟩ := r0.cons_inv
  obtain rfl := r0.nil_inv
  have h1 : RelF W N (.sl 4 (listC n_ls mkLnk c_ls).length (lnksC (listC n_ls mkLnk c_ls))) x1 := leL_Lnk hp0 W N x1 y1
  have h2 : RelF W N (.sl 1 (listC n_s mkInt c_s).length (intsC (listC n_s mkInt c_s))) v1 := leL_int hp1 W N v1 r1
  generalize listC n_ls mkLnk c_ls = L at *
  generalize listC n_s mkInt c_s = S at *
  obtain ⟨aoC, capC, rfl, _⟩ := y0
  obtain ⟨ao, cap, rfl, hcap, hmx, hnil, hcells⟩ := h1
  obtain ⟨ao2, cap2, rfl, hcap2, hmx2, hnil2, hcells2⟩ := h2
  obtain ⟨⟨hn1, hn2⟩, ⟨hl, hsl⟩, hok, hs⟩ := hp
  refine (walk_Closed W n_cs ⟨hn1, hn2⟩ aoC capC L ao cap S ao2 cap2 (by omega) hsl hs hok ?_ (low_linksS hn2 hok hs) ?_).mono ?_
  ·intro k hk
   obtain ⟨b, off, e1, e2, e3, e4⟩ := hcells (by omega)
   obtain ⟨x0, a0, b0⟩ := e4 k 0 hk (by omega)
   obtain ⟨x1, a1, b1⟩ := e4 k 1 hk (by omega)
   obtain ⟨x2, a2, b2⟩ := e4 k 2 hk (by omega)
   obtain ⟨x3, a3, b3⟩ := e4 k 3 hk (by omega)
   obtain ⟨rfl, _⟩ := b0
   obtain ⟨rfl, _⟩ := b1
   obtain ⟨rfl, _⟩ := b2
   obtain ⟨rfl, _⟩ := b3
   exact ⟨b, off, e1, e2, a0, a1, a2, a3⟩
  ·intro k hk
   obtain ⟨b, off, e1, e2, e3, e4⟩ := hcells2 (by omega)
   obtain ⟨x0, a0, b0⟩ := e4 k 0 hk (by omega)
   obtain ⟨rfl, _⟩ := b0
   rw [show off + k * 1 + 0 = off + k by omega] at a0
   exact ⟨b, off, e1, e2, a0⟩
  ·rintro e w' ⟨hb, ⟨hex, rfl⟩ | ⟨hall, rfl⟩⟩
   ·refine ⟨_, rfl, ?_, hb⟩
    simp only [RetOk]
    rw [clO_false (l := L) (s := S) (n := n_cs) hex]
    exact ⟨[_, _], rfl, ⟨_, rfl, cvs36_rel _⟩, ⟨rfl, rfl⟩, trivial⟩
   ·refine ⟨_, rfl, ?_, hb⟩
    simp only [RetOk]
    rw [clO_true.2 (show ∀ i, i < n_cs → 0 ≤ clF L S n_cs i i from hall)]
    exact ⟨[_, _], rfl, ⟨_, rfl, cvs36_rel _⟩, ⟨rfl, rfl⟩, trivial⟩
 ·cases h
end Go.Proofs.Ytkifmfmenobhnaa