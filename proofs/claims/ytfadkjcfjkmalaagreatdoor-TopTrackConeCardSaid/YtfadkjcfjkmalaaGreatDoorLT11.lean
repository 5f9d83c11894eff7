/- Texts of this claim, together. -/
import Derived.RangeFuncLeaves
import Derived.OwnWalkIn
import Derived.TacticsInMore
import Derived.LoopNIn
import Derived.LoopIn
import Derived.Test.YtfadkjcfjkmalaaGreatDoorLT10
import Derived.Lib.AtoiAllCases
import Derived.Laws.BytesArg
import Derived.Test.YtfadkjcfjkmalaaGreatDoorLT8

set_option maxRecDepth 100000
set_option linter.unusedVariables false
set_option linter.unusedSimpArgs false
namespace Go.Proofs.YtfadkjcfjkmalaaGreatDoor
open Go.RowKit Ev
def remC (c : UInt8) (l : List UInt8) : Nat → List UInt8
 | 0 => l
 | i + 1 => aftC c (remC c l i)
theorem rem_pcs (c : UInt8) (l : List UInt8) : ∀ i, i < (pcs c l).length → (pcs c (remC c l i)).length + i = (pcs c l).length
 | 0, _ => rfl
 | i + 1, h => by
  have ih := rem_pcs c l i (by omega)
  have e := q5W c (remC c l i)
  by_cases hh : hasC c (remC c l i) = true
  ·rw [if_pos hh] at e
   rw [e, List.length_cons] at ih
   show (pcs c (aftC c (remC c l i))).length + (i + 1) = _
   omega
  ·rw [if_neg hh] at e
   rw [e, List.length_singleton] at ih
   omega
theorem q8h {c : UInt8} {l : List UInt8} {i : Nat} (h : i < (pcs c l).length) : hasC c (remC c l i) = true ↔ i + 1 < (pcs c l).length := by
 have ih := rem_pcs c l i h
 have e := q5W c (remC c l i)
 by_cases hh : hasC c (remC c l i) = true
 ·rw [if_pos hh] at e
  rw [e, List.length_cons] at ih
  have := List.length_pos_iff.2 (q8H c (aftC c (remC c l i)))
  exact ⟨fun _ => by omega, fun _ => hh⟩
 ·rw [if_neg hh] at e
  rw [e, List.length_singleton] at ih
  exact ⟨fun h => absurd h hh, fun _ => by omega⟩
theorem rem_len (c : UInt8) (l : List UInt8) : ∀ i, (remC c l i).length ≤ l.length
 | 0 => Nat.le_refl _
 | i + 1 => by
  have := rem_len c l i
  show (aftC c (remC c l i)).length ≤ _
  unfold aftC
  have h1 := (List.dropWhile_sublist (l := remC c l i) (· != c)).length_le
  rw [List.length_drop]
  omega
theorem rem_at {c : UInt8} {l : List UInt8} {i : Nat} (h : i < (pcs c l).length) : (pcs c l).drop i = pcs c (remC c l i) := by
 induction i with
 | zero => rfl
 | succ i ih =>
  have hi := ih (by omega)
  have hh := (q8h (show i < (pcs c l).length by omega)).2 h
  rw [← List.drop_drop, hi, q5W c (remC c l i), if_pos hh]
  rfl
theorem qkd (c : UInt8) (l : List UInt8) : cutA (ofL l) ⟨#[c]⟩ = ofL (if hasC c l = true then befC c l else l) := by
 unfold cutA
 rw [q0U, show (⟨#[c]⟩ : ByteArray).data.toList = [c] from rfl, qhH]
 split <;> rfl
theorem qke (c : UInt8) (l : List UInt8) : cutZ (ofL l) ⟨#[c]⟩ = ofL (if hasC c l = true then aftC c l else []) := by
 unfold cutZ
 rw [q0U, show (⟨#[c]⟩ : ByteArray).data.toList = [c] from rfl, qhH]
 split <;> rfl
theorem qfs (c : UInt8) (l : List UInt8) : cutH (ofL l) ⟨#[c]⟩ = hasC c l := by
 unfold cutH
 rw [q0U, show (⟨#[c]⟩ : ByteArray).data.toList = [c] from rfl, qhH]
 split
 ·rename_i h; rw [h]
 ·rename_i h; simpa using h
def strAt (w : World) (B : Nat) : Nat := match w.cell? ⟨B, 0, none⟩ with
 | some (.string s) => s.size
 | _ => 0
theorem qkf {w : World} {B : Nat} {s : ByteArray} {ty : TypeId} {p : Nat × Nat} (h : w.heap[B]? = some (.cells #[.string s] ty p)) : strAt w B = s.size := by
 unfold strAt World.cell?
 simp [h]
theorem ext_take (l : List UInt8) (a : Nat) : (ofL l).extract 0 a = ofL (l.take a) := by
 rw [← q3d ((ofL l).extract 0 a), Lib.extract_from_zero, q0U]
theorem qkg (l : List UInt8) (a : Nat) : (ofL l).extract a (ofL l).size = ofL (l.drop a) := by
 rw [← q3d ((ofL l).extract a (ofL l).size), Lib.extract_to_end, q0U]
theorem qkh {c : UInt8} {l : List UInt8} (h : hasC c l = true) : befC c l = l.take (befC c l).length := by
 have e := congrArg (List.take (befC c l).length) (qaB h)
 rw [List.take_left] at e
 exact e.symm
theorem qft {c : UInt8} {l : List UInt8} (h : hasC c l = true) : l.drop ((befC c l).length + 1) = aftC c l := by
 have e := congrArg (List.drop ((befC c l).length + 1)) (qaB h)
 rw [e, List.drop_append]
 simp
theorem qeU {w : World} {B : Nat} {x v : Value} {ty : TypeId} {p : Nat × Nat} (h : w.heap[B]? = some (.cells #[x] ty p)) : w.setCell ⟨B, 0, none⟩ v = w.setRow B #[v] := by
 unfold World.setCell World.setRow
 congr 1
 apply Array.ext_getElem?
 intro i
 rw [Array.getElem?_modify, Array.getElem?_modify]
 by_cases e : B = i
 ·subst e
  simp [h]
 ·simp [e]
set_option maxHeartbeats 4000000 in
theorem seq_split (w : World) (N : Nat → Prop) (us vs : List Value) (B : Nat) (c : UInt8) (l : List UInt8) (hl : l.length ≤ 1000000000)
  (hu : All2 (RelF w N) [.px 1 0 (fun _ => .v (.string ⟨#[c]⟩))] us) (hv : All2 (RelF w N) [.px 1 0 (fun _ => .v (.int .i64 0))] vs) (hB : w.heap[B]? = some (.cells #[.string (ofL l)] 9 (0, 0))) (hNB : ¬ N B) :
  SeqItM Tryz.prog 108 #[] (us ++ .pointer (some ⟨B, 0, none⟩) :: vs).toArray B 9 (fun i => .string (ofL (remC c l i))) (pcs c l).length (fun i => #[.string (cutA (ofL (remC c l i)) ⟨#[c]⟩)]) N w := by
 intro ly J Jb Jx W hb hJ hJb hJx hgJ hgB hgX hc hcb hY hnext h0
 refine callsIn_of_wp Tryz.func108 rfl trivial ?_ rfl
 obtain ⟨v0, us0, rfl, r0, hu0⟩ := hu.cons_inv
 obtain rfl := hu0.nil_inv
 obtain ⟨v2, vs0, rfl, r2, hv0⟩ := hv.cons_inv
 obtain rfl := hv0.nil_inv
 obtain ⟨b0, o0, rfl, hb0, hN0, hc0⟩ := r0
 obtain ⟨b2, o2, rfl, hb2, hN2, hc2⟩ := r2
 obtain ⟨x0, hx0, rfl, _⟩ := hc0 0 (by omega)
 obtain ⟨x2, hx2, rfl, _⟩ := hc2 0 (by omega)
 rw [Nat.add_zero] at hx0 hx2
 simp only [Nat.add_zero]
 simp only [Tryz.ntmps108, List.size_toArray, List.length_cons, List.length_nil, Nat.reduceAdd, Nat.reduceSub, Array.replicate_succ, Array.replicate_zero, List.push_toArray, List.append_toArray, List.nil_append, List.cons_append]
 have hW := hb.size
 have cell0 : ∀ wr : World, (∀ b, b < w.heap.size → N b → wr.heap[b]? = W.heap[b]?) → wr.cell? ⟨b0, o0, none⟩ = some (.string ⟨#[c]⟩) := fun wr h => (World.cell?_of_block (w := w) (a := ⟨b0, o0, none⟩) ((h b0 hb0 hN0).trans (hb.block b0 hb0))).trans hx0
 have cell2 : ∀ wr : World, (∀ b, b < w.heap.size → N b → wr.heap[b]? = W.heap[b]?) → wr.cell? ⟨b2, o2, none⟩ = some (.int .i64 0) := fun wr h => (World.cell?_of_block (w := w) (a := ⟨b2, o2, none⟩) ((h b2 hb2 hN2).trans (hb.block b2 hb2))).trans hx2
 have cellW := cell0 W (fun _ _ _ => rfl)
 have HC0 := hid cell0
 have HC2 := hid cell2
 have HY := hid hY
 have HJ := hid hJ
 have HG := hid hgJ
 have HCC := hid hc
 have HCB2 := hid hcb
 have HNX := hid hnext
 have HL := hid hl
 clear cell0 cell2 hY hl hJ hJb hgJ hgB hgX hJx hc0 hc2 hu hv hu0 hv0 hc hcb hnext hx0 hx2 hB
 gi_wp2
 gi_loopw [7] (fun iv wr => ∃ k : Nat, k < (pcs c l).length ∧ J k wr ∧ W.heap.size ≤ wr.heap.size ∧ Hid (∀ b, b < w.heap.size → N b → wr.heap[b]? = W.heap[b]?)) (fun _ wr => strAt wr B)
 case atStart => exact ⟨0, List.length_pos_iff.2 (q8H c l), h0, Nat.le_refl _, hid fun b hb0 _ => rfl⟩
 case round =>
  obtain ⟨k, hk, hJs, hsz, HK⟩ := hrel
  have hcB := HCC.out k wr hJs
  have cB : wr.cell? ⟨B, 0, none⟩ = some (.string (ofL (remC c l k))) := by simp [World.cell?, hcB]
  have c0 := HC0.out wr HK.out
  have c2 := HC2.out wr HK.out
  obtain ⟨mx, hmx⟩ := (HG.out k wr hJs).2.len
  have hr9 : (remC c l k).length ≤ 1000000000 := Nat.le_trans (rem_len c l k) HL.out
  have HIX := hid (Tryz.strings_Index (ofL (remC c l k)) ⟨#[c]⟩ mx wr (by rw [q1q]; omega) hmx)
  have hst : strAt wr B = (remC c l k).length := by rw [qkf hcB, q1q]
  have HST := hid hst
  have HCB := hid hcB
  clear hmx hst hcB
  rw [q0U, show (⟨#[c]⟩ : ByteArray).data.toList = [c] from rfl] at HIX
  have hcA := qkd c (remC c l k)
  have HRM := hid (q8h hk)
  have hnx : remC c l (k + 1) = aftC c (remC c l k) := rfl
  have HRN := hid hnx
  clear hnx
  obtain ⟨fn, tmps, assign, body, hy, hR⟩ := HY.out k wr hk hJs
  have HK2 := hid hk
  clear hk
  generalize hr : remC c l k = r at HIX HST HCB HRM HRN hy hR cB hcA hr9
  have HR := hid hr
  clear hr
  rcases qdN c r with ⟨h1, h2⟩ | ⟨h2, h1⟩
  ·rw [h2, if_neg (by simp)] at hcA
   rw [h1] at HIX
   have hkn : k + 1 = (pcs c l).length := by
    have h3 := HK2.out
    rcases Nat.lt_or_ge (k + 1) (pcs c l).length with h | h
    ·have := (HRM.out).2 h; rw [h2] at this; cases this
    ·omega
   have HKN := hid hkn
   rw [hcA] at hy
   clear h1 h2 hcA hkn
   gi_wp2
   refine ⟨trivial, rfl, callsIn_wide.2 (HIX.out.mono ?_)⟩
   rintro _ w1 ⟨rfl, rfl⟩
   gi_wp2
   refine ⟨rfl, hR.mono ?_⟩
   rintro e W3 (⟨rfl, hJ3, ⟨hs3, hk3⟩, _⟩ | ⟨rfl, hJx3⟩)
   ·gi_wp2
    go_end0
    refine ⟨⟨_, rfl⟩, .inl ?_⟩
    rw [← HKN.out]
    exact hJ3
   ·gi_wp2
    go_end0
    exact ⟨⟨_, rfl⟩, .inr hJx3⟩
  ·rw [h2, if_pos rfl] at hcA
   rw [h1] at HIX
   have he := qaB h2
   obtain ⟨m, hm⟩ : ∃ m, m = (befC c r).length := ⟨_, rfl⟩
   rw [← hm] at HIX
   have HM := hid hm
   have hrl : m + 1 + (aftC c r).length = r.length := by
    have := congrArg List.length he
    rw [List.length_append, List.length_cons] at this
    omega
   have HRL := hid hrl
   have HE := hid he
   have HCA := hid hcA
   have HH := hid h2
   clear hm he hcA h2 h1 hrl
   gi_wp2
   refine ⟨trivial, rfl, callsIn_wide.2 (HIX.out.mono ?_)⟩
   rintro _ w1 ⟨rfl, rfl⟩
   have hm9 : m + 1 ≤ 1000000000 := by have := HRL.out; omega
   have hw : wrap64 (m : Int) = m := IntWalk.wrap64_in _ (by omega)
   have hmr : m ≤ (ofL r).size := by rw [q1q]; have := HRL.out; omega
   have hx : cutA (ofL r) ⟨#[c]⟩ = (ofL r).extract 0 m := by rw [HCA.out, HM.out, ext_take, ← qkh HH.out]
   rw [hx] at hy
   have hx2 : (ofL r).extract (m + 1) (ofL r).size = ofL (remC c l (k + 1)) := by rw [HRN.out, HM.out, qkg, qft HH.out]
   have HX2 := hid hx2
   have hw1 : wrap64 ((m : Int) + 1) = (m : Int) + 1 := IntWalk.wrap64_in _ (by omega)
   have hmr1 : m + 1 ≤ (ofL r).size := by rw [q1q]; have := HRL.out; omega
   clear hx hx2
   gi_wp2
   refine ⟨rfl, hR.mono ?_⟩
   rintro e W3 (⟨rfl, hJ3, ⟨hs3, hk3⟩, _⟩ | ⟨rfl, hJx3⟩)
   ·have hb3 := HCB2.out k W3 hJ3
    rw [HR.out] at hb3
    have d1 : W3.cell? ⟨B, 0, none⟩ = some (.string (ofL r)) := by simp [World.cell?, hb3]
    have d2 : W3.frozen? ⟨B, 0, none⟩ = false := by simp [World.frozen?, hb3]
    have hkW : ∀ b, b < w.heap.size → N b → W3.heap[b]? = W.heap[b]? := fun b h1 h2 => (hk3 b h1 h2).trans (HK.out b h1 h2)
    have d0 := HC0.out W3 hkW
    have HB3 := hid hb3
    have HKW := hid hkW
    have HS3 := hid hs3
    clear hb3 hkW hk3 hs3
    gi_wp2
    go_roundw
    case rel =>
     have e1 := (HRM.out).1 HH.out
     have e2 := HNX.out k W3 e1 hJ3
     rw [← qeU HB3.out, ← HX2.out] at e2
     refine ⟨k + 1, e1, e2, ?_, hid fun b h1 h2 => ?_⟩
     ·have := HS3.out
      rw [World.size_setCell]
      omega
     ·rw [Below.heap_setCell _ _ _ _ (fun e => hNB (by have e : b = B := e; rw [← e]; exact h2)), HKW.out b h1 h2]
    case measure =>
     have e3 : (W3.setCell ⟨B, 0, none⟩ (Value.string ((ofL r).extract (m + 1) (ofL r).size))).heap[B]? = some (.cells #[Value.string ((ofL r).extract (m + 1) (ofL r).size)] 9 (0, 0)) := by
      rw [qeU HB3.out]; exact setRow_heap _ _ _ _ _ _ HB3.out
     rw [qkf e3, HST.out, HX2.out, HRN.out, q1q]
     exact aft_len HH.out
   ·gi_wp2
    refine bodyPost_ret (results_none rfl _ _ _) rfl ?_
    exact ⟨⟨_, rfl⟩, .inr hJx3⟩
theorem qj0 (W : World) (s p : ByteArray) : Calls Tryz.prog 38 #[.string s, .string p] W fun e w' => e = .returned (.func (.func 108) #[] #[.pointer (some ⟨W.heap.size + 1, 0, none⟩), .pointer (some ⟨W.heap.size, 0, none⟩), .pointer (some ⟨W.heap.size + 2, 0, none⟩)]) ∧ w' = ((W.alloc (.cells #[.string s] 9)).alloc (.cells #[.string p] 9)).alloc (.cells #[.int .i64 0] 3) := by
 go_enter Tryz.func38, Tryz.ntmps38
 go_wp2
 go_ret
 exact ⟨rfl, rfl⟩
def q8J : Con := fun args => match args with
 | [.t (.c (.v (.string s))), .t (.c (.v (.string p)))] => some (.t (.fn 108 [.px 1 0 (fun _ => .v (.string p)), .p 0 0, .px 1 0 (fun _ => .v (.int .i64 0))]), none, .clo 9 [.v (.string s)])
 | _ => none
theorem qkX : Ok Tryz.prog 38 q8J := by
 intro args r pre fresh h hp
 unfold q8J at h
 split at h
 ·rename_i s p
  cases h
  refine ⟨Enters.of (fn := Tryz.f38) (by kernel_rfl) (by kernel_rfl) (by kernel_rfl), fun W N vs hG hv => ?_⟩
  have hv : All2 (RelD (RelF W N)) [.t (.c (.v (.string s))), .t (.c (.v (.string p)))] vs := hv
  obtain ⟨u0, ws0, rfl, g0, hv0⟩ := hv.cons_inv
  obtain ⟨u1, ws1, rfl, g1, hv1⟩ := hv0.cons_inv
  obtain rfl := hv1.nil_inv
  obtain rfl : u0 = .string s := g0.1
  obtain rfl : u1 = .string p := g1.1
  refine (qj0 W s p).mono ?_
  rintro e w' ⟨rfl, rfl⟩
  obtain ⟨W1, hW1⟩ : ∃ W1, W1 = W.alloc (.cells #[.string s] 9) := ⟨_, rfl⟩
  obtain ⟨W2, hW2⟩ : ∃ W2, W2 = W1.alloc (.cells #[.string p] 9) := ⟨_, rfl⟩
  obtain ⟨W3, hW3⟩ : ∃ W3, W3 = W2.alloc (.cells #[.int .i64 0] 3) := ⟨_, rfl⟩
  rw [← hW1, ← hW2, ← hW3]
  have s1 : W1.heap.size = W.heap.size + 1 := by rw [hW1]; simp
  have s2 : W2.heap.size = W.heap.size + 2 := by rw [hW2]; simp [s1]
  have s3 : W3.heap.size = W.heap.size + 3 := by rw [hW3]; simp [s2]
  have b1 : W1.heap[W.heap.size]? = some (.cells #[.string s] 9) := by rw [hW1]; exact World.alloc_heap_new W _
  have b2 : W2.heap[W.heap.size + 1]? = some (.cells #[.string p] 9) := by rw [hW2, ← s1]; exact World.alloc_heap_new W1 _
  have b3 : W3.heap[W.heap.size + 2]? = some (.cells #[.int .i64 0] 3) := by rw [hW3, ← s2]; exact World.alloc_heap_new W2 _
  have b1' : W3.heap[W.heap.size]? = some (.cells #[.string s] 9) := by rw [hW3, Below.heap_alloc _ _ _ (by omega), hW2, Below.heap_alloc _ _ _ (by omega)]; exact b1
  have b2' : W3.heap[W.heap.size + 1]? = some (.cells #[.string p] 9) := by rw [hW3, Below.heap_alloc _ _ _ (by omega)]; exact b2
  have hbl : Below W.heap.size W W3 := by
   rw [hW3, hW2, hW1]
   exact (((Below.refl _ _).alloc (Nat.le_refl _) _).alloc (by simp) _).alloc (by simp; omega) _
  refine ⟨_, rfl, ⟨W.heap.size, _, Nat.le_refl _, b1', ⟨⟨rfl, rfl⟩, trivial⟩, ⟨_, rfl, ?_, ⟨W.heap.size, rfl, rfl⟩, ?_, trivial⟩⟩, hbl⟩
  ·refine ⟨W.heap.size + 1, 0, rfl, by omega, ⟨by omega, by omega⟩, fun j hj => ⟨.string p, ?_, rfl, rfl⟩⟩
   obtain rfl : j = 0 := by omega
   simp [World.cell?, b2']
  ·refine ⟨W.heap.size + 2, 0, rfl, by omega, ⟨by omega, by omega⟩, fun j hj => ⟨.int .i64 0, ?_, rfl, rfl⟩⟩
   obtain rfl : j = 0 := by omega
   simp [World.cell?, b3]
 ·cases h
def sepP (x : CV) : Prop := ∃ c, x = .v (.string ⟨#[c]⟩)
def qfu : ItC := fun l => match l with
 | [.px 1 0 c1, .px 1 0 c2, .px 1 0 c3] => some ⟨1, 1, fun _ => [.c (.v (.string (cutA (q1V (c2 0)) (q1V (c1 0)))))], some (sepP (c1 0) ∧ c2 0 = .v (.string (q1V (c2 0))) ∧ (q1V (c2 0)).size ≤ 1000000000 ∧ c3 0 = .v (.int .i64 0)), false, none, some ⟨1, 9, cutH (q1V (c2 0)) (q1V (c1 0)), .string (cutZ (q1V (c2 0)) (q1V (c1 0)))⟩⟩
 | _ => none
theorem qmx : OkItM Tryz.prog 108 qfu := by
 intro l R h hp
 unfold qfu at h
 split at h
 rotate_left
 ·cases h
 rename_i c1 c2 c3
 cases h
 obtain ⟨⟨c, h1⟩, h2, h3, h4⟩ := hp
 refine ⟨Enters.of (fn := Tryz.f108) (by kernel_rfl) (by kernel_rfl) (by kernel_rfl), _, rfl, fun x a l' ha he => ?_⟩
 have ha : a.length = 1 := ha
 obtain ⟨y, rfl⟩ : ∃ y, a = [y] := by
  match a, ha with
  | [y], _ => exact ⟨y, rfl⟩
 simp only [List.cons_append, List.nil_append, List.cons.injEq, CV.px.injEq, true_and] at he
 obtain ⟨rfl, rfl, rfl⟩ := he
 have h2 : CV.v x = .v (.string (q1V (.v x))) := h2
 obtain ⟨s, rfl⟩ : ∃ s, x = .string s := ⟨_, by injection h2⟩
 have h3 : s.size ≤ 1000000000 := h3
 have hl : s.data.toList.length ≤ 1000000000 := by rw [q4d]; exact h3
 have hs : ofL s.data.toList = s := q3d s
 refine ⟨(pcs c s.data.toList).length, fun i => .string (ofL (remC c s.data.toList i)), fun i => [.c (.v (.string (cutA (ofL (remC c s.data.toList i)) ⟨#[c]⟩)))], List.length_pos_iff.2 (q8H _ _), by rw [← hs]; rfl, fun i hi => ?_, fun w N us vs B hB hNB hu hv => ?_⟩
 ·have e1 : q1V (c1 0) = ⟨#[c]⟩ := by rw [h1]; rfl
  refine ⟨_, _, rfl, rfl, rfl, rfl, ⟨rfl, rfl⟩, ?_, rfl, fun w N => ⟨⟨rfl, rfl⟩, trivial⟩, fun hm => ?_, fun hm => ?_⟩
  ·show [TV.c (.v (.string (cutA (ofL (remC c s.data.toList i)) (q1V (c1 0)))))] = _
   rw [e1]
  ·have hm : cutH (ofL (remC c s.data.toList i)) (q1V (c1 0)) = true := hm
   rw [e1, qfs] at hm
   refine ⟨(q8h hi).1 hm, ?_, rfl⟩
   show Value.string (cutZ (ofL (remC c s.data.toList i)) (q1V (c1 0))) = _
   rw [e1, qke, if_pos hm]
   rfl
  ·have hm : cutH (ofL (remC c s.data.toList i)) (q1V (c1 0)) = false := hm
   rw [e1, qfs] at hm
   have := q8h hi
   rw [hm] at this
   have : ¬ i + 1 < (pcs c s.data.toList).length := fun h => by have := this.2 h; cases this
   omega
 ·have hu : All2 (RelF w N) [.px 1 0 (fun _ => .v (.string ⟨#[c]⟩))] us := by
   obtain ⟨v0, us0, rfl, r0, hu0⟩ := hu.cons_inv
   exact ⟨RelF.px_eq (fun j hj => by obtain rfl : j = 0 := (by omega); exact h1) r0, hu0⟩
  have hv : All2 (RelF w N) [.px 1 0 (fun _ => .v (.int .i64 0))] vs := by
   obtain ⟨v0, us0, rfl, r0, hu0⟩ := hv.cons_inv
   exact ⟨RelF.px_eq (fun j hj => by obtain rfl : j = 0 := (by omega); exact h4) r0, hu0⟩
  rw [← hs] at hB
  exact seq_split w N us vs B c s.data.toList hl hu hv hB hNB
theorem beq_txt (a b : ByteArray) : (a.toList == b.toList) = decide (a = b) := by
 rw [← beq_toListBytes]
 by_cases h : a = b
 ·subst h; simp
 ·rw [decide_eq_false h]; exact beq_eq_false_iff_ne.2 h
theorem ofL_eq {l m : List UInt8} : ofL l = ofL m ↔ l = m := ⟨ofL_inj, fun h => by rw [h]⟩
def wAt (c : UInt8) (s : ByteArray) (i : Nat) : List UInt8 := (pcs c s.data.toList).getD i []
def nPc (c : UInt8) (s : ByteArray) : Nat := (pcs c s.data.toList).length
def goodW (s : ByteArray) (dg sg i : Nat) : Bool := match numR (wAt 32 s i) dg with
 | some v => !(decide (v < 0) && decide (i < sg))
 | none => false
def valW (s : ByteArray) (dg i : Nat) : Int := (numR (wAt 32 s i) dg).getD 0
def allW (s : ByteArray) (dg sg : Nat) : Bool := (List.range (nPc 32 s)).all (goodW s dg sg)
def okW (s : ByteArray) (cnt dg sg : Nat) : Bool := allW s dg sg && Nat.beq (nPc 32 s) cnt
theorem nPc_le (c : UInt8) (s : ByteArray) : nPc c s ≤ s.size + 1 := by
 unfold nPc
 rw [pcs_len, ← q4d]
 have := List.count_le_length (a := c) (l := s.data.toList)
 omega
theorem rem_head {c : UInt8} {s : ByteArray} {i : Nat} (h : i < nPc c s) : (if hasC c (remC c s.data.toList i) = true then befC c (remC c s.data.toList i) else remC c s.data.toList i) = wAt c s i := by
 have e := rem_at (c := c) (l := s.data.toList) h
 have g : wAt c s i = ((pcs c s.data.toList).drop i).head?.getD [] := by
  unfold wAt
  rw [List.head?_drop]
  simp [List.getD]
 rw [g, e, q5W c (remC c s.data.toList i)]
 split <;> rfl
theorem cutA_rem {c : UInt8} {s : ByteArray} {i : Nat} (h : i < nPc c s) : cutA (ofL (remC c s.data.toList i)) ⟨#[c]⟩ = ofL (wAt c s i) := by
 rw [qkd, rem_head h]
theorem cutH_rem {c : UInt8} {s : ByteArray} {i : Nat} (h : i < nPc c s) : cutH (ofL (remC c s.data.toList i)) ⟨#[c]⟩ = decide (i + 1 < nPc c s) := by
 rw [qfs]
 have := q8h h
 unfold nPc
 by_cases g : i + 1 < (pcs c s.data.toList).length
 ·rw [decide_eq_true g]; exact this.2 g
 ·rw [decide_eq_false g]
  cases e : hasC c (remC c s.data.toList i)
  ·rfl
  ·exact absurd (this.1 e) g
theorem cutZ_rem {c : UInt8} {s : ByteArray} {i : Nat} (h : i + 1 < nPc c s) : cutZ (ofL (remC c s.data.toList i)) ⟨#[c]⟩ = ofL (remC c s.data.toList (i + 1)) := by
 have := (q8h (c := c) (l := s.data.toList) (i := i) (by unfold nPc at h; omega)).2 h
 rw [qke, if_pos this]
 rfl
theorem qhI {c : UInt8} {s : ByteArray} {i : Nat} : (wAt c s i).length ≤ s.size := by
 by_cases h : i < nPc c s
 ·unfold wAt
  rw [← q4d]
  refine pcs_part (c := c) ?_
  have h : i < (pcs c s.data.toList).length := h
  have e : (pcs c s.data.toList).getD i [] = (pcs c s.data.toList)[i] := by simp [List.getD, h]
  rw [e]
  exact List.getElem_mem h
 ·unfold wAt
  unfold nPc at h
  simp [List.getD, List.getElem?_eq_none (Nat.le_of_not_lt h)]
theorem q4e {w : List UInt8} (h : atoB (ofL w) = true) : -9223372036854775808 ≤ atoV (ofL w) ∧ atoV (ofL w) ≤ 9223372036854775807 := by
 unfold atoB at h
 unfold atoV
 split at h
 ·rename_i v e
  rw [e]
  exact Lib.atoiAll_bounds e
 ·cases h
theorem test_w (w : List UInt8) {dg : Nat} (h : dg ≤ 17) : (bif atoB (ofL w) then (bif ((q0f (atoV (ofL w))).toList == (ofL w).toList) then decide ((((q1I (ofL w) ⟨#[45]⟩).size : Nat) : Int) ≤ (dg : Int)) else false) else false) = (numR w dg).isSome ∧ ∀ v, numR w dg = some v → atoV (ofL w) = v := by
 rw [← numG_eq h]
 have e45 : (q1I (ofL w) ⟨#[45]⟩).size = (if w.head? = some 45 then w.drop 1 else w).length := by
  unfold q1I
  rw [q1q, q0U]
  rw [show (⟨#[45]⟩ : ByteArray).data.toList = [45] from rfl, trim_one]
 rw [e45]
 unfold numG atoB
 rw [q0U]
 generalize (if w.head? = some 45 then w.drop 1 else w).length = q
 cases e : Lib.atoiAll w with
 | ok v =>
  have ev : atoV (ofL w) = v := by unfold atoV; rw [q0U, e]
  rw [ev, beq_txt]
  simp only [cond_true]
  have ed : decide (q0f v = ofL w) = decide (Lib.itoa v = w) := by
   unfold q0f
   by_cases g : Lib.itoa v = w
   ·rw [decide_eq_true g, decide_eq_true (ofL_eq.2 g)]
   ·rw [decide_eq_false g, decide_eq_false (fun q => g (ofL_eq.1 q))]
  rw [ed]
  by_cases g : Lib.itoa v = w
  ·by_cases g2 : q ≤ dg
   ·rw [if_pos ⟨g, g2⟩, decide_eq_true g, decide_eq_true (by omega)]
    exact ⟨rfl, fun x hx => by injection hx⟩
   ·rw [if_neg (fun z => g2 z.2), decide_eq_true g, decide_eq_false (by omega)]
    exact ⟨rfl, fun x hx => by cases hx⟩
  ·rw [if_neg (fun z => g z.1), decide_eq_false g]
   exact ⟨rfl, fun x hx => by cases hx⟩
 | range => exact ⟨rfl, fun x hx => by cases hx⟩
 | _ => exact ⟨rfl, fun x hx => by cases hx⟩
def ttCv (t : ByteArray) : List CV := [.v (.string t)]
theorem ttg_cell (l : List ByteArray) {i j : Nat} (hi : i < (l.map ttCv).length) (hj : j < 1) : genC (l.map ttCv) i j = .v (.string (txAt l i)) := by
 obtain rfl : j = 0 := by omega
 rw [List.length_map] at hi
 simp [genC, ttCv, txAt, List.getD, hi]
theorem txP_ttg (l : List ByteArray) : txP (l.map ttCv).length (genC (l.map ttCv)) := fun i hi => by rw [ttg_cell l hi (by omega)]; rfl
theorem qgw (l : List ByteArray) : txOf (l.map ttCv).length (genC (l.map ttCv)) = l := by
 apply List.ext_getElem?
 intro i
 by_cases hi : i < l.length
 ·simp [txOf, genC, ttCv, List.getD, hi, q1V]
 ·rw [List.getElem?_eq_none (by simp [txOf]; omega), List.getElem?_eq_none (by omega)]
theorem map_snoc {α β : Type} (f : α → β) (l : List α) (x : α) : l.map f ++ [f x] = (l ++ [x]).map f := by simp
theorem qiG (l : List ByteArray) (x : ByteArray) : l.map ttCv ++ [[.v (.string x)]] = (l ++ [x]).map ttCv := by simp [ttCv]
theorem qaC : ∀ (k u : Nat), u < 10 ^ (k + 1) → (Lib.decDigits u).length ≤ k + 1
 | 0, u, h => by rw [q1J (by simpa using h)]; simp
 | k + 1, u, h => by
  by_cases g : u < 10
  ·rw [q1J g]; simp
  ·rw [q8g g, List.length_append, List.length_singleton]
   have := qaC k (u / 10) (by rw [Nat.div_lt_iff_lt_mul (by decide)]; rw [Nat.pow_succ] at h; exact h)
   omega
theorem itoa_len {n : Int} (h : -9223372036854775808 ≤ n ∧ n ≤ 9223372036854775807) : (Lib.itoa n).length ≤ 20 := by
 by_cases g : n < 0
 ·rw [q6M g, List.length_cons]
  have := qaC 18 n.natAbs (by omega)
  omega
 ·rw [q6N (by omega)]
  have := qaC 18 n.toNat (by omega)
  omega
theorem jn_len {c : UInt8} {m : Nat} : ∀ (ps : List (List UInt8)), (∀ p ∈ ps, p.length ≤ m) → (jnC c ps).length ≤ ps.length * (m + 1)
 | [], _ => by simp [jnC]
 | [p], h => by have := h p (by simp); simp [jnC]; omega
 | p :: q :: r, h => by
  have h1 := h p (by simp)
  have h2 := jn_len (c := c) (q :: r) (fun x hx => h x (by simp [hx]))
  have e : (jnC c (p :: q :: r)).length = p.length + 1 + (jnC c (q :: r)).length := by simp [jnC]; omega
  rw [e, List.length_cons, Nat.succ_mul]
  omega
theorem qd8 (l : List ByteArray) (c : UInt8) : q4V l ⟨#[c]⟩ = ofL (jnC c (l.map (·.data.toList))) := by
 unfold q4V
 rw [show (⟨#[c]⟩ : ByteArray).data.toList = [c] from rfl, jn_join]
theorem qiH (l : List ByteArray) (c : UInt8) {m : Nat} (h : ∀ t ∈ l, t.size ≤ m) : (q4V l ⟨#[c]⟩).size ≤ l.length * (m + 1) := by
 rw [qd8, q1q]
 have := jn_len (c := c) (m := m) (l.map (·.data.toList)) (fun p hp => by obtain ⟨t, ht, rfl⟩ := List.mem_map.1 hp; rw [q4d]; exact h t ht)
 rwa [List.length_map] at this
def q1c (l : List Int) : ByteArray := q4V (l.map q0f) ⟨#[32]⟩
theorem itoaB_len {n : Int} (h : -9223372036854775808 ≤ n ∧ n ≤ 9223372036854775807) : (q0f n).size ≤ 20 := by
 unfold q0f
 rw [q1q]; exact itoa_len h
theorem qbI {l : List Int} (h : ∀ i, i < l.length → -9223372036854775808 ≤ l.getD i 0 ∧ l.getD i 0 ≤ 9223372036854775807) : (q1c l).size ≤ l.length * 21 := by
 have := qiH (l.map q0f) 32 (m := 20) (fun t ht => by
  obtain ⟨n, hn, rfl⟩ := List.mem_map.1 ht
  obtain ⟨i, hi, e⟩ := List.mem_iff_getElem.1 hn
  have := h i hi
  rw [show l.getD i 0 = n by simp [List.getD, hi, e]] at this
  exact itoaB_len this)
 rwa [List.length_map] at this
theorem qiI {α : Type} (l : List α) (d : α) {k : Nat} (h : k < l.length) : l.take (k + 1) = l.take k ++ [l.getD k d] := by
 rw [List.take_add_one, List.getElem?_eq_getElem h]
 simp [List.getD, h]
theorem qki (c : UInt8) : ∀ (k : Nat) (l : List UInt8), (pcs c l).length ≤ k + 1 → Lib.splitK [c] 0 k l = pcs c l
 | 0, l, h => by
  have e := q5W c l
  by_cases g : hasC c l = true
  ·rw [if_pos g] at e
   have := List.length_pos_iff.2 (q8H c (aftC c l))
   rw [e, List.length_cons] at h
   omega
  ·rw [if_neg g] at e
   rw [e]; rfl
 | k + 1, l, h => by
  have e := q5W c l
  unfold Lib.splitK
  rcases qdN c l with ⟨h1, h2⟩ | ⟨h1, h2⟩
  ·rw [h1, if_pos (by rfl), e, if_neg (by rw [h2]; simp)]
  ·rw [if_pos h1] at e
   rw [h2, if_neg (by simp [beq_iff_eq]), e]
   have t := qkh h1
   have d := qft h1
   simp only [Int.toNat_natCast, Nat.add_zero, List.length_singleton]
   rw [← t, d, qki c k (aftC c l) (by rw [e, List.length_cons] at h; omega)]
theorem cnt_one (c : UInt8) : ∀ (n : Nat) (l : List UInt8), l.length ≤ n → Lib.countB (ofL l) ⟨#[c]⟩ + 1 = (pcs c l).length := by
 intro n
 induction n with
 | zero =>
  intro l h
  have e : l = [] := List.length_eq_zero_iff.1 (by omega)
  subst e
  rw [Lib.countB_miss _ _ (by rfl)]; rfl
 | succ n ih =>
  intro l h
  have e := q5W c l
  rcases qdN c l with ⟨h1, h2⟩ | ⟨h1, h2⟩
  ·rw [Lib.countB_miss _ _ h1, e, if_neg (by rw [h2]; simp)]; rfl
  ·rw [Lib.countB_hit (ofL l) ⟨#[c]⟩ _ (Nat.le_refl 1) h2]
   have d := qft h1
   rw [show (⟨#[c]⟩ : ByteArray).size = 1 from rfl, qkg, d, e, if_pos h1, List.length_cons]
   have := ih (aftC c l) (by have := aft_len h1; omega)
   omega
theorem qkj (c : UInt8) (l : List UInt8) : splB (ofL l) ⟨#[c]⟩ = (pcs c l).map ofL := by
 have h := Lib.splitB_data ⟨#[c]⟩ 0 (Lib.countB (ofL l) ⟨#[c]⟩) (ofL l)
 have n := cnt_one c _ l (Nat.le_refl _)
 rw [q0U, show (⟨#[c]⟩ : ByteArray).data.toList = [c] from rfl, qki c _ l (by omega)] at h
 unfold splB
 rw [← h, List.map_map]
 conv => lhs; rw [← List.map_id (Lib.splitB _ _ _ _)]
 exact List.map_congr_left fun s _ => (q3d s).symm
theorem qgx (s : ByteArray) (c : UInt8) : (splB s ⟨#[c]⟩).length = Lib.countB s ⟨#[c]⟩ + 1 := by
 have e := q3d s
 rw [← e, qkj, List.length_map, cnt_one c _ _ (Nat.le_refl _)]
def inI (n : Int) : Prop := -9223372036854775808 ≤ n ∧ n ≤ 9223372036854775807
theorem nPc_pos (c : UInt8) (s : ByteArray) : 0 < nPc c s := List.length_pos_iff.2 (q8H _ _)
open Lib (decFrom digitVal)
def cutL (s : ByteArray) (c : UInt8) : List ByteArray := (pcs c s.data.toList).map ofL
theorem qkk {s : ByteArray} {c : UInt8} : (cutL s c).length = nPc c s := by simp [cutL, nPc]
theorem q2C {s : ByteArray} {c : UInt8} {i : Nat} (h : i < nPc c s) : txAt (cutL s c) i = ofL (wAt c s i) := by
 have h : i < (pcs c s.data.toList).length := h
 simp [txAt, cutL, wAt, List.getD, h]
end Go.Proofs.YtfadkjcfjkmalaaGreatDoor
namespace Go.Proofs.YtfadkjcfjkmalaaGreatDoor
open Go.RowKit Ev
theorem hasC_no {c : UInt8} {l : List UInt8} (h : ∀ x ∈ l, x ≠ c) : hasC c l = false := by
 unfold hasC
 rw [Bool.eq_false_iff]
 intro q
 exact h c (List.contains_iff_mem.1 q) rfl
theorem qkl {c : UInt8} {l : List UInt8} (h : hasC c l = false) : ∀ x ∈ l, x ≠ c := by
 rintro x hx rfl
 unfold hasC at h
 rw [List.contains_iff_mem.2 hx] at h; cases h
theorem itoa_no {c : UInt8} (h : ¬ (48 ≤ c.toNat ∧ c.toNat ≤ 57)) (h2 : c ≠ 45) (n : Int) : hasC c (Lib.itoa n) = false := by
 refine hasC_no fun x hx => ?_
 rintro rfl
 by_cases g : n < 0
 ·rw [q6M g] at hx
  rcases List.mem_cons.1 hx with q | q
  ·exact h2 q
  ·exact h (qhG _ _ q)
 ·rw [q6N (by omega)] at hx
  exact h (qhG _ _ hx)
theorem hasC_jn {c d : UInt8} (hd : d ≠ c) : ∀ {ps : List (List UInt8)}, (∀ p ∈ ps, hasC d p = false) → hasC d (jnC c ps) = false
 | [], _ => rfl
 | [p], h => h p (by simp)
 | p :: q :: r, h => by
  have ih := hasC_jn hd (ps := q :: r) (fun x hx => h x (by simp [hx]))
  have hp := h p (by simp)
  refine hasC_no fun x hx => ?_
  have e : jnC c (p :: q :: r) = p ++ c :: jnC c (q :: r) := rfl
  rw [e, List.mem_append, List.mem_cons] at hx
  rcases hx with g | rfl | g
  ·exact qkl hp x g
  ·exact fun e => hd e.symm
  ·exact qkl ih x g
theorem qbJ (l : List Int) : (q1c l).data.toList = jnC 32 (l.map Lib.itoa) := by
 unfold q1c
 rw [qd8, q0U, List.map_map]; rfl
theorem qiJ {l : List Int} (h : l ≠ []) : pcs 32 (q1c l).data.toList = l.map Lib.itoa := by
 rw [qbJ]
 exact pcs_jn (by simpa using h) fun p hp => by
  obtain ⟨n, _, rfl⟩ := List.mem_map.1 hp
  exact itoa_no (by decide) (by decide) n
theorem words_wAt {l : List Int} (h : l ≠ []) {i : Nat} (hi : i < l.length) : wAt 32 (q1c l) i = Lib.itoa (l.getD i 0) := by
 unfold wAt
 rw [qiJ h]
 simp [List.getD, hi]
theorem num_back {v : Int} {dg : Nat} (h0 : 1 ≤ dg) (h : v.natAbs < 10 ^ dg) : numR (Lib.itoa v) dg = some v := by
 have e : dg - 1 + 1 = dg := by omega
 refine qiF ?_
 by_cases g : v < 0
 ·rw [q6M g, if_pos (by rfl)]
  have := qaC (dg - 1) v.natAbs (by rw [e]; exact h)
  show (Lib.decDigits v.natAbs).length ≤ dg
  omega
 ·rw [q6N (by omega), if_neg (qgv _)]
  have := qaC (dg - 1) v.toNat (by rw [e]; omega)
  omega
theorem four {a b c d : Int} {P : Int → Prop} (h1 : P a) (h2 : P b) (h3 : P c) (h4 : P d) : ∀ i, i < [a, b, c, d].length → P ([a, b, c, d].getD i 0) := by
 intro i hi
 have hi : i < 4 := hi
 rcases (by omega : i = 0 ∨ i = 1 ∨ i = 2 ∨ i = 3) with rfl | rfl | rfl | rfl
 ·exact h1
 ·exact h2
 ·exact h3
 ·exact h4
theorem bad_w (w : List UInt8) : (bif (!(atoB (ofL w))) then true else (bif (!(((q0f (atoV (ofL w))) : ByteArray).toList == ((ofL w) : ByteArray).toList)) then true else decide (((((q1I (ofL w) (⟨#[45]⟩)) : ByteArray).size : Nat) : Int) > (5 : Int)))) = !(numR w 5).isSome := by
 have t := (test_w w (dg := 5) (by decide)).1
 rw [← t]
 have e : decide (((((q1I (ofL w) (⟨#[45]⟩)) : ByteArray).size : Nat) : Int) > (5 : Int)) = !decide (((((q1I (ofL w) (⟨#[45]⟩)) : ByteArray).size : Nat) : Int) ≤ ((5 : Nat) : Int)) := by
  by_cases g : (((q1I (ofL w) ⟨#[45]⟩).size : Nat) : Int) ≤ ((5 : Nat) : Int)
  ·rw [decide_eq_true g, decide_eq_false (by omega)]; rfl
  ·rw [decide_eq_false g, decide_eq_true (by omega)]; rfl
 rw [e]
 have key : ∀ a b c : Bool, (bif (!a) then true else (bif (!b) then true else !c)) = !(bif a then (bif b then c else false) else false) := by decide
 exact key _ _ _
theorem val_w {s : ByteArray} {i : Nat} (h : (numR (wAt 32 s i) 5).isSome = true) : atoV (ofL (wAt 32 s i)) = valW s 5 i := by
 unfold valW
 cases e : numR (wAt 32 s i) 5 with
 | none => rw [e] at h; cases h
 | some v => exact (test_w _ (by decide)).2 v e
def okTo (s : ByteArray) (n k : Nat) : Bool := Nat.beq (nPc 32 s) n && (List.range k).all fun j => (numR (wAt 32 s j) 5).isSome
def wrC (s : ByteArray) (n i : Nat) (b : Int) : Int := if okTo s n (i + 1) = true then valW s 5 i else b
theorem qR (s : ByteArray) (n k : Nat) : okTo s n (k + 1) = (okTo s n k && (numR (wAt 32 s k) 5).isSome) := by
 unfold okTo
 rw [List.range_succ, List.all_append, Bool.and_assoc]
 simp
theorem q1L {s : ByteArray} {n : Nat} (h : nPc 32 s ≠ n) (k : Nat) : okTo s n k = false := by
 unfold okTo
 cases hb : Nat.beq (nPc 32 s) n with
 | false => rfl
 | true => exact absurd (Nat.eq_of_beq_eq_true hb) h
theorem qiK {s : ByteArray} {n : Nat} (h : nPc 32 s = n) : okTo s n 0 = true := by
 unfold okTo
 rw [h]
 simp
theorem qq {s : ByteArray} {n j k : Nat} (h : okTo s n j = false) (hj : j ≤ k) : okTo s n k = false := by
 have key : ∀ d, okTo s n (j + d) = false := fun d => by
  induction d with
  | zero => exact h
  | succ d ih => rw [← Nat.add_assoc, qR, ih]; rfl
 have := key (k - j)
 rwa [show j + (k - j) = k by omega] at this
theorem qkm {s : ByteArray} {n k : Nat} (h : nPc 32 s = n) (g : ∀ j, j < k → (numR (wAt 32 s j) 5).isSome = true) : okTo s n k = true := by
 unfold okTo
 rw [h, Bool.and_eq_true]
 exact ⟨by simp, List.all_eq_true.2 fun j hj => g j (List.mem_range.1 hj)⟩
theorem okTo_all {s : ByteArray} {n k : Nat} (h : okTo s n k = true) : nPc 32 s = n ∧ ∀ j, j < k → (numR (wAt 32 s j) 5).isSome = true := by
 unfold okTo at h
 rw [Bool.and_eq_true] at h
 exact ⟨Nat.eq_of_beq_eq_true h.1, fun j hj => List.all_eq_true.1 h.2 j (List.mem_range.2 hj)⟩
theorem qE {s : ByteArray} {n i : Nat} {b : Int} (h : okTo s n (i + 1) = false) : wrC s n i b = b := if_neg (by rw [h]; simp)
theorem qL {s : ByteArray} {n i : Nat} {b : Int} (h : okTo s n (i + 1) = true) : wrC s n i b = valW s 5 i := if_pos h
theorem q2D {s : ByteArray} {n i : Nat} {b : Int} (h : okTo s n n = true) (hi : i < n) : wrC s n i b = valW s 5 i := by
 obtain ⟨h1, h2⟩ := okTo_all h
 exact qL (qkm h1 fun j hj => h2 j (by omega))
def hitN (h : TH) : List Int := [h.p.x, h.p.y, h.p.z, h.t, h.w]
def hitW (h : TH) : ByteArray := q1c (hitN h)
def qm (l : List TH) : ByteArray := q4V (l.map hitW) ⟨#[59]⟩
def rgH (h : TH) : Prop := inI h.p.x ∧ inI h.p.y ∧ inI h.p.z ∧ inI h.t ∧ inI h.w
theorem fiv {h : TH} {P : Int → Prop} (h1 : P h.p.x) (h2 : P h.p.y) (h3 : P h.p.z) (h4 : P h.t) (h5 : P h.w) : ∀ i, i < 5 → P ((hitN h).getD i 0) := by
 intro i hi
 rcases (by omega : i = 0 ∨ i = 1 ∨ i = 2 ∨ i = 3 ∨ i = 4) with rfl | rfl | rfl | rfl | rfl
 ·exact h1
 ·exact h2
 ·exact h3
 ·exact h4
 ·exact h5
theorem in5 {h : TH} (g : rgH h) : ∀ i, i < (hitN h).length → -9223372036854775808 ≤ (hitN h).getD i 0 ∧ (hitN h).getD i 0 ≤ 9223372036854775807 := by
 obtain ⟨h1, h2, h3, h4, h5⟩ := g
 exact fiv (P := inI) h1 h2 h3 h4 h5
theorem hitW_len {h : TH} (g : rgH h) : (hitW h).size ≤ 105 := qbI (l := hitN h) (in5 g)
theorem qd9 {l : List TH} (h1 : l.length ≤ 14) (h2 : ∀ k, k < l.length → rgH (qe l k)) : (qm l).size ≤ 1484 := by
 have := qiH (l.map hitW) 59 (m := 105) (fun t ht => by
  obtain ⟨x, hx, rfl⟩ := List.mem_map.1 ht
  obtain ⟨i, hi, rfl⟩ := List.mem_iff_getElem.1 hx
  have g := h2 i hi
  rw [show qe l i = l[i] by simp [qe, List.getD, hi]] at g
  exact hitW_len g)
 rw [List.length_map] at this
 unfold qm
 omega
def qe0 (s : ByteArray) : TH := ⟨⟨valW s 5 0, valW s 5 1, valW s 5 2⟩, valW s 5 3, valW s 5 4⟩
def hitB (s : ByteArray) : Bool := okTo s 5 5
def q0X (s : ByteArray) (i : Nat) : ByteArray := ofL (wAt 59 s i)
theorem qmy {s : ByteArray} {i : Nat} : (q0X s i).size ≤ s.size := by unfold q0X; rw [q1q]; exact qhI
def hsK (s : ByteArray) (k : Nat) : List TH := (List.range k).map fun i => qe0 (q0X s i)
def synH (s : ByteArray) : Bool := (List.range (nPc 59 s)).all fun i => hitB (q0X s i)
def phE (s : ByteArray) : Int := if s.size > 60000 then 8 else if s.size = 0 then 0 else if synH s = false then 7 else ql (hsK s (nPc 59 s))
def phL (s : ByteArray) : List TH := if s.size ≠ 0 ∧ phE s = 0 then hsK s (nPc 59 s) else []
theorem hsK_len {s : ByteArray} {k : Nat} : (hsK s k).length = k := by simp [hsK]
theorem hsK_succ {s : ByteArray} {k : Nat} : hsK s (k + 1) = hsK s k ++ [qe0 (q0X s k)] := by simp [hsK, List.range_succ]
theorem synH_no {s : ByteArray} {i : Nat} (h : i < nPc 59 s) (g : hitB (q0X s i) = false) : synH s = false := by
 unfold synH
 rw [Bool.eq_false_iff]
 intro q
 have := List.all_eq_true.1 q i (List.mem_range.2 h)
 rw [g] at this; cases this
theorem qkn {s : ByteArray} (h : ∀ i, i < nPc 59 s → hitB (q0X s i) = true) : synH s = true := List.all_eq_true.2 fun i hi => h i (List.mem_range.1 hi)
theorem phE_syn {s : ByteArray} (h1 : s.size ≤ 60000) (h2 : s.size ≠ 0) (h : synH s = false) : phE s = 7 ∧ phL s = [] := by
 have e : phE s = 7 := by unfold phE; rw [if_neg (by omega), if_neg h2, if_pos h]
 exact ⟨e, if_neg (by rw [e]; simp)⟩
theorem phE_ok {s : ByteArray} (h1 : s.size ≤ 60000) (h2 : s.size ≠ 0) (h : synH s = true) : phE s = ql (hsK s (nPc 59 s)) := by
 unfold phE; rw [if_neg (by omega), if_neg h2, if_neg (by rw [h]; simp)]
theorem phL_ok {s : ByteArray} (h2 : s.size ≠ 0) (h : phE s = 0) : phL s = hsK s (nPc 59 s) := if_pos ⟨h2, h⟩
theorem phL_no {s : ByteArray} (h : phE s ≠ 0) : phL s = [] := if_neg (fun q => h q.2)
theorem qko {l : List Int} {n : Nat} (hl : l.length = n) (hn : 0 < n) (h : ∀ i, i < n → (l.getD i 0).natAbs < 10 ^ 5) : okTo (q1c l) n n = true ∧ ∀ i, i < n → valW (q1c l) 5 i = l.getD i 0 := by
 have ne : l ≠ [] := fun e => by rw [e] at hl; simp at hl; omega
 have n5 : nPc 32 (q1c l) = n := by unfold nPc; rw [qiJ ne, List.length_map]; exact hl
 have w : ∀ i, i < n → numR (wAt 32 (q1c l) i) 5 = some (l.getD i 0) := fun i hi => by
  rw [words_wAt ne (by omega)]
  exact num_back (by decide) (h i hi)
 refine ⟨qkm n5 fun j hj => by rw [w j hj]; rfl, fun i hi => ?_⟩
 unfold valW
 rw [w i hi]; rfl
theorem hit_back {h : TH} (e : h.Ok) : hitB (hitW h) = true ∧ qe0 (hitW h) = h := by
 obtain ⟨p, t, w⟩ := e
 obtain ⟨a, b, c⟩ := qn.1 p
 obtain ⟨h1, h2⟩ := qko (l := hitN h) (n := 5) rfl (by decide) (fiv (h := h) (P := fun x => x.natAbs < 10 ^ 5) (by omega) (by omega) (by omega) (by omega) (by omega))
 refine ⟨h1, ?_⟩
 unfold qe0 hitW
 rw [h2 0 (by omega), h2 1 (by omega), h2 2 (by omega), h2 3 (by omega), h2 4 (by omega)]
 rfl
theorem jn_pos {c : UInt8} {p : List UInt8} {ps : List (List UInt8)} (h : p ≠ []) : jnC c (p :: ps) ≠ [] := by
 cases ps with
 | nil => exact h
 | cons q r => intro e; have : (jnC c (p :: q :: r)) = p ++ c :: jnC c (q :: r) := rfl; rw [this] at e; simp at e
theorem itoa_ne (n : Int) : Lib.itoa n ≠ [] := by
 by_cases g : n < 0
 ·rw [q6M g]; simp
 ·rw [q6N (by omega)]; exact qgu _
theorem hits_back {l : List TH} (h : ql l = 0) : phE (qm l) = 0 ∧ phL (qm l) = l := by
 obtain ⟨l1, h2⟩ := q1N h
 by_cases h0 : l = []
 ·subst h0
  have z : (qm []).size = 0 := rfl
  exact ⟨by unfold phE; rw [if_neg (by omega), if_pos z], if_neg fun q => q.1 z⟩
 have hr : ∀ k, k < l.length → rgH (qe l k) := fun k hk => by
  obtain ⟨p, t, w⟩ := h2 k hk
  obtain ⟨a, b, c⟩ := qn.1 p
  unfold rgH inI
  omega
 have hs := qd9 (by omega) hr
 have hd : (qm l).data.toList = jnC 59 (l.map fun x => (hitW x).data.toList) := by
  unfold qm
  rw [qd8, q0U, List.map_map]; rfl
 have hp : pcs 59 (qm l).data.toList = l.map fun x => (hitW x).data.toList := by
  rw [hd]
  refine pcs_jn (by simpa using h0) fun p hp => ?_
  obtain ⟨x, _, rfl⟩ := List.mem_map.1 hp
  unfold hitW
  rw [qbJ]
  refine hasC_jn (by decide) fun q hq => ?_
  obtain ⟨n, _, rfl⟩ := List.mem_map.1 hq
  exact itoa_no (by decide) (by decide) n
 have z : (qm l).size ≠ 0 := by
  rw [← q4d, hd]
  obtain ⟨x, r, rfl⟩ := List.exists_cons_of_ne_nil h0
  intro e
  refine jn_pos (c := 59) (p := (hitW x).data.toList) (ps := r.map fun x => (hitW x).data.toList) ?_ (List.length_eq_zero_iff.1 e)
  unfold hitW
  rw [qbJ]
  exact jn_pos (itoa_ne _)
 have np : nPc 59 (qm l) = l.length := by unfold nPc; rw [hp]; simp
 have hq : ∀ i, i < l.length → q0X (qm l) i = hitW (qe l i) := fun i hi => by
  unfold q0X wAt
  rw [hp, show (l.map fun x => (hitW x).data.toList).getD i [] = (hitW (qe l i)).data.toList by simp [qe, List.getD, hi]]
  exact q3d _
 have hw : ∀ i, i < l.length → hitB (q0X (qm l) i) = true ∧ qe0 (q0X (qm l) i) = qe l i := fun i hi => by
  rw [hq i hi]; exact hit_back (h2 i hi)
 have hk : hsK (qm l) l.length = l := by
  refine List.ext_getElem hsK_len fun i h4 h5 => ?_
  have e : (hsK (qm l) l.length)[i] = qe0 (q0X (qm l) i) := by simp [hsK]
  rw [e, (hw i h5).2]
  simp [qe, List.getD, h5]
 have sy : synH (qm l) = true := qkn fun i hi => (hw i (by omega)).1
 have e : phE (qm l) = 0 := by
  rw [phE_ok (by omega) z sy, np, hk]
  exact h
 exact ⟨e, by rw [phL_ok z e, np, hk]⟩
def boxN (b : TB) : List Int := [b.lo.x, b.lo.y, b.lo.z, b.hi.x, b.hi.y, b.hi.z]
def boxT (b : TB) : ByteArray := q1c (boxN b)
def rgB (b : TB) : Prop := inI b.lo.x ∧ inI b.lo.y ∧ inI b.lo.z ∧ inI b.hi.x ∧ inI b.hi.y ∧ inI b.hi.z
theorem six {b : TB} {P : Int → Prop} (h1 : P b.lo.x) (h2 : P b.lo.y) (h3 : P b.lo.z) (h4 : P b.hi.x) (h5 : P b.hi.y) (h6 : P b.hi.z) : ∀ i, i < 6 → P ((boxN b).getD i 0) := by
 intro i hi
 rcases (by omega : i = 0 ∨ i = 1 ∨ i = 2 ∨ i = 3 ∨ i = 4 ∨ i = 5) with rfl | rfl | rfl | rfl | rfl | rfl
 ·exact h1
 ·exact h2
 ·exact h3
 ·exact h4
 ·exact h5
 ·exact h6
theorem in6 {b : TB} (g : rgB b) : ∀ i, i < (boxN b).length → -9223372036854775808 ≤ (boxN b).getD i 0 ∧ (boxN b).getD i 0 ≤ 9223372036854775807 := by
 obtain ⟨h1, h2, h3, h4, h5, h6⟩ := g
 exact six (P := inI) h1 h2 h3 h4 h5 h6
theorem boxT_len {b : TB} (g : rgB b) : (boxT b).size ≤ 126 := qbI (l := boxN b) (in6 g)
def qe1 (s : ByteArray) : TB := ⟨⟨valW s 5 0, valW s 5 1, valW s 5 2⟩, ⟨valW s 5 3, valW s 5 4, valW s 5 5⟩⟩
def boxB (s : ByteArray) : Bool := okTo s 6 6
def pbE (s : ByteArray) : Int := if boxB s = false then 7 else (qe1 s).err
def pbX (s : ByteArray) : TB := if pbE s = 0 then qe1 s else ⟨⟨0, 0, 0⟩, ⟨0, 0, 0⟩⟩
theorem pb_syn {s : ByteArray} (h : boxB s = false) : pbE s = 7 ∧ pbX s = ⟨⟨0, 0, 0⟩, ⟨0, 0, 0⟩⟩ := by
 have e : pbE s = 7 := if_pos h
 exact ⟨e, if_neg (by rw [e]; decide)⟩
theorem pb_ok {s : ByteArray} (h : boxB s = true) : pbE s = (qe1 s).err := if_neg (by rw [h]; simp)
theorem pbX_no {s : ByteArray} (h : pbE s ≠ 0) : pbX s = ⟨⟨0, 0, 0⟩, ⟨0, 0, 0⟩⟩ := if_neg h
theorem pbX_yes {s : ByteArray} (h : pbE s = 0) : pbX s = qe1 s := if_pos h
theorem box_rg {b : TB} (h : b.err = 0) : b.lo.inS 20 = true ∧ b.hi.inS 20 = true := by
 unfold TB.err at h
 rw [qD] at h
 have h1 := h.1
 rw [q6G (by decide)] at h1
 simpa using h1
theorem box_back {b : TB} (h : b.err = 0) : pbE (boxT b) = 0 ∧ pbX (boxT b) = b := by
 obtain ⟨k1, k2⟩ := box_rg h
 obtain ⟨a1, a2, a3⟩ := qn.1 k1
 obtain ⟨c1, c2, c3⟩ := qn.1 k2
 obtain ⟨h1, h2⟩ := qko (l := boxN b) (n := 6) rfl (by decide) (six (b := b) (P := fun x => x.natAbs < 10 ^ 5) (by omega) (by omega) (by omega) (by omega) (by omega) (by omega))
 have e : qe1 (boxT b) = b := by
  unfold qe1 boxT
  rw [h2 0 (by omega), h2 1 (by omega), h2 2 (by omega), h2 3 (by omega), h2 4 (by omega), h2 5 (by omega)]
  rfl
 have e2 : pbE (boxT b) = 0 := by rw [pb_ok (s := boxT b) h1, e]; exact h
 exact ⟨e2, by rw [pbX_yes e2, e]⟩
theorem sz_ne {s : ByteArray} (h : ¬ s = ⟨#[]⟩) : s.size ≠ 0 := by
 intro e
 refine h ?_
 rw [← q3d s]
 have : s.data.toList = [] := List.length_eq_zero_iff.1 (by rw [q4d]; exact e)
 rw [this]; rfl
theorem spl_cut (s : ByteArray) (c : UInt8) : splB s ⟨#[c]⟩ = cutL s c := by
 have e := q3d s
 rw [← e, qkj]
 rfl
theorem qgy {n : Nat} {c : Nat → CV} (h : q4v n c = true) : (List.range n).map c = (List.range n).map fun i => CV.v (.int .i64 (qb (c i))) := List.map_congr_left fun i hi => qcO h i (List.mem_range.1 hi)
def Sl51 : Sum := addS Sku50 78 qfo
theorem VSl51 : Valid Tryz.prog Sl51 := Valid.add VSku50 ok_Itoa
def Sl52 : Sum := addS Sl51 85 qfp
theorem VSl52 : Valid Tryz.prog Sl52 := Valid.add VSl51 ok_Trim
def Sl53 : Sum := addS Sl52 84 qfq
theorem VSl53 : Valid Tryz.prog Sl53 := Valid.add VSl52 ok_Atoi
def Sl54 : Sum := addS Sl53 37 qfr
theorem VSl54 : Valid Tryz.prog Sl54 := Valid.add VSl53 ok_Join
def Sl55 : Sum := addS Sl54 83 qd7
theorem VSl55 : Valid Tryz.prog Sl55 := Valid.add VSl54 ok_Split
def Sl56 : Sum := addS Sl55 38 q8J
theorem VSl56 : Valid Tryz.prog Sl56 := Valid.add VSl55 qkX
def Ilib : It := addM noIt 108 qfu
theorem VIlib : ValidIt Tryz.prog Ilib := ValidIt.addM ValidIt.no qmx
def q4E (l : List Int) (v0_0 : List (List CV)) (v0_1 : Int) : DS := ⟨[none, none, none, some (.t (.c (.os 3))), none, none, some (.t (.c (.sl 1 l.length (q2f l)))), some (.t (.c (.v (.int .i64 ((l.length : Nat) : Int))))), some (.t (.c (.v (.int .i64 v0_1)))), none, none, none, none, none, none, none, none, none, none, none], [none, none, none, some (.gen 9 1 v0_0), none, none, none, none, none, none, none, none, none, none, none, none, none, none, none, none]⟩
def q9q (J : Inv) (l : List Int) (post : DV → Prop) : Prop := ∃ n, J 0 (n :: []) (q4E l ([]) 0)
def q3e : Ann := ⟨fun _ => none, fun b => qr b [(0, (none, some ⟨[6, 7, 8], [], [(3, .gen 9 1 [])]⟩))], fun _ => [], Ilib, false, fun _ => none, fun _ => none⟩
def q7K (J : Inv) (l : List Int) (v0_0 : List (List CV)) (v0_1 : Int) (nn0 : Nat) (post : DV → Prop) : Prop := cond (decide (v0_1 < ((l.length : Nat) : Int))) ((0 ≤ v0_1 ∧ v0_1 < ((l.length : Nat) : Int)) ∧ ((-9223372036854775808 ≤ (l.getD v0_1.toNat 0) ∧ (l.getD v0_1.toNat 0) ≤ 9223372036854775807) ∧ ((q0k 16 (v0_0.length + ([[.v (.string (q0f (l.getD v0_1.toNat 0)))]] : List (List CV)).length)) ∧ (lt (IntKind.i64.wrap (v0_1 + (1 : Int))) fun x1 => J 0 (nn0 :: []) (q4E l (v0_0 ++ ([[.v (.string (q0f (l.getD v0_1.toNat 0)))]] : List (List CV))) x1))))) ((txP v0_0.length (genC v0_0) ∧ (txOf v0_0.length (genC v0_0)).length ≤ 1000000 ∧ (q4V (txOf v0_0.length (genC v0_0)) (⟨#[32]⟩)).size ≤ 1000000000) ∧ (post (.t (.c (.v (.string (q4V (txOf v0_0.length (genC v0_0)) (⟨#[32]⟩))))))))
theorem qgz (J : Inv) (post : DV → Prop) : AllG J (qz Tryz.prog tab Sl56 q3e J Tryz.f36 post) = (((∀ F s, ¬ J 0 (0 :: F) s) ∧ ∀ n F s, J 0 ((n + 1) :: F) s → round Tryz.prog tab Sl56 q3e J Tryz.f36 post 0 (n :: F) s) ∧ True) := by kernel_rfl
def q2E (l : List Int) : Inv := fun b F s => match b, F with
 | 0, [nn0] => ∃ (v0_0 : List (List CV)) (v0_1 : Int), s = q4E l v0_0 v0_1 ∧ ((l.length ≤ 100 ∧ (∀ i, i < (l).length → -9223372036854775808 ≤ (l).getD i 0 ∧ (l).getD i 0 ≤ 9223372036854775807)) ∧ 0 ≤ v0_1 ∧ v0_1 ≤ l.length ∧ (nn0 : Int) + v0_1 = l.length + 1 ∧ v0_0 = ((l.take v0_1.toNat).map q0f).map ttCv)
 | _, _ => False
theorem qda (l : List Int) (v0_0 : List (List CV)) (v0_1 : Int) (nn0 : Nat) (hp : (l).length ≤ 100 ∧ (∀ i, i < (l).length → -9223372036854775808 ≤ (l).getD i 0 ∧ (l).getD i 0 ≤ 9223372036854775807)) (hi : (l.length ≤ 100 ∧ (∀ i, i < (l).length → -9223372036854775808 ≤ (l).getD i 0 ∧ (l).getD i 0 ≤ 9223372036854775807)) ∧ 0 ≤ v0_1 ∧ v0_1 ≤ l.length ∧ ((nn0 + 1) : Int) + v0_1 = l.length + 1 ∧ v0_0 = ((l.take v0_1.toNat).map q0f).map ttCv) : q7K (q2E l) l v0_0 v0_1 nn0 (fun r => LeD r (.t (.c (.v (.string (q1c l)))))) := by
 obtain ⟨q, i1, i2, i3, i4⟩ := hi
 obtain ⟨k, rfl⟩ : ∃ k : Nat, v0_1 = k := ⟨v0_1.toNat, by omega⟩
 have hk : (k : Int).toNat = k := rfl
 rw [hk] at i4
 subst i4
 unfold q7K
 refine qg (fun h => ?_) (fun h => ?_)
 ·have hlt : k < l.length := by have := of_decide_eq_true h; omega
  have b := q.2 k hlt
  rw [Int.toNat_natCast]
  refine ⟨⟨by omega, by omega⟩, b, ⟨by simp; omega, by simp [maxLen]; omega⟩, lt_i fun x1 h1 => ?_⟩
  rw [wi (by omega)] at h1
  subst h1
  refine ⟨_, _, rfl, q, by omega, by omega, by omega, ?_⟩
  rw [qiG, map_snoc, ← qiI l 0 hlt]
  rfl
 ·have e : k = l.length := by have := of_decide_eq_false h; omega
  subst e
  rw [List.take_length]
  have w := qbI q.2
  refine ⟨⟨txP_ttg _, by rw [qgw]; simp; omega, by rw [qgw]; exact Nat.le_trans w (by omega)⟩, ?_⟩
  rw [qgw]
  exact LeD.refl _
theorem qei (l : List Int) (hp : (l).length ≤ 100 ∧ (∀ i, i < (l).length → -9223372036854775808 ≤ (l).getD i 0 ∧ (l).getD i 0 ≤ 9223372036854775807)) : q9q (q2E l) l (fun r => LeD r (.t (.c (.v (.string (q1c l)))))) := by
 unfold q9q
 exact ⟨l.length + 1, [], 0, rfl, hp, by omega, by omega, by omega, rfl⟩
theorem qfv (l : List Int) (hp : (l).length ≤ 100 ∧ (∀ i, i < (l).length → -9223372036854775808 ≤ (l).getD i 0 ∧ (l).getD i 0 ≤ 9223372036854775807)) : AllG (q2E l) (qz Tryz.prog tab Sl56 q3e (q2E l) Tryz.f36 (fun r => LeD r (.t (.c (.v (.string (q1c l))))))) := by
 rw [qgz]
 refine ⟨⟨?_, ?_⟩, trivial⟩
 ·intro F s h
  obtain _ | ⟨g, F⟩ := F
  case cons => exact h.elim
  obtain ⟨w0, w1, rfl, hi⟩ := h
  omega
 ·intro n F s h
  obtain _ | ⟨g, F⟩ := F
  case cons => exact h.elim
  obtain ⟨w0, w1, rfl, hi⟩ := h
  exact cast (by kernel_rfl) (qda l _ _ _ hp hi)
def q5e : Con := fun args => match args with
 | [.t (.c (.sl 1 n_l c_l))] => some (.t (.c (.v (.string (q1c (qa n_l qF c_l))))), some (qj 1 n_l c_l ∧ ((qa n_l qF c_l)).length ≤ 100 ∧ (∀ i, i < ((qa n_l qF c_l)).length → -9223372036854775808 ≤ ((qa n_l qF c_l)).getD i 0 ∧ ((qa n_l qF c_l)).getD i 0 ≤ 9223372036854775807)), false)
 | _ => none
theorem qgA : Ok Tryz.prog 36 q5e := by
 refine Ok.fn (ann := q3e) mixed qo VSl56 VIlib (fn := Tryz.f36) (by kernel_rfl) (by kernel_rfl) (by kernel_rfl) fun args r pre fresh h hp => ?_
 unfold q5e at h
 split at h
 ·rename_i n_l c_l
  cases h
  obtain ⟨hp0, hp⟩ := hp
  refine ⟨rfl, q2E (qa n_l qF c_l), _, (qk (leT_c ((q6C hp0))) qM), Nat.le_of_ble_eq_true (by kernel_rfl), ?_, ?_⟩
  ·exact cast (by kernel_rfl) (qei (qa n_l qF c_l) hp)
  ·exact qfv (qa n_l qF c_l) hp
 ·cases h
def Ska57 : Sum := addS Sl56 36 q5e
theorem VSka57 : Valid Tryz.prog Ska57 := Valid.add VSl56 qgA
def q5X (tx : ByteArray) (b0 b1 b2 b3 b4 : Int) (post : DV → List CV → Prop) : Prop := (tx.size ≤ 1000000000 ∧ 1 ≤ ((⟨#[32]⟩) : ByteArray).size ∧ (splB tx (⟨#[32]⟩)).length = Lib.countB tx (⟨#[32]⟩) + 1) ∧ (cond ((((splB tx (⟨#[32]⟩)).length : Nat) : Int) != (5 : Int)) (post (.t (.c (.v (.bool false)))) [.v (.int .i64 b0), .v (.int .i64 b1), .v (.int .i64 b2), .v (.int .i64 b3), .v (.int .i64 b4)]) ((0 ≤ (0 : Int) ∧ (0 : Int) < ((5 : Nat) : Int)) ∧ ((0 ≤ (0 : Int) ∧ (0 : Int) < (((splB tx (⟨#[32]⟩)).length : Nat) : Int)) ∧ (((txAt (splB tx (⟨#[32]⟩)) 0).size ≤ 1000000000) ∧ ((cond (!(atoB (txAt (splB tx (⟨#[32]⟩)) 0))) ((true = true) ∧ ((true = true) ∧ (True))) ((-9223372036854775808 ≤ (atoV (txAt (splB tx (⟨#[32]⟩)) 0)) ∧ (atoV (txAt (splB tx (⟨#[32]⟩)) 0)) ≤ 9223372036854775807) ∧ ((0 ≤ (0 : Int) ∧ (0 : Int) < (((splB tx (⟨#[32]⟩)).length : Nat) : Int)) ∧ (cond (!(((q0f (atoV (txAt (splB tx (⟨#[32]⟩)) 0))) : ByteArray).toList == ((txAt (splB tx (⟨#[32]⟩)) 0) : ByteArray).toList)) ((true = true) ∧ (True)) ((0 ≤ (0 : Int) ∧ (0 : Int) < (((splB tx (⟨#[32]⟩)).length : Nat) : Int)) ∧ (True)))))) ∧ (lt ((bif (!(atoB (txAt (splB tx (⟨#[32]⟩)) 0))) then true else (bif (!(((q0f (atoV (txAt (splB tx (⟨#[32]⟩)) 0))) : ByteArray).toList == ((txAt (splB tx (⟨#[32]⟩)) 0) : ByteArray).toList)) then true else decide (((((q1I (txAt (splB tx (⟨#[32]⟩)) 0) (⟨#[45]⟩)) : ByteArray).size : Nat) : Int) > (5 : Int))))) fun x1 => cond x1 (post (.t (.c (.v (.bool false)))) [.v (.int .i64 b0), .v (.int .i64 b1), .v (.int .i64 b2), .v (.int .i64 b3), .v (.int .i64 b4)]) ((0 ≤ (1 : Int) ∧ (1 : Int) < ((5 : Nat) : Int)) ∧ ((0 ≤ (1 : Int) ∧ (1 : Int) < (((splB tx (⟨#[32]⟩)).length : Nat) : Int)) ∧ (((txAt (splB tx (⟨#[32]⟩)) 1).size ≤ 1000000000) ∧ ((cond (!(atoB (txAt (splB tx (⟨#[32]⟩)) 1))) ((true = true) ∧ ((true = true) ∧ (True))) ((-9223372036854775808 ≤ (atoV (txAt (splB tx (⟨#[32]⟩)) 1)) ∧ (atoV (txAt (splB tx (⟨#[32]⟩)) 1)) ≤ 9223372036854775807) ∧ ((0 ≤ (1 : Int) ∧ (1 : Int) < (((splB tx (⟨#[32]⟩)).length : Nat) : Int)) ∧ (cond (!(((q0f (atoV (txAt (splB tx (⟨#[32]⟩)) 1))) : ByteArray).toList == ((txAt (splB tx (⟨#[32]⟩)) 1) : ByteArray).toList)) ((true = true) ∧ (True)) ((0 ≤ (1 : Int) ∧ (1 : Int) < (((splB tx (⟨#[32]⟩)).length : Nat) : Int)) ∧ (True)))))) ∧ (lt ((bif (!(atoB (txAt (splB tx (⟨#[32]⟩)) 1))) then true else (bif (!(((q0f (atoV (txAt (splB tx (⟨#[32]⟩)) 1))) : ByteArray).toList == ((txAt (splB tx (⟨#[32]⟩)) 1) : ByteArray).toList)) then true else decide (((((q1I (txAt (splB tx (⟨#[32]⟩)) 1) (⟨#[45]⟩)) : ByteArray).size : Nat) : Int) > (5 : Int))))) fun x2 => cond x2 (post (.t (.c (.v (.bool false)))) [.v (.int .i64 (atoV (txAt (splB tx (⟨#[32]⟩)) 0))), .v (.int .i64 b1), .v (.int .i64 b2), .v (.int .i64 b3), .v (.int .i64 b4)]) ((0 ≤ (2 : Int) ∧ (2 : Int) < ((5 : Nat) : Int)) ∧ ((0 ≤ (2 : Int) ∧ (2 : Int) < (((splB tx (⟨#[32]⟩)).length : Nat) : Int)) ∧ (((txAt (splB tx (⟨#[32]⟩)) 2).size ≤ 1000000000) ∧ ((cond (!(atoB (txAt (splB tx (⟨#[32]⟩)) 2))) ((true = true) ∧ ((true = true) ∧ (True))) ((-9223372036854775808 ≤ (atoV (txAt (splB tx (⟨#[32]⟩)) 2)) ∧ (atoV (txAt (splB tx (⟨#[32]⟩)) 2)) ≤ 9223372036854775807) ∧ ((0 ≤ (2 : Int) ∧ (2 : Int) < (((splB tx (⟨#[32]⟩)).length : Nat) : Int)) ∧ (cond (!(((q0f (atoV (txAt (splB tx (⟨#[32]⟩)) 2))) : ByteArray).toList == ((txAt (splB tx (⟨#[32]⟩)) 2) : ByteArray).toList)) ((true = true) ∧ (True)) ((0 ≤ (2 : Int) ∧ (2 : Int) < (((splB tx (⟨#[32]⟩)).length : Nat) : Int)) ∧ (True)))))) ∧ (lt ((bif (!(atoB (txAt (splB tx (⟨#[32]⟩)) 2))) then true else (bif (!(((q0f (atoV (txAt (splB tx (⟨#[32]⟩)) 2))) : ByteArray).toList == ((txAt (splB tx (⟨#[32]⟩)) 2) : ByteArray).toList)) then true else decide (((((q1I (txAt (splB tx (⟨#[32]⟩)) 2) (⟨#[45]⟩)) : ByteArray).size : Nat) : Int) > (5 : Int))))) fun x3 => cond x3 (post (.t (.c (.v (.bool false)))) [.v (.int .i64 (atoV (txAt (splB tx (⟨#[32]⟩)) 0))), .v (.int .i64 (atoV (txAt (splB tx (⟨#[32]⟩)) 1))), .v (.int .i64 b2), .v (.int .i64 b3), .v (.int .i64 b4)]) ((0 ≤ (3 : Int) ∧ (3 : Int) < ((5 : Nat) : Int)) ∧ ((0 ≤ (3 : Int) ∧ (3 : Int) < (((splB tx (⟨#[32]⟩)).length : Nat) : Int)) ∧ (((txAt (splB tx (⟨#[32]⟩)) 3).size ≤ 1000000000) ∧ ((cond (!(atoB (txAt (splB tx (⟨#[32]⟩)) 3))) ((true = true) ∧ ((true = true) ∧ (True))) ((-9223372036854775808 ≤ (atoV (txAt (splB tx (⟨#[32]⟩)) 3)) ∧ (atoV (txAt (splB tx (⟨#[32]⟩)) 3)) ≤ 9223372036854775807) ∧ ((0 ≤ (3 : Int) ∧ (3 : Int) < (((splB tx (⟨#[32]⟩)).length : Nat) : Int)) ∧ (cond (!(((q0f (atoV (txAt (splB tx (⟨#[32]⟩)) 3))) : ByteArray).toList == ((txAt (splB tx (⟨#[32]⟩)) 3) : ByteArray).toList)) ((true = true) ∧ (True)) ((0 ≤ (3 : Int) ∧ (3 : Int) < (((splB tx (⟨#[32]⟩)).length : Nat) : Int)) ∧ (True)))))) ∧ (lt ((bif (!(atoB (txAt (splB tx (⟨#[32]⟩)) 3))) then true else (bif (!(((q0f (atoV (txAt (splB tx (⟨#[32]⟩)) 3))) : ByteArray).toList == ((txAt (splB tx (⟨#[32]⟩)) 3) : ByteArray).toList)) then true else decide (((((q1I (txAt (splB tx (⟨#[32]⟩)) 3) (⟨#[45]⟩)) : ByteArray).size : Nat) : Int) > (5 : Int))))) fun x4 => cond x4 (post (.t (.c (.v (.bool false)))) [.v (.int .i64 (atoV (txAt (splB tx (⟨#[32]⟩)) 0))), .v (.int .i64 (atoV (txAt (splB tx (⟨#[32]⟩)) 1))), .v (.int .i64 (atoV (txAt (splB tx (⟨#[32]⟩)) 2))), .v (.int .i64 b3), .v (.int .i64 b4)]) ((0 ≤ (4 : Int) ∧ (4 : Int) < ((5 : Nat) : Int)) ∧ ((0 ≤ (4 : Int) ∧ (4 : Int) < (((splB tx (⟨#[32]⟩)).length : Nat) : Int)) ∧ (((txAt (splB tx (⟨#[32]⟩)) 4).size ≤ 1000000000) ∧ ((cond (!(atoB (txAt (splB tx (⟨#[32]⟩)) 4))) ((true = true) ∧ ((true = true) ∧ (True))) ((-9223372036854775808 ≤ (atoV (txAt (splB tx (⟨#[32]⟩)) 4)) ∧ (atoV (txAt (splB tx (⟨#[32]⟩)) 4)) ≤ 9223372036854775807) ∧ ((0 ≤ (4 : Int) ∧ (4 : Int) < (((splB tx (⟨#[32]⟩)).length : Nat) : Int)) ∧ (cond (!(((q0f (atoV (txAt (splB tx (⟨#[32]⟩)) 4))) : ByteArray).toList == ((txAt (splB tx (⟨#[32]⟩)) 4) : ByteArray).toList)) ((true = true) ∧ (True)) ((0 ≤ (4 : Int) ∧ (4 : Int) < (((splB tx (⟨#[32]⟩)).length : Nat) : Int)) ∧ (True)))))) ∧ (lt ((bif (!(atoB (txAt (splB tx (⟨#[32]⟩)) 4))) then true else (bif (!(((q0f (atoV (txAt (splB tx (⟨#[32]⟩)) 4))) : ByteArray).toList == ((txAt (splB tx (⟨#[32]⟩)) 4) : ByteArray).toList)) then true else decide (((((q1I (txAt (splB tx (⟨#[32]⟩)) 4) (⟨#[45]⟩)) : ByteArray).size : Nat) : Int) > (5 : Int))))) fun x5 => cond x5 (post (.t (.c (.v (.bool false)))) [.v (.int .i64 (atoV (txAt (splB tx (⟨#[32]⟩)) 0))), .v (.int .i64 (atoV (txAt (splB tx (⟨#[32]⟩)) 1))), .v (.int .i64 (atoV (txAt (splB tx (⟨#[32]⟩)) 2))), .v (.int .i64 (atoV (txAt (splB tx (⟨#[32]⟩)) 3))), .v (.int .i64 b4)]) (post (.t (.c (.v (.bool true)))) [.v (.int .i64 (atoV (txAt (splB tx (⟨#[32]⟩)) 0))), .v (.int .i64 (atoV (txAt (splB tx (⟨#[32]⟩)) 1))), .v (.int .i64 (atoV (txAt (splB tx (⟨#[32]⟩)) 2))), .v (.int .i64 (atoV (txAt (splB tx (⟨#[32]⟩)) 3))), .v (.int .i64 (atoV (txAt (splB tx (⟨#[32]⟩)) 4)))])))))))))))))))))))))))))))
def q8K : Ann := ⟨fun r => qr r [(8, ([[], [0], [0, 1], [0, 1, 2], [0, 1, 2, 3], [0, 1, 2], [0, 1, 2], [0, 1, 2, 5, 6], [0, 1, 2, 5, 6, 7], [0, 1, 2, 3, 4, 5, 6, 7, 8], [0, 1, 2, 3, 4, 5, 6, 7, 8, 9], [0, 1, 2, 3, 4, 5, 6, 7, 8, 9, 10], [0, 1, 2, 3, 4, 5, 6, 7, 8, 9, 10, 11], [0, 1, 2, 3, 4, 5, 6, 7, 8, 9, 10, 11], [0, 1, 2, 3, 4, 5, 6, 7, 8, 9, 10, 11, 12, 13], [0, 1, 2, 3, 4, 5, 6, 7, 8, 9, 10, 11, 12, 13, 14], [0, 1, 2, 3, 4, 5, 6, 7, 8, 9, 10, 11, 12, 13, 14, 15], [0, 1, 2, 3, 4, 5, 6, 7, 8, 9, 10, 11, 12, 13, 14, 15, 16], [0, 1, 2, 3, 4, 5, 6, 7, 8, 9, 10, 11, 12, 13, 14, 15, 16, 17], [0, 1, 2, 3, 4, 5, 6, 7, 8, 9, 10, 11, 12, 13, 14, 15, 16, 17, 18]], [[36, 48], [36, 48], [36, 48], [36, 48], [48], [36, 48], [36, 48], [36, 48], [36, 48], [48], [48], [48], [48], [48], [48], [48], [], [], [], []]))], fun b => qr b [(0, (some 6, some ⟨[5, 17, 18, 19], [0, 1], []⟩))], fun _ => [], Ilib, false, fun r => qr r [(8, (3, [51]))], fun _ => none⟩
theorem qgB (J : Inv) (tx : ByteArray) (b0 b1 b2 b3 b4 : Int) (post : DV → List CV → Prop) : evFnS Tryz.prog tab Ska57 q8K J Tryz.f39 (.t (.c (.v (.string tx)))) 90 57 5 [.v (.int .i64 b0), .v (.int .i64 b1), .v (.int .i64 b2), .v (.int .i64 b3), .v (.int .i64 b4)] post = q5X tx b0 b1 b2 b3 b4 post := by kernel_rfl
theorem qej (tx : ByteArray) (b0 b1 b2 b3 b4 : Int) (hp : (tx).size ≤ 100000000) : q5X tx b0 b1 b2 b3 b4 (fun r' cs => LeD r' (.t (.c (.v (.bool (okTo tx 5 5))))) ∧ cs = [.v (.int .i64 (wrC tx 5 0 b0)), .v (.int .i64 (wrC tx 5 1 b1)), .v (.int .i64 (wrC tx 5 2 b2)), .v (.int .i64 (wrC tx 5 3 b3)), .v (.int .i64 (wrC tx 5 4 b4))]) := by
 unfold q5X
 have hc := qgx tx 32
 rw [spl_cut] at hc ⊢
 rw [qkk] at hc ⊢
 refine ⟨⟨by omega, Nat.le_refl 1, hc⟩, qg (fun h => ?_) (fun h => ?_)⟩
 ·have h7 : nPc 32 tx ≠ 5 := fun e => by rw [e] at h; cases h
  rw [qE (q1L h7 1), qE (q1L h7 2), qE (q1L h7 3), qE (q1L h7 4), qE (q1L h7 5), show okTo tx 5 5 = false from q1L h7 5]
  exact ⟨LeD.refl _, rfl⟩
 have h7 : nPc 32 tx = 5 := by
  have h : ((nPc 32 tx : Nat) : Int) = 5 := by simpa using h
  omega
 have o0 := qiK h7
 have hs : ∀ i, (ofL (wAt 32 tx i)).size ≤ 1000000000 := fun i => by rw [q1q]; exact Nat.le_trans qhI (by omega)
 rw [q2C (show 0 < nPc 32 tx by omega), q2C (show 1 < nPc 32 tx by omega), q2C (show 2 < nPc 32 tx by omega), q2C (show 3 < nPc 32 tx by omega), q2C (show 4 < nPc 32 tx by omega)]
 simp only [bad_w]
 refine ⟨⟨by decide, by decide⟩, ⟨by decide, by omega⟩, hs 0, qg (fun _ => ⟨by trivial, by trivial, trivial⟩) (fun g => ⟨q4e (by simpa using g), ⟨by decide, by omega⟩, qg (fun _ => ⟨by trivial, trivial⟩) (fun _ => ⟨⟨by decide, by omega⟩, trivial⟩)⟩), lt_i fun y0 z0 => ?_⟩
 subst z0
 refine qg (fun g => ?_) (fun g => ?_)
 ·have g0 : (numR (wAt 32 tx 0) 5).isSome = false := by simpa using g
  have b1 : okTo tx 5 1 = false := by rw [qR, o0, g0]; rfl
  rw [qE (qq b1 (by decide)), qE (qq b1 (by decide)), qE (qq b1 (by decide)), qE (qq b1 (by decide)), qE (qq b1 (by decide)), show okTo tx 5 5 = false from qq b1 (by decide)]
  exact ⟨LeD.refl _, rfl⟩
 have g0 : (numR (wAt 32 tx 0) 5).isSome = true := by simpa using g
 have o1 : okTo tx 5 1 = true := by rw [qR, o0, g0]; rfl
 rw [val_w g0]
 refine ⟨⟨by decide, by decide⟩, ⟨by decide, by omega⟩, hs 1, qg (fun _ => ⟨by trivial, by trivial, trivial⟩) (fun g => ⟨q4e (by simpa using g), ⟨by decide, by omega⟩, qg (fun _ => ⟨by trivial, trivial⟩) (fun _ => ⟨⟨by decide, by omega⟩, trivial⟩)⟩), lt_i fun y1 z1 => ?_⟩
 subst z1
 refine qg (fun g => ?_) (fun g => ?_)
 ·have g1 : (numR (wAt 32 tx 1) 5).isSome = false := by simpa using g
  have b2 : okTo tx 5 2 = false := by rw [qR, o1, g1]; rfl
  rw [qL o1, qE (qq b2 (by decide)), qE (qq b2 (by decide)), qE (qq b2 (by decide)), qE (qq b2 (by decide)), show okTo tx 5 5 = false from qq b2 (by decide)]
  exact ⟨LeD.refl _, rfl⟩
 have g1 : (numR (wAt 32 tx 1) 5).isSome = true := by simpa using g
 have o2 : okTo tx 5 2 = true := by rw [qR, o1, g1]; rfl
 rw [val_w g1]
 refine ⟨⟨by decide, by decide⟩, ⟨by decide, by omega⟩, hs 2, qg (fun _ => ⟨by trivial, by trivial, trivial⟩) (fun g => ⟨q4e (by simpa using g), ⟨by decide, by omega⟩, qg (fun _ => ⟨by trivial, trivial⟩) (fun _ => ⟨⟨by decide, by omega⟩, trivial⟩)⟩), lt_i fun y2 z2 => ?_⟩
 subst z2
 refine qg (fun g => ?_) (fun g => ?_)
 ·have g2 : (numR (wAt 32 tx 2) 5).isSome = false := by simpa using g
  have b3 : okTo tx 5 3 = false := by rw [qR, o2, g2]; rfl
  rw [qL o1, qL o2, qE (qq b3 (by decide)), qE (qq b3 (by decide)), qE (qq b3 (by decide)), show okTo tx 5 5 = false from qq b3 (by decide)]
  exact ⟨LeD.refl _, rfl⟩
 have g2 : (numR (wAt 32 tx 2) 5).isSome = true := by simpa using g
 have o3 : okTo tx 5 3 = true := by rw [qR, o2, g2]; rfl
 rw [val_w g2]
 refine ⟨⟨by decide, by decide⟩, ⟨by decide, by omega⟩, hs 3, qg (fun _ => ⟨by trivial, by trivial, trivial⟩) (fun g => ⟨q4e (by simpa using g), ⟨by decide, by omega⟩, qg (fun _ => ⟨by trivial, trivial⟩) (fun _ => ⟨⟨by decide, by omega⟩, trivial⟩)⟩), lt_i fun y3 z3 => ?_⟩
 subst z3
 refine qg (fun g => ?_) (fun g => ?_)
 ·have g3 : (numR (wAt 32 tx 3) 5).isSome = false := by simpa using g
  have b4 : okTo tx 5 4 = false := by rw [qR, o3, g3]; rfl
  rw [qL o1, qL o2, qL o3, qE (qq b4 (by decide)), qE (qq b4 (by decide)), show okTo tx 5 5 = false from qq b4 (by decide)]
  exact ⟨LeD.refl _, rfl⟩
 have g3 : (numR (wAt 32 tx 3) 5).isSome = true := by simpa using g
 have o4 : okTo tx 5 4 = true := by rw [qR, o3, g3]; rfl
 rw [val_w g3]
 refine ⟨⟨by decide, by decide⟩, ⟨by decide, by omega⟩, hs 4, qg (fun _ => ⟨by trivial, by trivial, trivial⟩) (fun g => ⟨q4e (by simpa using g), ⟨by decide, by omega⟩, qg (fun _ => ⟨by trivial, trivial⟩) (fun _ => ⟨⟨by decide, by omega⟩, trivial⟩)⟩), lt_i fun y4 z4 => ?_⟩
 subst z4
 refine qg (fun g => ?_) (fun g => ?_)
 ·have g4 : (numR (wAt 32 tx 4) 5).isSome = false := by simpa using g
  have b5 : okTo tx 5 5 = false := by rw [qR, o4, g4]; rfl
  rw [qL o1, qL o2, qL o3, qL o4, qE (qq b5 (by decide)), show okTo tx 5 5 = false from qq b5 (by decide)]
  exact ⟨LeD.refl _, rfl⟩
 have g4 : (numR (wAt 32 tx 4) 5).isSome = true := by simpa using g
 have o5 : okTo tx 5 5 = true := by rw [qR, o4, g4]; rfl
 rw [val_w g4]
 rw [qL o1, qL o2, qL o3, qL o4, qL o5, show okTo tx 5 5 = true from o5]
 exact ⟨LeD.refl _, rfl⟩
def q5f : Con := fun args => match args with
 | [.t (.c (.v (.string tx))), .t (.c (.px 5 0 c_b))] => some (.t (.c (.v (.bool (okTo tx 5 5)))), some (q4v 5 c_b = true ∧ (tx).size ≤ 100000000), .wrs 90 57 [.v (.int .i64 (wrC tx 5 0 (qb (c_b 0)))), .v (.int .i64 (wrC tx 5 1 (qb (c_b 1)))), .v (.int .i64 (wrC tx 5 2 (qb (c_b 2)))), .v (.int .i64 (wrC tx 5 3 (qb (c_b 3)))), .v (.int .i64 (wrC tx 5 4 (qb (c_b 4))))])
 | _ => none
theorem qgC : Ok Tryz.prog 39 q5f := by
 refine Ok.fnS (ann := q8K) mixed qo VSka57 VIlib (fn := Tryz.f39) (by kernel_rfl) (by kernel_rfl) (by kernel_rfl) fun args r pre fresh h hp => ?_
 unfold q5f at h
 split at h
 ·rename_i tx c_b
  cases h
  obtain ⟨hp0, hp⟩ := hp
  have e := qgy hp0
  refine ⟨_, 5, c_b, _, _, _, rfl, rfl, by rw [e]; rfl, Nat.le_of_ble_eq_true (by kernel_rfl), rfl, fun _ _ _ => False, _, (fun w N v h => h), ?_⟩
  rw [e]
  exact (qgB _ tx (qb (c_b 0)) (qb (c_b 1)) (qb (c_b 2)) (qb (c_b 3)) (qb (c_b 4)) _).mpr (qej tx (qb (c_b 0)) (qb (c_b 1)) (qb (c_b 2)) (qb (c_b 3)) (qb (c_b 4)) hp)
 ·cases h
def Ska58 : Sum := addF Ska57 39 q5f
theorem VSka58 : Valid Tryz.prog Ska58 := Valid.addF VSka57 qgC
def q5Y (tx : ByteArray) (b0 b1 b2 b3 b4 b5 : Int) (post : DV → List CV → Prop) : Prop := (tx.size ≤ 1000000000 ∧ 1 ≤ ((⟨#[32]⟩) : ByteArray).size ∧ (splB tx (⟨#[32]⟩)).length = Lib.countB tx (⟨#[32]⟩) + 1) ∧ (cond ((((splB tx (⟨#[32]⟩)).length : Nat) : Int) != (6 : Int)) (post (.t (.c (.v (.bool false)))) [.v (.int .i64 b0), .v (.int .i64 b1), .v (.int .i64 b2), .v (.int .i64 b3), .v (.int .i64 b4), .v (.int .i64 b5)]) ((0 ≤ (0 : Int) ∧ (0 : Int) < ((6 : Nat) : Int)) ∧ ((0 ≤ (0 : Int) ∧ (0 : Int) < (((splB tx (⟨#[32]⟩)).length : Nat) : Int)) ∧ (((txAt (splB tx (⟨#[32]⟩)) 0).size ≤ 1000000000) ∧ ((cond (!(atoB (txAt (splB tx (⟨#[32]⟩)) 0))) ((true = true) ∧ ((true = true) ∧ (True))) ((-9223372036854775808 ≤ (atoV (txAt (splB tx (⟨#[32]⟩)) 0)) ∧ (atoV (txAt (splB tx (⟨#[32]⟩)) 0)) ≤ 9223372036854775807) ∧ ((0 ≤ (0 : Int) ∧ (0 : Int) < (((splB tx (⟨#[32]⟩)).length : Nat) : Int)) ∧ (cond (!(((q0f (atoV (txAt (splB tx (⟨#[32]⟩)) 0))) : ByteArray).toList == ((txAt (splB tx (⟨#[32]⟩)) 0) : ByteArray).toList)) ((true = true) ∧ (True)) ((0 ≤ (0 : Int) ∧ (0 : Int) < (((splB tx (⟨#[32]⟩)).length : Nat) : Int)) ∧ (True)))))) ∧ (lt ((bif (!(atoB (txAt (splB tx (⟨#[32]⟩)) 0))) then true else (bif (!(((q0f (atoV (txAt (splB tx (⟨#[32]⟩)) 0))) : ByteArray).toList == ((txAt (splB tx (⟨#[32]⟩)) 0) : ByteArray).toList)) then true else decide (((((q1I (txAt (splB tx (⟨#[32]⟩)) 0) (⟨#[45]⟩)) : ByteArray).size : Nat) : Int) > (5 : Int))))) fun x1 => cond x1 (post (.t (.c (.v (.bool false)))) [.v (.int .i64 b0), .v (.int .i64 b1), .v (.int .i64 b2), .v (.int .i64 b3), .v (.int .i64 b4), .v (.int .i64 b5)]) ((0 ≤ (1 : Int) ∧ (1 : Int) < ((6 : Nat) : Int)) ∧ ((0 ≤ (1 : Int) ∧ (1 : Int) < (((splB tx (⟨#[32]⟩)).length : Nat) : Int)) ∧ (((txAt (splB tx (⟨#[32]⟩)) 1).size ≤ 1000000000) ∧ ((cond (!(atoB (txAt (splB tx (⟨#[32]⟩)) 1))) ((true = true) ∧ ((true = true) ∧ (True))) ((-9223372036854775808 ≤ (atoV (txAt (splB tx (⟨#[32]⟩)) 1)) ∧ (atoV (txAt (splB tx (⟨#[32]⟩)) 1)) ≤ 9223372036854775807) ∧ ((0 ≤ (1 : Int) ∧ (1 : Int) < (((splB tx (⟨#[32]⟩)).length : Nat) : Int)) ∧ (cond (!(((q0f (atoV (txAt (splB tx (⟨#[32]⟩)) 1))) : ByteArray).toList == ((txAt (splB tx (⟨#[32]⟩)) 1) : ByteArray).toList)) ((true = true) ∧ (True)) ((0 ≤ (1 : Int) ∧ (1 : Int) < (((splB tx (⟨#[32]⟩)).length : Nat) : Int)) ∧ (True)))))) ∧ (lt ((bif (!(atoB (txAt (splB tx (⟨#[32]⟩)) 1))) then true else (bif (!(((q0f (atoV (txAt (splB tx (⟨#[32]⟩)) 1))) : ByteArray).toList == ((txAt (splB tx (⟨#[32]⟩)) 1) : ByteArray).toList)) then true else decide (((((q1I (txAt (splB tx (⟨#[32]⟩)) 1) (⟨#[45]⟩)) : ByteArray).size : Nat) : Int) > (5 : Int))))) fun x2 => cond x2 (post (.t (.c (.v (.bool false)))) [.v (.int .i64 (atoV (txAt (splB tx (⟨#[32]⟩)) 0))), .v (.int .i64 b1), .v (.int .i64 b2), .v (.int .i64 b3), .v (.int .i64 b4), .v (.int .i64 b5)]) ((0 ≤ (2 : Int) ∧ (2 : Int) < ((6 : Nat) : Int)) ∧ ((0 ≤ (2 : Int) ∧ (2 : Int) < (((splB tx (⟨#[32]⟩)).length : Nat) : Int)) ∧ (((txAt (splB tx (⟨#[32]⟩)) 2).size ≤ 1000000000) ∧ ((cond (!(atoB (txAt (splB tx (⟨#[32]⟩)) 2))) ((true = true) ∧ ((true = true) ∧ (True))) ((-9223372036854775808 ≤ (atoV (txAt (splB tx (⟨#[32]⟩)) 2)) ∧ (atoV (txAt (splB tx (⟨#[32]⟩)) 2)) ≤ 9223372036854775807) ∧ ((0 ≤ (2 : Int) ∧ (2 : Int) < (((splB tx (⟨#[32]⟩)).length : Nat) : Int)) ∧ (cond (!(((q0f (atoV (txAt (splB tx (⟨#[32]⟩)) 2))) : ByteArray).toList == ((txAt (splB tx (⟨#[32]⟩)) 2) : ByteArray).toList)) ((true = true) ∧ (True)) ((0 ≤ (2 : Int) ∧ (2 : Int) < (((splB tx (⟨#[32]⟩)).length : Nat) : Int)) ∧ (True)))))) ∧ (lt ((bif (!(atoB (txAt (splB tx (⟨#[32]⟩)) 2))) then true else (bif (!(((q0f (atoV (txAt (splB tx (⟨#[32]⟩)) 2))) : ByteArray).toList == ((txAt (splB tx (⟨#[32]⟩)) 2) : ByteArray).toList)) then true else decide (((((q1I (txAt (splB tx (⟨#[32]⟩)) 2) (⟨#[45]⟩)) : ByteArray).size : Nat) : Int) > (5 : Int))))) fun x3 => cond x3 (post (.t (.c (.v (.bool false)))) [.v (.int .i64 (atoV (txAt (splB tx (⟨#[32]⟩)) 0))), .v (.int .i64 (atoV (txAt (splB tx (⟨#[32]⟩)) 1))), .v (.int .i64 b2), .v (.int .i64 b3), .v (.int .i64 b4), .v (.int .i64 b5)]) ((0 ≤ (3 : Int) ∧ (3 : Int) < ((6 : Nat) : Int)) ∧ ((0 ≤ (3 : Int) ∧ (3 : Int) < (((splB tx (⟨#[32]⟩)).length : Nat) : Int)) ∧ (((txAt (splB tx (⟨#[32]⟩)) 3).size ≤ 1000000000) ∧ ((cond (!(atoB (txAt (splB tx (⟨#[32]⟩)) 3))) ((true = true) ∧ ((true = true) ∧ (True))) ((-9223372036854775808 ≤ (atoV (txAt (splB tx (⟨#[32]⟩)) 3)) ∧ (atoV (txAt (splB tx (⟨#[32]⟩)) 3)) ≤ 9223372036854775807) ∧ ((0 ≤ (3 : Int) ∧ (3 : Int) < (((splB tx (⟨#[32]⟩)).length : Nat) : Int)) ∧ (cond (!(((q0f (atoV (txAt (splB tx (⟨#[32]⟩)) 3))) : ByteArray).toList == ((txAt (splB tx (⟨#[32]⟩)) 3) : ByteArray).toList)) ((true = true) ∧ (True)) ((0 ≤ (3 : Int) ∧ (3 : Int) < (((splB tx (⟨#[32]⟩)).length : Nat) : Int)) ∧ (True)))))) ∧ (lt ((bif (!(atoB (txAt (splB tx (⟨#[32]⟩)) 3))) then true else (bif (!(((q0f (atoV (txAt (splB tx (⟨#[32]⟩)) 3))) : ByteArray).toList == ((txAt (splB tx (⟨#[32]⟩)) 3) : ByteArray).toList)) then true else decide (((((q1I (txAt (splB tx (⟨#[32]⟩)) 3) (⟨#[45]⟩)) : ByteArray).size : Nat) : Int) > (5 : Int))))) fun x4 => cond x4 (post (.t (.c (.v (.bool false)))) [.v (.int .i64 (atoV (txAt (splB tx (⟨#[32]⟩)) 0))), .v (.int .i64 (atoV (txAt (splB tx (⟨#[32]⟩)) 1))), .v (.int .i64 (atoV (txAt (splB tx (⟨#[32]⟩)) 2))), .v (.int .i64 b3), .v (.int .i64 b4), .v (.int .i64 b5)]) ((0 ≤ (4 : Int) ∧ (4 : Int) < ((6 : Nat) : Int)) ∧ ((0 ≤ (4 : Int) ∧ (4 : Int) < (((splB tx (⟨#[32]⟩)).length : Nat) : Int)) ∧ (((txAt (splB tx (⟨#[32]⟩)) 4).size ≤ 1000000000) ∧ ((cond (!(atoB (txAt (splB tx (⟨#[32]⟩)) 4))) ((true = true) ∧ ((true = true) ∧ (True))) ((-9223372036854775808 ≤ (atoV (txAt (splB tx (⟨#[32]⟩)) 4)) ∧ (atoV (txAt (splB tx (⟨#[32]⟩)) 4)) ≤ 9223372036854775807) ∧ ((0 ≤ (4 : Int) ∧ (4 : Int) < (((splB tx (⟨#[32]⟩)).length : Nat) : Int)) ∧ (cond (!(((q0f (atoV (txAt (splB tx (⟨#[32]⟩)) 4))) : ByteArray).toList == ((txAt (splB tx (⟨#[32]⟩)) 4) : ByteArray).toList)) ((true = true) ∧ (True)) ((0 ≤ (4 : Int) ∧ (4 : Int) < (((splB tx (⟨#[32]⟩)).length : Nat) : Int)) ∧ (True)))))) ∧ (lt ((bif (!(atoB (txAt (splB tx (⟨#[32]⟩)) 4))) then true else (bif (!(((q0f (atoV (txAt (splB tx (⟨#[32]⟩)) 4))) : ByteArray).toList == ((txAt (splB tx (⟨#[32]⟩)) 4) : ByteArray).toList)) then true else decide (((((q1I (txAt (splB tx (⟨#[32]⟩)) 4) (⟨#[45]⟩)) : ByteArray).size : Nat) : Int) > (5 : Int))))) fun x5 => cond x5 (post (.t (.c (.v (.bool false)))) [.v (.int .i64 (atoV (txAt (splB tx (⟨#[32]⟩)) 0))), .v (.int .i64 (atoV (txAt (splB tx (⟨#[32]⟩)) 1))), .v (.int .i64 (atoV (txAt (splB tx (⟨#[32]⟩)) 2))), .v (.int .i64 (atoV (txAt (splB tx (⟨#[32]⟩)) 3))), .v (.int .i64 b4), .v (.int .i64 b5)]) ((0 ≤ (5 : Int) ∧ (5 : Int) < ((6 : Nat) : Int)) ∧ ((0 ≤ (5 : Int) ∧ (5 : Int) < (((splB tx (⟨#[32]⟩)).length : Nat) : Int)) ∧ (((txAt (splB tx (⟨#[32]⟩)) 5).size ≤ 1000000000) ∧ ((cond (!(atoB (txAt (splB tx (⟨#[32]⟩)) 5))) ((true = true) ∧ ((true = true) ∧ (True))) ((-9223372036854775808 ≤ (atoV (txAt (splB tx (⟨#[32]⟩)) 5)) ∧ (atoV (txAt (splB tx (⟨#[32]⟩)) 5)) ≤ 9223372036854775807) ∧ ((0 ≤ (5 : Int) ∧ (5 : Int) < (((splB tx (⟨#[32]⟩)).length : Nat) : Int)) ∧ (cond (!(((q0f (atoV (txAt (splB tx (⟨#[32]⟩)) 5))) : ByteArray).toList == ((txAt (splB tx (⟨#[32]⟩)) 5) : ByteArray).toList)) ((true = true) ∧ (True)) ((0 ≤ (5 : Int) ∧ (5 : Int) < (((splB tx (⟨#[32]⟩)).length : Nat) : Int)) ∧ (True)))))) ∧ (lt ((bif (!(atoB (txAt (splB tx (⟨#[32]⟩)) 5))) then true else (bif (!(((q0f (atoV (txAt (splB tx (⟨#[32]⟩)) 5))) : ByteArray).toList == ((txAt (splB tx (⟨#[32]⟩)) 5) : ByteArray).toList)) then true else decide (((((q1I (txAt (splB tx (⟨#[32]⟩)) 5) (⟨#[45]⟩)) : ByteArray).size : Nat) : Int) > (5 : Int))))) fun x6 => cond x6 (post (.t (.c (.v (.bool false)))) [.v (.int .i64 (atoV (txAt (splB tx (⟨#[32]⟩)) 0))), .v (.int .i64 (atoV (txAt (splB tx (⟨#[32]⟩)) 1))), .v (.int .i64 (atoV (txAt (splB tx (⟨#[32]⟩)) 2))), .v (.int .i64 (atoV (txAt (splB tx (⟨#[32]⟩)) 3))), .v (.int .i64 (atoV (txAt (splB tx (⟨#[32]⟩)) 4))), .v (.int .i64 b5)]) (post (.t (.c (.v (.bool true)))) [.v (.int .i64 (atoV (txAt (splB tx (⟨#[32]⟩)) 0))), .v (.int .i64 (atoV (txAt (splB tx (⟨#[32]⟩)) 1))), .v (.int .i64 (atoV (txAt (splB tx (⟨#[32]⟩)) 2))), .v (.int .i64 (atoV (txAt (splB tx (⟨#[32]⟩)) 3))), .v (.int .i64 (atoV (txAt (splB tx (⟨#[32]⟩)) 4))), .v (.int .i64 (atoV (txAt (splB tx (⟨#[32]⟩)) 5)))]))))))))))))))))))))))))))))))))
def q8L : Ann := ⟨fun r => qr r [(8, ([[], [0], [0, 1], [0, 1, 2], [0, 1, 2, 3], [0, 1, 2], [0, 1, 2], [0, 1, 2, 5, 6], [0, 1, 2, 5, 6, 7], [0, 1, 2, 3, 4, 5, 6, 7, 8], [0, 1, 2, 3, 4, 5, 6, 7, 8, 9], [0, 1, 2, 3, 4, 5, 6, 7, 8, 9, 10], [0, 1, 2, 3, 4, 5, 6, 7, 8, 9, 10, 11], [0, 1, 2, 3, 4, 5, 6, 7, 8, 9, 10, 11], [0, 1, 2, 3, 4, 5, 6, 7, 8, 9, 10, 11, 12, 13], [0, 1, 2, 3, 4, 5, 6, 7, 8, 9, 10, 11, 12, 13, 14], [0, 1, 2, 3, 4, 5, 6, 7, 8, 9, 10, 11, 12, 13, 14, 15], [0, 1, 2, 3, 4, 5, 6, 7, 8, 9, 10, 11, 12, 13, 14, 15, 16], [0, 1, 2, 3, 4, 5, 6, 7, 8, 9, 10, 11, 12, 13, 14, 15, 16, 17], [0, 1, 2, 3, 4, 5, 6, 7, 8, 9, 10, 11, 12, 13, 14, 15, 16, 17, 18]], [[36, 48], [36, 48], [36, 48], [36, 48], [48], [36, 48], [36, 48], [36, 48], [36, 48], [48], [48], [48], [48], [48], [48], [48], [], [], [], []]))], fun b => qr b [(0, (some 7, some ⟨[5, 17, 18, 19], [0, 1], []⟩))], fun _ => [], Ilib, false, fun r => qr r [(8, (3, [51]))], fun _ => none⟩
theorem qgD (J : Inv) (tx : ByteArray) (b0 b1 b2 b3 b4 b5 : Int) (post : DV → List CV → Prop) : evFnS Tryz.prog tab Ska58 q8L J Tryz.f39 (.t (.c (.v (.string tx)))) 90 25 6 [.v (.int .i64 b0), .v (.int .i64 b1), .v (.int .i64 b2), .v (.int .i64 b3), .v (.int .i64 b4), .v (.int .i64 b5)] post = q5Y tx b0 b1 b2 b3 b4 b5 post := by kernel_rfl
theorem qek (tx : ByteArray) (b0 b1 b2 b3 b4 b5 : Int) (hp : (tx).size ≤ 100000000) : q5Y tx b0 b1 b2 b3 b4 b5 (fun r' cs => LeD r' (.t (.c (.v (.bool (okTo tx 6 6))))) ∧ cs = [.v (.int .i64 (wrC tx 6 0 b0)), .v (.int .i64 (wrC tx 6 1 b1)), .v (.int .i64 (wrC tx 6 2 b2)), .v (.int .i64 (wrC tx 6 3 b3)), .v (.int .i64 (wrC tx 6 4 b4)), .v (.int .i64 (wrC tx 6 5 b5))]) := by
 unfold q5Y
 have hc := qgx tx 32
 rw [spl_cut] at hc ⊢
 rw [qkk] at hc ⊢
 refine ⟨⟨by omega, Nat.le_refl 1, hc⟩, qg (fun h => ?_) (fun h => ?_)⟩
 ·have h7 : nPc 32 tx ≠ 6 := fun e => by rw [e] at h; cases h
  rw [qE (q1L h7 1), qE (q1L h7 2), qE (q1L h7 3), qE (q1L h7 4), qE (q1L h7 5), qE (q1L h7 6), show okTo tx 6 6 = false from q1L h7 6]
  exact ⟨LeD.refl _, rfl⟩
 have h7 : nPc 32 tx = 6 := by
  have h : ((nPc 32 tx : Nat) : Int) = 6 := by simpa using h
  omega
 have o0 := qiK h7
 have hs : ∀ i, (ofL (wAt 32 tx i)).size ≤ 1000000000 := fun i => by rw [q1q]; exact Nat.le_trans qhI (by omega)
 rw [q2C (show 0 < nPc 32 tx by omega), q2C (show 1 < nPc 32 tx by omega), q2C (show 2 < nPc 32 tx by omega), q2C (show 3 < nPc 32 tx by omega), q2C (show 4 < nPc 32 tx by omega), q2C (show 5 < nPc 32 tx by omega)]
 simp only [bad_w]
 refine ⟨⟨by decide, by decide⟩, ⟨by decide, by omega⟩, hs 0, qg (fun _ => ⟨by trivial, by trivial, trivial⟩) (fun g => ⟨q4e (by simpa using g), ⟨by decide, by omega⟩, qg (fun _ => ⟨by trivial, trivial⟩) (fun _ => ⟨⟨by decide, by omega⟩, trivial⟩)⟩), lt_i fun y0 z0 => ?_⟩
 subst z0
 refine qg (fun g => ?_) (fun g => ?_)
 ·have g0 : (numR (wAt 32 tx 0) 5).isSome = false := by simpa using g
  have b1 : okTo tx 6 1 = false := by rw [qR, o0, g0]; rfl
  rw [qE (qq b1 (by decide)), qE (qq b1 (by decide)), qE (qq b1 (by decide)), qE (qq b1 (by decide)), qE (qq b1 (by decide)), qE (qq b1 (by decide)), show okTo tx 6 6 = false from qq b1 (by decide)]
  exact ⟨LeD.refl _, rfl⟩
 have g0 : (numR (wAt 32 tx 0) 5).isSome = true := by simpa using g
 have o1 : okTo tx 6 1 = true := by rw [qR, o0, g0]; rfl
 rw [val_w g0]
 refine ⟨⟨by decide, by decide⟩, ⟨by decide, by omega⟩, hs 1, qg (fun _ => ⟨by trivial, by trivial, trivial⟩) (fun g => ⟨q4e (by simpa using g), ⟨by decide, by omega⟩, qg (fun _ => ⟨by trivial, trivial⟩) (fun _ => ⟨⟨by decide, by omega⟩, trivial⟩)⟩), lt_i fun y1 z1 => ?_⟩
 subst z1
 refine qg (fun g => ?_) (fun g => ?_)
 ·have g1 : (numR (wAt 32 tx 1) 5).isSome = false := by simpa using g
  have b2 : okTo tx 6 2 = false := by rw [qR, o1, g1]; rfl
  rw [qL o1, qE (qq b2 (by decide)), qE (qq b2 (by decide)), qE (qq b2 (by decide)), qE (qq b2 (by decide)), qE (qq b2 (by decide)), show okTo tx 6 6 = false from qq b2 (by decide)]
  exact ⟨LeD.refl _, rfl⟩
 have g1 : (numR (wAt 32 tx 1) 5).isSome = true := by simpa using g
 have o2 : okTo tx 6 2 = true := by rw [qR, o1, g1]; rfl
 rw [val_w g1]
 refine ⟨⟨by decide, by decide⟩, ⟨by decide, by omega⟩, hs 2, qg (fun _ => ⟨by trivial, by trivial, trivial⟩) (fun g => ⟨q4e (by simpa using g), ⟨by decide, by omega⟩, qg (fun _ => ⟨by trivial, trivial⟩) (fun _ => ⟨⟨by decide, by omega⟩, trivial⟩)⟩), lt_i fun y2 z2 => ?_⟩
 subst z2
 refine qg (fun g => ?_) (fun g => ?_)
 ·have g2 : (numR (wAt 32 tx 2) 5).isSome = false := by simpa using g
  have b3 : okTo tx 6 3 = false := by rw [qR, o2, g2]; rfl
  rw [qL o1, qL o2, qE (qq b3 (by decide)), qE (qq b3 (by decide)), qE (qq b3 (by decide)), qE (qq b3 (by decide)), show okTo tx 6 6 = false from qq b3 (by decide)]
  exact ⟨LeD.refl _, rfl⟩
 have g2 : (numR (wAt 32 tx 2) 5).isSome = true := by simpa using g
 have o3 : okTo tx 6 3 = true := by rw [qR, o2, g2]; rfl
 rw [val_w g2]
 refine ⟨⟨by decide, by decide⟩, ⟨by decide, by omega⟩, hs 3, qg (fun _ => ⟨by trivial, by trivial, trivial⟩) (fun g => ⟨q4e (by simpa using g), ⟨by decide, by omega⟩, qg (fun _ => ⟨by trivial, trivial⟩) (fun _ => ⟨⟨by decide, by omega⟩, trivial⟩)⟩), lt_i fun y3 z3 => ?_⟩
 subst z3
 refine qg (fun g => ?_) (fun g => ?_)
 ·have g3 : (numR (wAt 32 tx 3) 5).isSome = false := by simpa using g
  have b4 : okTo tx 6 4 = false := by rw [qR, o3, g3]; rfl
  rw [qL o1, qL o2, qL o3, qE (qq b4 (by decide)), qE (qq b4 (by decide)), qE (qq b4 (by decide)), show okTo tx 6 6 = false from qq b4 (by decide)]
  exact ⟨LeD.refl _, rfl⟩
 have g3 : (numR (wAt 32 tx 3) 5).isSome = true := by simpa using g
 have o4 : okTo tx 6 4 = true := by rw [qR, o3, g3]; rfl
 rw [val_w g3]
 refine ⟨⟨by decide, by decide⟩, ⟨by decide, by omega⟩, hs 4, qg (fun _ => ⟨by trivial, by trivial, trivial⟩) (fun g => ⟨q4e (by simpa using g), ⟨by decide, by omega⟩, qg (fun _ => ⟨by trivial, trivial⟩) (fun _ => ⟨⟨by decide, by omega⟩, trivial⟩)⟩), lt_i fun y4 z4 => ?_⟩
 subst z4
 refine qg (fun g => ?_) (fun g => ?_)
 ·have g4 : (numR (wAt 32 tx 4) 5).isSome = false := by simpa using g
  have b5 : okTo tx 6 5 = false := by rw [qR, o4, g4]; rfl
  rw [qL o1, qL o2, qL o3, qL o4, qE (qq b5 (by decide)), qE (qq b5 (by decide)), show okTo tx 6 6 = false from qq b5 (by decide)]
  exact ⟨LeD.refl _, rfl⟩
 have g4 : (numR (wAt 32 tx 4) 5).isSome = true := by simpa using g
 have o5 : okTo tx 6 5 = true := by rw [qR, o4, g4]; rfl
 rw [val_w g4]
 refine ⟨⟨by decide, by decide⟩, ⟨by decide, by omega⟩, hs 5, qg (fun _ => ⟨by trivial, by trivial, trivial⟩) (fun g => ⟨q4e (by simpa using g), ⟨by decide, by omega⟩, qg (fun _ => ⟨by trivial, trivial⟩) (fun _ => ⟨⟨by decide, by omega⟩, trivial⟩)⟩), lt_i fun y5 z5 => ?_⟩
 subst z5
 refine qg (fun g => ?_) (fun g => ?_)
 ·have g5 : (numR (wAt 32 tx 5) 5).isSome = false := by simpa using g
  have b6 : okTo tx 6 6 = false := by rw [qR, o5, g5]; rfl
  rw [qL o1, qL o2, qL o3, qL o4, qL o5, qE (qq b6 (by decide)), show okTo tx 6 6 = false from qq b6 (by decide)]
  exact ⟨LeD.refl _, rfl⟩
 have g5 : (numR (wAt 32 tx 5) 5).isSome = true := by simpa using g
 have o6 : okTo tx 6 6 = true := by rw [qR, o5, g5]; rfl
 rw [val_w g5]
 rw [qL o1, qL o2, qL o3, qL o4, qL o5, qL o6, show okTo tx 6 6 = true from o6]
 exact ⟨LeD.refl _, rfl⟩
def q5g : Con := fun args => match args with
 | [.t (.c (.v (.string tx))), .t (.c (.px 6 0 c_b))] => some (.t (.c (.v (.bool (okTo tx 6 6)))), some (q4v 6 c_b = true ∧ (tx).size ≤ 100000000), .wrs 90 25 [.v (.int .i64 (wrC tx 6 0 (qb (c_b 0)))), .v (.int .i64 (wrC tx 6 1 (qb (c_b 1)))), .v (.int .i64 (wrC tx 6 2 (qb (c_b 2)))), .v (.int .i64 (wrC tx 6 3 (qb (c_b 3)))), .v (.int .i64 (wrC tx 6 4 (qb (c_b 4)))), .v (.int .i64 (wrC tx 6 5 (qb (c_b 5))))])
 | _ => none
theorem qgE : Ok Tryz.prog 39 q5g := by
 refine Ok.fnS (ann := q8L) mixed qo VSka58 VIlib (fn := Tryz.f39) (by kernel_rfl) (by kernel_rfl) (by kernel_rfl) fun args r pre fresh h hp => ?_
 unfold q5g at h
 split at h
 ·rename_i tx c_b
  cases h
  obtain ⟨hp0, hp⟩ := hp
  have e := qgy hp0
  refine ⟨_, 6, c_b, _, _, _, rfl, rfl, by rw [e]; rfl, Nat.le_of_ble_eq_true (by kernel_rfl), rfl, fun _ _ _ => False, _, (fun w N v h => h), ?_⟩
  rw [e]
  exact (qgD _ tx (qb (c_b 0)) (qb (c_b 1)) (qb (c_b 2)) (qb (c_b 3)) (qb (c_b 4)) (qb (c_b 5)) _).mpr (qek tx (qb (c_b 0)) (qb (c_b 1)) (qb (c_b 2)) (qb (c_b 3)) (qb (c_b 4)) (qb (c_b 5)) hp)
 ·cases h
def Ska59 : Sum := addF Ska58 39 q5g
theorem VSka59 : Valid Tryz.prog Ska59 := Valid.addF VSka58 qgE
def q2F (l : List TH) (v0_0 : List (List CV)) (v0_1 : Int) : DS := ⟨[none, none, none, some (.t (.c (.os 3))), none, none, some (.t (.c (.sl 5 l.length (qi l)))), some (.t (.c (.v (.int .i64 ((l.length : Nat) : Int))))), some (.t (.c (.v (.int .i64 v0_1)))), none, none, none, none, none, none, none, none, none, none, none, none, none, none, none, none, none, none, none, none, none, none, none, none], [none, none, none, some (.gen 9 1 v0_0), none, none, none, none, none, none, none, none, none, none, none, none, none, none, none, none, none, none, none, none, none, none, none, none, none, none, none, none, none]⟩
def q6w (J : Inv) (l : List TH) (post : DV → Prop) : Prop := ∃ n, J 0 (n :: []) (q2F l ([]) 0)
def q1A : Ann := ⟨fun _ => none, fun b => qr b [(0, (none, some ⟨[6, 7, 8], [], [(3, .gen 9 1 [])]⟩))], fun _ => [], Ilib, false, fun _ => none, fun _ => none⟩
def q5x (J : Inv) (l : List TH) (v0_0 : List (List CV)) (v0_1 : Int) (nn0 : Nat) (post : DV → Prop) : Prop := cond (decide (v0_1 < ((l.length : Nat) : Int))) ((0 ≤ v0_1 ∧ v0_1 < ((l.length : Nat) : Int)) ∧ ((0 ≤ (0 : Int) ∧ (0 : Int) < ((3 : Nat) : Int)) ∧ ((0 ≤ (1 : Int) ∧ (1 : Int) < ((3 : Nat) : Int)) ∧ ((0 ≤ (2 : Int) ∧ (2 : Int) < ((3 : Nat) : Int)) ∧ ((qj 1 5 (genC [[.v (.int .i64 ((qe l v0_1.toNat).p.x))], [.v (.int .i64 ((qe l v0_1.toNat).p.y))], [.v (.int .i64 ((qe l v0_1.toNat).p.z))], [.v (.int .i64 ((qe l v0_1.toNat).t))], [.v (.int .i64 ((qe l v0_1.toNat).w))]]) ∧ (([((qe l v0_1.toNat).p.x), ((qe l v0_1.toNat).p.y), ((qe l v0_1.toNat).p.z), ((qe l v0_1.toNat).t), ((qe l v0_1.toNat).w)] : List Int)).length ≤ 100 ∧ (∀ i, i < (([((qe l v0_1.toNat).p.x), ((qe l v0_1.toNat).p.y), ((qe l v0_1.toNat).p.z), ((qe l v0_1.toNat).t), ((qe l v0_1.toNat).w)] : List Int)).length → -9223372036854775808 ≤ (([((qe l v0_1.toNat).p.x), ((qe l v0_1.toNat).p.y), ((qe l v0_1.toNat).p.z), ((qe l v0_1.toNat).t), ((qe l v0_1.toNat).w)] : List Int)).getD i 0 ∧ (([((qe l v0_1.toNat).p.x), ((qe l v0_1.toNat).p.y), ((qe l v0_1.toNat).p.z), ((qe l v0_1.toNat).t), ((qe l v0_1.toNat).w)] : List Int)).getD i 0 ≤ 9223372036854775807)) ∧ ((q0k 16 (v0_0.length + ([[.v (.string (q1c ([((qe l v0_1.toNat).p.x), ((qe l v0_1.toNat).p.y), ((qe l v0_1.toNat).p.z), ((qe l v0_1.toNat).t), ((qe l v0_1.toNat).w)] : List Int)))]] : List (List CV)).length)) ∧ (lt (IntKind.i64.wrap (v0_1 + (1 : Int))) fun x1 => J 0 (nn0 :: []) (q2F l (v0_0 ++ ([[.v (.string (q1c ([((qe l v0_1.toNat).p.x), ((qe l v0_1.toNat).p.y), ((qe l v0_1.toNat).p.z), ((qe l v0_1.toNat).t), ((qe l v0_1.toNat).w)] : List Int)))]] : List (List CV))) x1)))))))) ((txP v0_0.length (genC v0_0) ∧ (txOf v0_0.length (genC v0_0)).length ≤ 1000000 ∧ (q4V (txOf v0_0.length (genC v0_0)) (⟨#[59]⟩)).size ≤ 1000000000) ∧ (post (.t (.c (.v (.string (q4V (txOf v0_0.length (genC v0_0)) (⟨#[59]⟩))))))))
theorem qck (J : Inv) (post : DV → Prop) : AllG J (qz Tryz.prog tab Ska59 q1A J Tryz.f7 post) = (((∀ F s, ¬ J 0 (0 :: F) s) ∧ ∀ n F s, J 0 ((n + 1) :: F) s → round Tryz.prog tab Ska59 q1A J Tryz.f7 post 0 (n :: F) s) ∧ True) := by kernel_rfl
def q1h (l : List TH) : Inv := fun b F s => match b, F with
 | 0, [nn0] => ∃ (v0_0 : List (List CV)) (v0_1 : Int), s = q2F l v0_0 v0_1 ∧ (((l).length ≤ 14 ∧ ∀ k, k < (l).length → rgH (qe l k)) ∧ 0 ≤ v0_1 ∧ v0_1 ≤ l.length ∧ (nn0 : Int) + v0_1 = l.length + 1 ∧ v0_0 = ((l.take v0_1.toNat).map hitW).map ttCv)
 | _, _ => False
theorem qa1 (l : List TH) (v0_0 : List (List CV)) (v0_1 : Int) (nn0 : Nat) (hp : (l).length ≤ 14 ∧ ∀ k, k < (l).length → rgH (qe l k)) (hi : ((l).length ≤ 14 ∧ ∀ k, k < (l).length → rgH (qe l k)) ∧ 0 ≤ v0_1 ∧ v0_1 ≤ l.length ∧ ((nn0 + 1) : Int) + v0_1 = l.length + 1 ∧ v0_0 = ((l.take v0_1.toNat).map hitW).map ttCv) : q5x (q1h l) l v0_0 v0_1 nn0 (fun r => LeD r (.t (.c (.v (.string (qm l)))))) := by
 obtain ⟨q, i1, i2, i3, i4⟩ := hi
 obtain ⟨k, rfl⟩ : ∃ k : Nat, v0_1 = k := ⟨v0_1.toNat, by omega⟩
 have hk : (k : Int).toNat = k := rfl
 rw [hk] at i4
 subst i4
 have z := qd9 q.1 q.2
 unfold q5x
 refine qg (fun h => ?_) (fun h => ?_)
 ·have hlt : k < l.length := by have := of_decide_eq_true h; omega
  have b := q.2 k hlt
  rw [Int.toNat_natCast]
  refine ⟨⟨by omega, by omega⟩, by decide, by decide, by decide, ⟨q0n [_, _, _, _, _], by simp, in5 b⟩, ⟨by simp; omega, by simp [maxLen]; omega⟩, lt_i fun x1 h1 => ?_⟩
  rw [wi (by omega)] at h1
  subst h1
  refine ⟨_, _, rfl, q, by omega, by omega, by omega, ?_⟩
  rw [show ((k : Int) + 1).toNat = k + 1 from rfl, qiI l TH.zero hlt, qiG]
  congr 1
  rw [List.map_append]
  rfl
 ·have e : k = l.length := by have := of_decide_eq_false h; omega
  subst e
  rw [List.take_length, qgw]
  refine ⟨⟨txP_ttg _, by simp; omega, by unfold qm at z; omega⟩, LeD.refl _⟩
theorem qaD (l : List TH) (hp : (l).length ≤ 14 ∧ ∀ k, k < (l).length → rgH (qe l k)) : q6w (q1h l) l (fun r => LeD r (.t (.c (.v (.string (qm l)))))) := by
 unfold q6w
 exact ⟨l.length + 1, [], 0, rfl, hp, by omega, by omega, by omega, rfl⟩
theorem qbK (l : List TH) (hp : (l).length ≤ 14 ∧ ∀ k, k < (l).length → rgH (qe l k)) : AllG (q1h l) (qz Tryz.prog tab Ska59 q1A (q1h l) Tryz.f7 (fun r => LeD r (.t (.c (.v (.string (qm l))))))) := by
 rw [qck]
 refine ⟨⟨?_, ?_⟩, trivial⟩
 ·intro F s h
  obtain _ | ⟨g, F⟩ := F
  case cons => exact h.elim
  obtain ⟨w0, w1, rfl, hi⟩ := h
  omega
 ·intro n F s h
  obtain _ | ⟨g, F⟩ := F
  case cons => exact h.elim
  obtain ⟨w0, w1, rfl, hi⟩ := h
  exact cast (by kernel_rfl) (qa1 l _ _ _ hp hi)
def q3f : Con := fun args => match args with
 | [.t (.c (.sl 5 n_l c_l))] => some (.t (.c (.v (.string (qm (qa n_l qc c_l))))), some (qj 5 n_l c_l ∧ ((qa n_l qc c_l)).length ≤ 14 ∧ ∀ k, k < ((qa n_l qc c_l)).length → rgH (qe (qa n_l qc c_l) k)), false)
 | _ => none
theorem qcl : Ok Tryz.prog 7 q3f := by
 refine Ok.fn (ann := q1A) mixed qo VSka59 VIlib (fn := Tryz.f7) (by kernel_rfl) (by kernel_rfl) (by kernel_rfl) fun args r pre fresh h hp => ?_
 unfold q3f at h
 split at h
 ·rename_i n_l c_l
  cases h
  obtain ⟨hp0, hp⟩ := hp
  refine ⟨rfl, q1h (qa n_l qc c_l), _, (qk (leT_c ((qY hp0))) qM), Nat.le_of_ble_eq_true (by kernel_rfl), ?_, ?_⟩
  ·exact cast (by kernel_rfl) (qaD (qa n_l qc c_l) hp)
  ·exact qbK (qa n_l qc c_l) hp
 ·cases h
def Ska60 : Sum := addS Ska59 7 q3f
theorem VSka60 : Valid Tryz.prog Ska60 := Valid.add VSka59 qcl
def q7m (b0 b1 b2 b3 b4 b5 : Int) (post : DV → Prop) : Prop := (0 ≤ (0 : Int) ∧ (0 : Int) < ((3 : Nat) : Int)) ∧ ((0 ≤ (1 : Int) ∧ (1 : Int) < ((3 : Nat) : Int)) ∧ ((0 ≤ (2 : Int) ∧ (2 : Int) < ((3 : Nat) : Int)) ∧ ((0 ≤ (0 : Int) ∧ (0 : Int) < ((3 : Nat) : Int)) ∧ ((0 ≤ (1 : Int) ∧ (1 : Int) < ((3 : Nat) : Int)) ∧ ((0 ≤ (2 : Int) ∧ (2 : Int) < ((3 : Nat) : Int)) ∧ ((qj 1 6 (genC [[.v (.int .i64 b0)], [.v (.int .i64 b1)], [.v (.int .i64 b2)], [.v (.int .i64 b3)], [.v (.int .i64 b4)], [.v (.int .i64 b5)]]) ∧ (([b0, b1, b2, b3, b4, b5] : List Int)).length ≤ 100 ∧ (∀ i, i < (([b0, b1, b2, b3, b4, b5] : List Int)).length → -9223372036854775808 ≤ (([b0, b1, b2, b3, b4, b5] : List Int)).getD i 0 ∧ (([b0, b1, b2, b3, b4, b5] : List Int)).getD i 0 ≤ 9223372036854775807)) ∧ (post (.t (.c (.v (.string (q1c ([b0, b1, b2, b3, b4, b5] : List Int)))))))))))))
def qcm : Ann := ⟨fun _ => none, fun _ => none, fun _ => [], Ilib, false, fun _ => none, fun _ => none⟩
theorem qbL (b0 b1 b2 b3 b4 b5 : Int) (hp : rgB (TB.mk (.mk b0 b1 b2) (.mk b3 b4 b5))) : q7m b0 b1 b2 b3 b4 b5 (fun r => LeD r (.t (.c (.v (.string (boxT (TB.mk (.mk b0 b1 b2) (.mk b3 b4 b5)))))))) := by
 unfold q7m
 exact ⟨by decide, by decide, by decide, by decide, by decide, by decide, ⟨q0n [_, _, _, _, _, _], by simp, in6 (b := (TB.mk (.mk b0 b1 b2) (.mk b3 b4 b5))) hp⟩, LeD.refl _⟩
def q3A : Con := fun args => match args with
 | [.t (.a [.v (.int .i64 b0), .v (.int .i64 b1), .v (.int .i64 b2), .v (.int .i64 b3), .v (.int .i64 b4), .v (.int .i64 b5)])] => some (.t (.c (.v (.string (boxT (TB.mk (.mk b0 b1 b2) (.mk b3 b4 b5)))))), some (rgB (TB.mk (.mk b0 b1 b2) (.mk b3 b4 b5))), false)
 | _ => none
theorem qdb : Ok Tryz.prog 9 q3A := by
 refine Ok.fn (ann := qcm) mixed qo VSka60 VIlib (fn := Tryz.f9) (by kernel_rfl) (by kernel_rfl) (by kernel_rfl) fun args r pre fresh h hp => ?_
 unfold q3A at h
 split at h
 ·rename_i b0 b1 b2 b3 b4 b5
  cases h
  refine ⟨rfl, fun _ _ _ => False, _, LeA.refl _, Nat.le_of_ble_eq_true (by kernel_rfl), ?_, ?_⟩
  ·exact cast (by kernel_rfl) (qbL b0 b1 b2 b3 b4 b5 hp)
  ·exact cast (by kernel_rfl) trivial
 ·cases h
def Ska61 : Sum := addS Ska60 9 q3A
theorem VSka61 : Valid Tryz.prog Ska61 := Valid.add VSka60 qdb
def q3g (tx : ByteArray) (v0_0 : List (List CV)) (v0_1 : List (List CV)) (v0_2 : ByteArray) : DS := ⟨[none, none, some (.t (.c (.p 2 0))), some (.t (.c (.p 3 0))), some (.t (.c (.p 4 0))), none, none, none, none, none, none, none, none, none, some (.t (.fn 108 [.px 1 0 (fun _ => .v (.string (⟨#[59]⟩))), .p 14 0, .px 1 0 (fun _ => .v (.int .i64 0))])), none, none, none, none, none, none, none, none, none, none, none, none, none, none, none, none, none, none, none, none, none, none, none], [some (.gen 57 5 v0_0), some (.gen 57 5 v0_1), some (.box 22 [.os 0]), some (.box 31 [.v (.int .i64 0)]), some (.box 22 [.os 1]), none, none, none, none, none, none, none, none, none, some (.box 9 [.v (.string v0_2)]), none, none, none, none, none, none, none, none, none, none, none, none, none, none, none, none, none, none, none, none, none, none, none]⟩
def q7n (J : Inv) (tx : ByteArray) (post : DV → Prop) : Prop := cond (decide ((((tx : ByteArray).size : Nat) : Int) > (60000 : Int))) (post (.tu [.c (.v (.slice none 0 0)), .c (.v (.int .i64 8))])) (cond ((tx : ByteArray).toList == (⟨#[]⟩ : ByteArray).toList) (post (.tu [.c (.v (.slice none 0 0)), .c (.v (.int .i64 0))])) ((sepP (.v (.string (⟨#[59]⟩))) ∧ (.v (.string tx) : CV) = .v (.string tx) ∧ tx.size ≤ 1000000000 ∧ (.v (.int .i64 0) : CV) = .v (.int .i64 0)) ∧ (J 0 [0] (q3g tx ([]) ([]) tx))))
def q1R : Ann := ⟨fun _ => none, fun b => qr b [(0, (none, some ⟨[2, 3, 4, 14], [2, 3, 4, 14], []⟩))], fun b => (qr b [(0, [(2, 0, 0, .gen 57 5 []), (4, 0, 1, .gen 57 5 [])])]).getD [], Ilib, false, fun _ => none, fun _ => none⟩
def q5Z (J : Inv) (tx : ByteArray) (v0_0 : List (List CV)) (v0_1 : List (List CV)) (v0_2 : ByteArray) (nn0 : Nat) (post : DV → Prop) : Prop := (0 ≤ (0 : Int) ∧ (0 : Int) < ((3 : Nat) : Int)) ∧ ((0 ≤ (1 : Int) ∧ (1 : Int) < ((3 : Nat) : Int)) ∧ ((0 ≤ (2 : Int) ∧ (2 : Int) < ((3 : Nat) : Int)) ∧ ((q4v 5 (boxC [.v (.int .i64 0), .v (.int .i64 0), .v (.int .i64 0), .v (.int .i64 0), .v (.int .i64 0)]) = true ∧ ((cutA v0_2 (⟨#[59]⟩))).size ≤ 100000000) ∧ (cond (!(okTo (cutA v0_2 (⟨#[59]⟩)) 5 5)) (post (.tu [.c (.sl 5 0 (genC [])), .c (.v (.int .i64 7))])) ((q0k 40 (v0_1.length + ([[.v (.int .i64 (wrC (cutA v0_2 (⟨#[59]⟩)) 5 0 (0 : Int))), .v (.int .i64 (wrC (cutA v0_2 (⟨#[59]⟩)) 5 1 (0 : Int))), .v (.int .i64 (wrC (cutA v0_2 (⟨#[59]⟩)) 5 2 (0 : Int))), .v (.int .i64 (wrC (cutA v0_2 (⟨#[59]⟩)) 5 3 (0 : Int))), .v (.int .i64 (wrC (cutA v0_2 (⟨#[59]⟩)) 5 4 (0 : Int)))]] : List (List CV)).length)) ∧ (((some (.t (.fn 108 [.px 1 0 (fun _ => .v (.string (⟨#[59]⟩))), .p 14 0, .px 1 0 (fun _ => .v (.int .i64 0))])) : Option DV) = some (.t (.fn 108 [.px 1 0 (fun _ => .v (.string (⟨#[59]⟩))), .p 14 0, .px 1 0 (fun _ => .v (.int .i64 0))]))) ∧ ((some (.box 9 [.v (.string v0_2)]) : Option Row) = some (.box 9 [.v (.string v0_2)])) ∧ cond (cutH v0_2 (⟨#[59]⟩)) (J 0 [nn0 + 1] (q3g tx v0_0 (v0_1 ++ ([[.v (.int .i64 (wrC (cutA v0_2 (⟨#[59]⟩)) 5 0 (0 : Int))), .v (.int .i64 (wrC (cutA v0_2 (⟨#[59]⟩)) 5 1 (0 : Int))), .v (.int .i64 (wrC (cutA v0_2 (⟨#[59]⟩)) 5 2 (0 : Int))), .v (.int .i64 (wrC (cutA v0_2 (⟨#[59]⟩)) 5 3 (0 : Int))), .v (.int .i64 (wrC (cutA v0_2 (⟨#[59]⟩)) 5 4 (0 : Int)))]] : List (List CV))) (cutZ v0_2 (⟨#[59]⟩)))) ((qj 5 ((v0_1 ++ ([[.v (.int .i64 (wrC (cutA v0_2 (⟨#[59]⟩)) 5 0 (0 : Int))), .v (.int .i64 (wrC (cutA v0_2 (⟨#[59]⟩)) 5 1 (0 : Int))), .v (.int .i64 (wrC (cutA v0_2 (⟨#[59]⟩)) 5 2 (0 : Int))), .v (.int .i64 (wrC (cutA v0_2 (⟨#[59]⟩)) 5 3 (0 : Int))), .v (.int .i64 (wrC (cutA v0_2 (⟨#[59]⟩)) 5 4 (0 : Int)))]] : List (List CV))).length) (genC (v0_1 ++ ([[.v (.int .i64 (wrC (cutA v0_2 (⟨#[59]⟩)) 5 0 (0 : Int))), .v (.int .i64 (wrC (cutA v0_2 (⟨#[59]⟩)) 5 1 (0 : Int))), .v (.int .i64 (wrC (cutA v0_2 (⟨#[59]⟩)) 5 2 (0 : Int))), .v (.int .i64 (wrC (cutA v0_2 (⟨#[59]⟩)) 5 3 (0 : Int))), .v (.int .i64 (wrC (cutA v0_2 (⟨#[59]⟩)) 5 4 (0 : Int)))]] : List (List CV))))) ∧ (cond ((ql (qa ((v0_1 ++ ([[.v (.int .i64 (wrC (cutA v0_2 (⟨#[59]⟩)) 5 0 (0 : Int))), .v (.int .i64 (wrC (cutA v0_2 (⟨#[59]⟩)) 5 1 (0 : Int))), .v (.int .i64 (wrC (cutA v0_2 (⟨#[59]⟩)) 5 2 (0 : Int))), .v (.int .i64 (wrC (cutA v0_2 (⟨#[59]⟩)) 5 3 (0 : Int))), .v (.int .i64 (wrC (cutA v0_2 (⟨#[59]⟩)) 5 4 (0 : Int)))]] : List (List CV))).length) qc (genC (v0_1 ++ ([[.v (.int .i64 (wrC (cutA v0_2 (⟨#[59]⟩)) 5 0 (0 : Int))), .v (.int .i64 (wrC (cutA v0_2 (⟨#[59]⟩)) 5 1 (0 : Int))), .v (.int .i64 (wrC (cutA v0_2 (⟨#[59]⟩)) 5 2 (0 : Int))), .v (.int .i64 (wrC (cutA v0_2 (⟨#[59]⟩)) 5 3 (0 : Int))), .v (.int .i64 (wrC (cutA v0_2 (⟨#[59]⟩)) 5 4 (0 : Int)))]] : List (List CV)))))) != (0 : Int)) (post (.tu [.c (.v (.slice none 0 0)), .c (.v (.int .i64 (ql (qa ((v0_1 ++ ([[.v (.int .i64 (wrC (cutA v0_2 (⟨#[59]⟩)) 5 0 (0 : Int))), .v (.int .i64 (wrC (cutA v0_2 (⟨#[59]⟩)) 5 1 (0 : Int))), .v (.int .i64 (wrC (cutA v0_2 (⟨#[59]⟩)) 5 2 (0 : Int))), .v (.int .i64 (wrC (cutA v0_2 (⟨#[59]⟩)) 5 3 (0 : Int))), .v (.int .i64 (wrC (cutA v0_2 (⟨#[59]⟩)) 5 4 (0 : Int)))]] : List (List CV))).length) qc (genC (v0_1 ++ ([[.v (.int .i64 (wrC (cutA v0_2 (⟨#[59]⟩)) 5 0 (0 : Int))), .v (.int .i64 (wrC (cutA v0_2 (⟨#[59]⟩)) 5 1 (0 : Int))), .v (.int .i64 (wrC (cutA v0_2 (⟨#[59]⟩)) 5 2 (0 : Int))), .v (.int .i64 (wrC (cutA v0_2 (⟨#[59]⟩)) 5 3 (0 : Int))), .v (.int .i64 (wrC (cutA v0_2 (⟨#[59]⟩)) 5 4 (0 : Int)))]] : List (List CV))))))))])) (post (.tu [.c (.sl 5 ((v0_1 ++ ([[.v (.int .i64 (wrC (cutA v0_2 (⟨#[59]⟩)) 5 0 (0 : Int))), .v (.int .i64 (wrC (cutA v0_2 (⟨#[59]⟩)) 5 1 (0 : Int))), .v (.int .i64 (wrC (cutA v0_2 (⟨#[59]⟩)) 5 2 (0 : Int))), .v (.int .i64 (wrC (cutA v0_2 (⟨#[59]⟩)) 5 3 (0 : Int))), .v (.int .i64 (wrC (cutA v0_2 (⟨#[59]⟩)) 5 4 (0 : Int)))]] : List (List CV))).length) (genC (v0_1 ++ ([[.v (.int .i64 (wrC (cutA v0_2 (⟨#[59]⟩)) 5 0 (0 : Int))), .v (.int .i64 (wrC (cutA v0_2 (⟨#[59]⟩)) 5 1 (0 : Int))), .v (.int .i64 (wrC (cutA v0_2 (⟨#[59]⟩)) 5 2 (0 : Int))), .v (.int .i64 (wrC (cutA v0_2 (⟨#[59]⟩)) 5 3 (0 : Int))), .v (.int .i64 (wrC (cutA v0_2 (⟨#[59]⟩)) 5 4 (0 : Int)))]] : List (List CV))))), .c (.v (.int .i64 0))]))))))))))
theorem qdc (J : Inv) (post : DV → Prop) : AllG J (qz Tryz.prog tab Ska61 q1R J Tryz.f10 post) = ((∀ i s, J 0 [i] s → round Tryz.prog tab Ska61 q1R J Tryz.f10 post 0 [i] s) ∧ True) := by kernel_rfl
def q1u (tx : ByteArray) : Inv := fun b F s => match b, F with
 | 0, [nn0] => ∃ (v0_0 : List (List CV)) (v0_1 : List (List CV)) (v0_2 : ByteArray), s = q3g tx v0_0 v0_1 v0_2 ∧ (tx.size ≤ 60000 ∧ tx.size ≠ 0 ∧ nn0 < nPc 59 tx ∧ v0_0 = [] ∧ v0_1 = (hsK tx nn0).map qf ∧ v0_2 = ofL (remC 59 tx.data.toList nn0) ∧ ∀ j, j < nn0 → hitB (q0X tx j) = true)
 | _, _ => False
theorem qaE (tx : ByteArray) (v0_0 : List (List CV)) (v0_1 : List (List CV)) (v0_2 : ByteArray) (nn0 : Nat) (hp : (tx).size ≤ 100000000) (hi : tx.size ≤ 60000 ∧ tx.size ≠ 0 ∧ nn0 < nPc 59 tx ∧ v0_0 = [] ∧ v0_1 = (hsK tx nn0).map qf ∧ v0_2 = ofL (remC 59 tx.data.toList nn0) ∧ ∀ j, j < nn0 → hitB (q0X tx j) = true) : q5Z (q1u tx) tx v0_0 v0_1 v0_2 nn0 (fun r => LeD r (.tu [.c (.sl 5 ((phL tx).length) (qi (phL tx))), .c (.v (.int .i64 (phE tx)))])) := by
 obtain ⟨q, q0, i1, i2, i3, i4, i5⟩ := hi
 subst i2 i3 i4
 have np := nPc_le 59 tx
 unfold q5Z
 rw [cutA_rem i1, cutH_rem i1, show ofL (wAt 59 tx nn0) = q0X tx nn0 from rfl]
 refine ⟨by decide, by decide, by decide, ⟨rfl, Nat.le_trans qmy (by omega)⟩, qg (fun g => ?_) (fun g => ?_)⟩
 ·have g : hitB (q0X tx nn0) = false := by unfold hitB; simpa using g
  obtain ⟨e1, e2⟩ := phE_syn q q0 (synH_no i1 g)
  rw [e1, e2]
  exact le_tu (qai []) (LeD.refl _)
 ·have g : okTo (q0X tx nn0) 5 5 = true := by simpa using g
  have all : ∀ j, j < nn0 + 1 → hitB (q0X tx j) = true := fun j hj => by
   rcases (by omega : j < nn0 ∨ j = nn0) with c | rfl
   ·exact i5 j c
   ·exact g
  rw [q2D g (show 0 < 5 by decide), q2D g (show 1 < 5 by decide), q2D g (show 2 < 5 by decide), q2D g (show 3 < 5 by decide), q2D g (show 4 < 5 by decide)]
  have ea : (hsK tx nn0).map qf ++ [[.v (.int .i64 (valW (q0X tx nn0) 5 0)), .v (.int .i64 (valW (q0X tx nn0) 5 1)), .v (.int .i64 (valW (q0X tx nn0) 5 2)), .v (.int .i64 (valW (q0X tx nn0) 5 3)), .v (.int .i64 (valW (q0X tx nn0) 5 4))]] = (hsK tx (nn0 + 1)).map qf := by
   rw [hsK_succ, List.map_append]; rfl
  rw [ea, qbw]
  refine ⟨by simp [q0k, maxLen, hsK_len]; omega, rfl, rfl, qg (fun h => ?_) (fun h => ⟨qbv _, ?_⟩)⟩
  ·have h := of_decide_eq_true h
   rw [cutZ_rem h]
   exact ⟨_, _, _, rfl, q, q0, h, rfl, rfl, rfl, all⟩
  ·have h := of_decide_eq_false h
   have en : nn0 + 1 = nPc 59 tx := by omega
   rw [en] at all ⊢
   have e : phE tx = ql (hsK tx (nPc 59 tx)) := phE_ok q q0 (qkn all)
   rw [← e]
   refine qg (fun g => ?_) (fun g => ?_)
   ·have g : phE tx ≠ 0 := by simpa using g
    rw [phL_no g]
    exact le_tu q3V (LeD.refl _)
   ·have g : phE tx = 0 := by simpa using g
    rw [phL_ok q0 g, g]
    exact le_tu (qai _) (LeD.refl _)
theorem qbM (tx : ByteArray) (hp : (tx).size ≤ 100000000) : q7n (q1u tx) tx (fun r => LeD r (.tu [.c (.sl 5 ((phL tx).length) (qi (phL tx))), .c (.v (.int .i64 (phE tx)))])) := by
 unfold q7n
 rw [beq_txt]
 refine qg (fun h => ?_) (fun h => qg (fun h0 => ?_) (fun h0 => ?_))
 ·have h := of_decide_eq_true h
  have e : phE tx = 8 := if_pos (by omega)
  rw [phL_no (by rw [e]; decide), e]
  exact le_tu q3V (LeD.refl _)
 ·have h0 : tx = ⟨#[]⟩ := of_decide_eq_true h0
  subst h0
  exact le_tu q3V (LeD.refl _)
 ·have h := of_decide_eq_false h
  have h0 := of_decide_eq_false h0
  exact ⟨⟨⟨59, rfl⟩, rfl, by omega, rfl⟩, _, _, _, rfl, by omega, sz_ne h0, nPc_pos _ _, rfl, rfl, (q3d tx).symm, fun j hj => absurd hj (Nat.not_lt_zero _)⟩
theorem qcn (tx : ByteArray) (hp : (tx).size ≤ 100000000) : AllG (q1u tx) (qz Tryz.prog tab Ska61 q1R (q1u tx) Tryz.f10 (fun r => LeD r (.tu [.c (.sl 5 ((phL tx).length) (qi (phL tx))), .c (.v (.int .i64 (phE tx)))]))) := by
 rw [qdc]
 refine ⟨?_, trivial⟩
 ·intro i s h
  obtain ⟨w0, w1, w2, rfl, hi⟩ := h
  exact cast (by kernel_rfl) (qaE tx _ _ _ _ hp hi)
def q3B : Con := fun args => match args with
 | [.t (.c (.v (.string tx)))] => some (.tu [.c (.sl 5 ((phL tx).length) (qi (phL tx))), .c (.v (.int .i64 (phE tx)))], some ((tx).size ≤ 100000000), false)
 | _ => none
theorem qdd : Ok Tryz.prog 10 q3B := by
 refine Ok.fn (ann := q1R) mixed qo VSka61 VIlib (fn := Tryz.f10) (by kernel_rfl) (by kernel_rfl) (by kernel_rfl) fun args r pre fresh h hp => ?_
 unfold q3B at h
 split at h
 ·rename_i tx
  cases h
  refine ⟨rfl, q1u tx, _, LeA.refl _, Nat.le_of_ble_eq_true (by kernel_rfl), ?_, ?_⟩
  ·exact cast (by kernel_rfl) (qbM tx hp)
  ·exact qcn tx hp
 ·cases h
def Ska62 : Sum := addS Ska61 10 q3B
theorem VSka62 : Valid Tryz.prog Ska62 := Valid.add VSka61 qdd
def q7L (tx : ByteArray) (post : DV → Prop) : Prop := (0 ≤ (0 : Int) ∧ (0 : Int) < ((3 : Nat) : Int)) ∧ ((0 ≤ (1 : Int) ∧ (1 : Int) < ((3 : Nat) : Int)) ∧ ((0 ≤ (2 : Int) ∧ (2 : Int) < ((3 : Nat) : Int)) ∧ ((0 ≤ (0 : Int) ∧ (0 : Int) < ((3 : Nat) : Int)) ∧ ((0 ≤ (1 : Int) ∧ (1 : Int) < ((3 : Nat) : Int)) ∧ ((0 ≤ (2 : Int) ∧ (2 : Int) < ((3 : Nat) : Int)) ∧ ((q4v 6 (boxC [.v (.int .i64 0), .v (.int .i64 0), .v (.int .i64 0), .v (.int .i64 0), .v (.int .i64 0), .v (.int .i64 0)]) = true ∧ (tx).size ≤ 100000000) ∧ (cond (!(okTo tx 6 6)) (post (.tu [.a [.v (.int .i64 0), .v (.int .i64 0), .v (.int .i64 0), .v (.int .i64 0), .v (.int .i64 0), .v (.int .i64 0)], .c (.v (.int .i64 7))])) (cond ((((⟨⟨(wrC tx 6 0 (0 : Int)), (wrC tx 6 1 (0 : Int)), (wrC tx 6 2 (0 : Int))⟩, ⟨(wrC tx 6 3 (0 : Int)), (wrC tx 6 4 (0 : Int)), (wrC tx 6 5 (0 : Int))⟩⟩ : TB)).err) != (0 : Int)) (post (.tu [.a [.v (.int .i64 0), .v (.int .i64 0), .v (.int .i64 0), .v (.int .i64 0), .v (.int .i64 0), .v (.int .i64 0)], .c (.v (.int .i64 (((⟨⟨(wrC tx 6 0 (0 : Int)), (wrC tx 6 1 (0 : Int)), (wrC tx 6 2 (0 : Int))⟩, ⟨(wrC tx 6 3 (0 : Int)), (wrC tx 6 4 (0 : Int)), (wrC tx 6 5 (0 : Int))⟩⟩ : TB)).err)))])) (post (.tu [.a [.v (.int .i64 (wrC tx 6 0 (0 : Int))), .v (.int .i64 (wrC tx 6 1 (0 : Int))), .v (.int .i64 (wrC tx 6 2 (0 : Int))), .v (.int .i64 (wrC tx 6 3 (0 : Int))), .v (.int .i64 (wrC tx 6 4 (0 : Int))), .v (.int .i64 (wrC tx 6 5 (0 : Int)))], .c (.v (.int .i64 0))]))))))))))
def qde : Ann := ⟨fun _ => none, fun _ => none, fun _ => [], Ilib, false, fun _ => none, fun _ => none⟩
theorem qco (tx : ByteArray) (hp : (tx).size ≤ 100000000) : q7L tx (fun r => LeD r (.tu [.a [.v (.int .i64 ((pbX tx).lo.x)), .v (.int .i64 ((pbX tx).lo.y)), .v (.int .i64 ((pbX tx).lo.z)), .v (.int .i64 ((pbX tx).hi.x)), .v (.int .i64 ((pbX tx).hi.y)), .v (.int .i64 ((pbX tx).hi.z))], .c (.v (.int .i64 (pbE tx)))])) := by
 unfold q7L
 refine ⟨by decide, by decide, by decide, by decide, by decide, by decide, ⟨rfl, hp⟩, qg (fun g => ?_) (fun g => ?_)⟩
 ·obtain ⟨e1, e2⟩ := pb_syn (s := tx) (by unfold boxB; simpa using g)
  rw [e1, e2]
  exact LeD.refl _
 ·have g : okTo tx 6 6 = true := by simpa using g
  rw [q2D g (show 0 < 6 by decide), q2D g (show 1 < 6 by decide), q2D g (show 2 < 6 by decide), q2D g (show 3 < 6 by decide), q2D g (show 4 < 6 by decide), q2D g (show 5 < 6 by decide)]
  rw [show (⟨⟨valW tx 5 0, valW tx 5 1, valW tx 5 2⟩, ⟨valW tx 5 3, valW tx 5 4, valW tx 5 5⟩⟩ : TB).err = pbE tx from (pb_ok g).symm]
  refine qg (fun h => ?_) (fun h => ?_)
  ·rw [pbX_no (by simpa using h)]
   exact LeD.refl _
  ·have h : pbE tx = 0 := by simpa using h
   rw [pbX_yes h, h]
   exact LeD.refl _
def q4f : Con := fun args => match args with
 | [.t (.c (.v (.string tx)))] => some (.tu [.a [.v (.int .i64 ((pbX tx).lo.x)), .v (.int .i64 ((pbX tx).lo.y)), .v (.int .i64 ((pbX tx).lo.z)), .v (.int .i64 ((pbX tx).hi.x)), .v (.int .i64 ((pbX tx).hi.y)), .v (.int .i64 ((pbX tx).hi.z))], .c (.v (.int .i64 (pbE tx)))], some ((tx).size ≤ 100000000), false)
 | _ => none
theorem qel : Ok Tryz.prog 11 q4f := by
 refine Ok.fn (ann := qde) mixed qo VSka62 VIlib (fn := Tryz.f11) (by kernel_rfl) (by kernel_rfl) (by kernel_rfl) fun args r pre fresh h hp => ?_
 unfold q4f at h
 split at h
 ·rename_i tx
  cases h
  refine ⟨rfl, fun _ _ _ => False, _, LeA.refl _, Nat.le_of_ble_eq_true (by kernel_rfl), ?_, ?_⟩
  ·exact cast (by kernel_rfl) (qco tx hp)
  ·exact cast (by kernel_rfl) trivial
 ·cases h
def Ska63 : Sum := addS Ska62 11 q4f
theorem VSka63 : Valid Tryz.prog Ska63 := Valid.add VSka62 qel
end Go.Proofs.YtfadkjcfjkmalaaGreatDoor
