/- Texts of this claim, together. -/
import Derived.RangeFuncLeaves
import Derived.OwnWalkIn
import Derived.TacticsInMore
import Derived.LoopNIn
import Derived.LoopIn
import Derived.Test.YtlapeoboekchpaaGreatDoorTS11
import Derived.Lib.AtoiAllCases
import Derived.Laws.BytesArg

set_option linter.unusedVariables false
set_option linter.unusedSimpArgs false
namespace Go.Proofs.YtlapeoboekchpaaGreatDoor
open Go.RowKit Ev
def remC (c : UInt8) (l : List UInt8) : Nat → List UInt8
 | 0 => l
 | i + 1 => aftC c (remC c l i)
theorem rem_pcs (c : UInt8) (l : List UInt8) : ∀ i, i < (pcs c l).length → (pcs c (remC c l i)).length + i = (pcs c l).length
 | 0, _ => rfl
 | i + 1, h => by
  have ih := rem_pcs c l i (by omega)
  have e := pcs_eq c (remC c l i)
  by_cases hh : hasC c (remC c l i) = true
  ·rw [if_pos hh] at e
   rw [e, List.length_cons] at ih
   show (pcs c (aftC c (remC c l i))).length + (i + 1) = _
   omega
  ·rw [if_neg hh] at e
   rw [e, List.length_singleton] at ih
   omega
theorem rem_has {c : UInt8} {l : List UInt8} {i : Nat} (h : i < (pcs c l).length) : hasC c (remC c l i) = true ↔ i + 1 < (pcs c l).length := by
 have ih := rem_pcs c l i h
 have e := pcs_eq c (remC c l i)
 by_cases hh : hasC c (remC c l i) = true
 ·rw [if_pos hh] at e
  rw [e, List.length_cons] at ih
  have := List.length_pos_iff.2 (pcs_ne c (aftC c (remC c l i)))
  exact ⟨fun _ => by omega, fun _ => hh⟩
 ·rw [if_neg hh] at e
  rw [e, List.length_singleton] at ih
  exact ⟨fun h => absurd h hh, fun _ => by omega⟩
theorem rem_len (c : UInt8) (l : List UInt8) : ∀ i, (remC c l i).length ≤ l.length
 | 0 => Nat.le_refl _
 | i + 1 => by
  have := rem_len c l i
  show (aftC c (remC c l i)).length ≤ _
  unfold aftC
  have h1 := (List.dropWhile_sublist (l := remC c l i) (· != c)).length_le
  rw [List.length_drop]
  omega
theorem rem_at {c : UInt8} {l : List UInt8} {i : Nat} (h : i < (pcs c l).length) : (pcs c l).drop i = pcs c (remC c l i) := by
 induction i with
 | zero => rfl
 | succ i ih =>
  have hi := ih (by omega)
  have hh := (rem_has (show i < (pcs c l).length by omega)).2 h
  rw [← List.drop_drop, hi, pcs_eq c (remC c l i), if_pos hh]
  rfl
theorem cutA_one (c : UInt8) (l : List UInt8) : cutA (ofL l) ⟨#[c]⟩ = ofL (if hasC c l = true then befC c l else l) := by
 unfold cutA
 rw [ofL_data, show (⟨#[c]⟩ : ByteArray).data.toList = [c] from rfl, cut_one]
 split <;> rfl
theorem cutZ_one (c : UInt8) (l : List UInt8) : cutZ (ofL l) ⟨#[c]⟩ = ofL (if hasC c l = true then aftC c l else []) := by
 unfold cutZ
 rw [ofL_data, show (⟨#[c]⟩ : ByteArray).data.toList = [c] from rfl, cut_one]
 split <;> rfl
theorem cutH_one (c : UInt8) (l : List UInt8) : cutH (ofL l) ⟨#[c]⟩ = hasC c l := by
 unfold cutH
 rw [ofL_data, show (⟨#[c]⟩ : ByteArray).data.toList = [c] from rfl, cut_one]
 split
 ·rename_i h; rw [h]
 ·rename_i h; simpa using h
def strAt (w : World) (B : Nat) : Nat := match w.cell? ⟨B, 0, none⟩ with
 | some (.string s) => s.size
 | _ => 0
theorem strAt_of {w : World} {B : Nat} {s : ByteArray} {ty : TypeId} {p : Nat × Nat} (h : w.heap[B]? = some (.cells #[.string s] ty p)) : strAt w B = s.size := by
 unfold strAt World.cell?
 simp [h]
theorem ext_take (l : List UInt8) (a : Nat) : (ofL l).extract 0 a = ofL (l.take a) := by
 rw [← ofL_back ((ofL l).extract 0 a), Lib.extract_from_zero, ofL_data]
theorem ext_drop (l : List UInt8) (a : Nat) : (ofL l).extract a (ofL l).size = ofL (l.drop a) := by
 rw [← ofL_back ((ofL l).extract a (ofL l).size), Lib.extract_to_end, ofL_data]
theorem take_bef {c : UInt8} {l : List UInt8} (h : hasC c l = true) : befC c l = l.take (befC c l).length := by
 have e := congrArg (List.take (befC c l).length) (bef_aft h)
 rw [List.take_left] at e
 exact e.symm
theorem drop_bef {c : UInt8} {l : List UInt8} (h : hasC c l = true) : l.drop ((befC c l).length + 1) = aftC c l := by
 have e := congrArg (List.drop ((befC c l).length + 1)) (bef_aft h)
 rw [e, List.drop_append]
 simp
theorem setCell_row {w : World} {B : Nat} {x v : Value} {ty : TypeId} {p : Nat × Nat} (h : w.heap[B]? = some (.cells #[x] ty p)) : w.setCell ⟨B, 0, none⟩ v = w.setRow B #[v] := by
 unfold World.setCell World.setRow
 congr 1
 apply Array.ext_getElem?
 intro i
 rw [Array.getElem?_modify, Array.getElem?_modify]
 by_cases e : B = i
 ·subst e
  simp [h]
 ·simp [e]
set_option maxRecDepth 100000 in
set_option maxHeartbeats 4000000 in
theorem seq_split (w : World) (N : Nat → Prop) (us vs : List Value) (B : Nat) (c : UInt8) (l : List UInt8) (hl : l.length ≤ 1000000000)
  (hu : All2 (RelF w N) [.px 1 0 (fun _ => .v (.string ⟨#[c]⟩))] us) (hv : All2 (RelF w N) [.px 1 0 (fun _ => .v (.int .i64 0))] vs) (hB : w.heap[B]? = some (.cells #[.string (ofL l)] 9 (0, 0))) (hNB : ¬ N B) :
  SeqItM Tryz.prog 146 #[] (us ++ .pointer (some ⟨B, 0, none⟩) :: vs).toArray B 9 (fun i => .string (ofL (remC c l i))) (pcs c l).length (fun i => #[.string (cutA (ofL (remC c l i)) ⟨#[c]⟩)]) N w := by
 intro ly J Jb Jx W hb hJ hJb hJx hgJ hgB hgX hc hcb hY hnext h0
 refine callsIn_of_wp Tryz.func146 rfl trivial ?_ rfl
 obtain ⟨v0, us0, rfl, r0, hu0⟩ := hu.cons_inv
 obtain rfl := hu0.nil_inv
 obtain ⟨v2, vs0, rfl, r2, hv0⟩ := hv.cons_inv
 obtain rfl := hv0.nil_inv
 obtain ⟨b0, o0, rfl, hb0, hN0, hc0⟩ := r0
 obtain ⟨b2, o2, rfl, hb2, hN2, hc2⟩ := r2
 obtain ⟨x0, hx0, rfl, _⟩ := hc0 0 (by omega)
 obtain ⟨x2, hx2, rfl, _⟩ := hc2 0 (by omega)
 rw [Nat.add_zero] at hx0 hx2
 simp only [Nat.add_zero]
 simp only [Tryz.ntmps146, List.size_toArray, List.length_cons, List.length_nil, Nat.reduceAdd, Nat.reduceSub, Array.replicate_succ, Array.replicate_zero, List.push_toArray, List.append_toArray, List.nil_append, List.cons_append]
 have hW := hb.size
 have cell0 : ∀ wr : World, (∀ b, b < w.heap.size → N b → wr.heap[b]? = W.heap[b]?) → wr.cell? ⟨b0, o0, none⟩ = some (.string ⟨#[c]⟩) := fun wr h => (World.cell?_of_block (w := w) (a := ⟨b0, o0, none⟩) ((h b0 hb0 hN0).trans (hb.block b0 hb0))).trans hx0
 have cell2 : ∀ wr : World, (∀ b, b < w.heap.size → N b → wr.heap[b]? = W.heap[b]?) → wr.cell? ⟨b2, o2, none⟩ = some (.int .i64 0) := fun wr h => (World.cell?_of_block (w := w) (a := ⟨b2, o2, none⟩) ((h b2 hb2 hN2).trans (hb.block b2 hb2))).trans hx2
 have cellW := cell0 W (fun _ _ _ => rfl)
 have HC0 := hid cell0
 have HC2 := hid cell2
 have HY := hid hY
 have HJ := hid hJ
 have HG := hid hgJ
 have HCC := hid hc
 have HCB2 := hid hcb
 have HNX := hid hnext
 have HL := hid hl
 clear cell0 cell2 hY hl hJ hJb hgJ hgB hgX hJx hc0 hc2 hu hv hu0 hv0 hc hcb hnext hx0 hx2 hB
 gi_wp2
 gi_loopw [7] (fun iv wr => ∃ k : Nat, k < (pcs c l).length ∧ J k wr ∧ W.heap.size ≤ wr.heap.size ∧ Hid (∀ b, b < w.heap.size → N b → wr.heap[b]? = W.heap[b]?)) (fun _ wr => strAt wr B)
 case atStart => exact ⟨0, List.length_pos_iff.2 (pcs_ne c l), h0, Nat.le_refl _, hid fun b hb0 _ => rfl⟩
 case round =>
  obtain ⟨k, hk, hJs, hsz, HK⟩ := hrel
  have hcB := HCC.out k wr hJs
  have cB : wr.cell? ⟨B, 0, none⟩ = some (.string (ofL (remC c l k))) := by simp [World.cell?, hcB]
  have c0 := HC0.out wr HK.out
  have c2 := HC2.out wr HK.out
  obtain ⟨mx, hmx⟩ := (HG.out k wr hJs).2.len
  have hr9 : (remC c l k).length ≤ 1000000000 := Nat.le_trans (rem_len c l k) HL.out
  have HIX := hid (Tryz.strings_Index (ofL (remC c l k)) ⟨#[c]⟩ mx wr (by rw [ofL_size]; omega) hmx)
  have hst : strAt wr B = (remC c l k).length := by rw [strAt_of hcB, ofL_size]
  have HST := hid hst
  have HCB := hid hcB
  clear hmx hst hcB
  rw [ofL_data, show (⟨#[c]⟩ : ByteArray).data.toList = [c] from rfl] at HIX
  have hcA := cutA_one c (remC c l k)
  have HRM := hid (rem_has hk)
  have hnx : remC c l (k + 1) = aftC c (remC c l k) := rfl
  have HRN := hid hnx
  clear hnx
  obtain ⟨fn, tmps, assign, body, hy, hR⟩ := HY.out k wr hk hJs
  have HK2 := hid hk
  clear hk
  generalize hr : remC c l k = r at HIX HST HCB HRM HRN hy hR cB hcA hr9
  have HR := hid hr
  clear hr
  rcases idx_has c r with ⟨h1, h2⟩ | ⟨h2, h1⟩
  ·rw [h2, if_neg (by simp)] at hcA
   rw [h1] at HIX
   have hkn : k + 1 = (pcs c l).length := by
    have h3 := HK2.out
    rcases Nat.lt_or_ge (k + 1) (pcs c l).length with h | h
    ·have := (HRM.out).2 h; rw [h2] at this; cases this
    ·omega
   have HKN := hid hkn
   rw [hcA] at hy
   clear h1 h2 hcA hkn
   gi_wp2
   refine ⟨trivial, rfl, callsIn_wide.2 (HIX.out.mono ?_)⟩
   rintro _ w1 ⟨rfl, rfl⟩
   gi_wp2
   refine ⟨rfl, hR.mono ?_⟩
   rintro e W3 (⟨rfl, hJ3, ⟨hs3, hk3⟩, _⟩ | ⟨rfl, hJx3⟩)
   ·gi_wp2
    go_end0
    refine ⟨⟨_, rfl⟩, .inl ?_⟩
    rw [← HKN.out]
    exact hJ3
   ·gi_wp2
    go_end0
    exact ⟨⟨_, rfl⟩, .inr hJx3⟩
  ·rw [h2, if_pos rfl] at hcA
   rw [h1] at HIX
   have he := bef_aft h2
   obtain ⟨m, hm⟩ : ∃ m, m = (befC c r).length := ⟨_, rfl⟩
   rw [← hm] at HIX
   have HM := hid hm
   have hrl : m + 1 + (aftC c r).length = r.length := by
    have := congrArg List.length he
    rw [List.length_append, List.length_cons] at this
    omega
   have HRL := hid hrl
   have HE := hid he
   have HCA := hid hcA
   have HH := hid h2
   clear hm he hcA h2 h1 hrl
   gi_wp2
   refine ⟨trivial, rfl, callsIn_wide.2 (HIX.out.mono ?_)⟩
   rintro _ w1 ⟨rfl, rfl⟩
   have hm9 : m + 1 ≤ 1000000000 := by have := HRL.out; omega
   have hw : wrap64 (m : Int) = m := IntWalk.wrap64_in _ (by omega)
   have hmr : m ≤ (ofL r).size := by rw [ofL_size]; have := HRL.out; omega
   have hx : cutA (ofL r) ⟨#[c]⟩ = (ofL r).extract 0 m := by rw [HCA.out, HM.out, ext_take, ← take_bef HH.out]
   rw [hx] at hy
   have hx2 : (ofL r).extract (m + 1) (ofL r).size = ofL (remC c l (k + 1)) := by rw [HRN.out, HM.out, ext_drop, drop_bef HH.out]
   have HX2 := hid hx2
   have hw1 : wrap64 ((m : Int) + 1) = (m : Int) + 1 := IntWalk.wrap64_in _ (by omega)
   have hmr1 : m + 1 ≤ (ofL r).size := by rw [ofL_size]; have := HRL.out; omega
   clear hx hx2
   gi_wp2
   refine ⟨rfl, hR.mono ?_⟩
   rintro e W3 (⟨rfl, hJ3, ⟨hs3, hk3⟩, _⟩ | ⟨rfl, hJx3⟩)
   ·have hb3 := HCB2.out k W3 hJ3
    rw [HR.out] at hb3
    have d1 : W3.cell? ⟨B, 0, none⟩ = some (.string (ofL r)) := by simp [World.cell?, hb3]
    have d2 : W3.frozen? ⟨B, 0, none⟩ = false := by simp [World.frozen?, hb3]
    have hkW : ∀ b, b < w.heap.size → N b → W3.heap[b]? = W.heap[b]? := fun b h1 h2 => (hk3 b h1 h2).trans (HK.out b h1 h2)
    have d0 := HC0.out W3 hkW
    have HB3 := hid hb3
    have HKW := hid hkW
    have HS3 := hid hs3
    clear hb3 hkW hk3 hs3
    gi_wp2
    go_roundw
    case rel =>
     have e1 := (HRM.out).1 HH.out
     have e2 := HNX.out k W3 e1 hJ3
     rw [← setCell_row HB3.out, ← HX2.out] at e2
     refine ⟨k + 1, e1, e2, ?_, hid fun b h1 h2 => ?_⟩
     ·have := HS3.out
      rw [World.size_setCell]
      omega
     ·rw [Below.heap_setCell _ _ _ _ (fun e => hNB (by have e : b = B := e; rw [← e]; exact h2)), HKW.out b h1 h2]
    case measure =>
     have e3 : (W3.setCell ⟨B, 0, none⟩ (Value.string ((ofL r).extract (m + 1) (ofL r).size))).heap[B]? = some (.cells #[Value.string ((ofL r).extract (m + 1) (ofL r).size)] 9 (0, 0)) := by
      rw [setCell_row HB3.out]; exact setRow_heap _ _ _ _ _ _ HB3.out
     rw [strAt_of e3, HST.out, HX2.out, HRN.out, ofL_size]
     exact aft_len HH.out
   ·gi_wp2
    refine bodyPost_ret (results_none rfl _ _ _) rfl ?_
    exact ⟨⟨_, rfl⟩, .inr hJx3⟩
end Go.Proofs.YtlapeoboekchpaaGreatDoor
set_option linter.unusedVariables false
set_option linter.unusedSimpArgs false
namespace Go.Proofs.YtlapeoboekchpaaGreatDoor
open Go.RowKit Ev
set_option maxRecDepth 100000 in
theorem walk_SplitSeq (W : World) (s p : ByteArray) : Calls Tryz.prog 89 #[.string s, .string p] W fun e w' => e = .returned (.func (.func 146) #[] #[.pointer (some ⟨W.heap.size + 1, 0, none⟩), .pointer (some ⟨W.heap.size, 0, none⟩), .pointer (some ⟨W.heap.size + 2, 0, none⟩)]) ∧ w' = ((W.alloc (.cells #[.string s] 9)).alloc (.cells #[.string p] 9)).alloc (.cells #[.int .i64 0] 3) := by
 go_enter Tryz.func89, Tryz.ntmps89
 go_wp2
 go_ret
 exact ⟨rfl, rfl⟩
def con_SplitSeq : Con := fun args => match args with
 | [.t (.c (.v (.string s))), .t (.c (.v (.string p)))] => some (.t (.fn 146 [.px 1 0 (fun _ => .v (.string p)), .p 0 0, .px 1 0 (fun _ => .v (.int .i64 0))]), none, .clo 9 [.v (.string s)])
 | _ => none
theorem ok_SplitSeq : Ok Tryz.prog 89 con_SplitSeq := by
 intro args r pre fresh h hp
 unfold con_SplitSeq at h
 split at h
 ·rename_i s p
  cases h
  refine ⟨Enters.of (fn := Tryz.f89) (by kernel_rfl) (by kernel_rfl) (by kernel_rfl), fun W N vs hG hv => ?_⟩
  have hv : All2 (RelD (RelF W N)) [.t (.c (.v (.string s))), .t (.c (.v (.string p)))] vs := hv
  obtain ⟨u0, ws0, rfl, g0, hv0⟩ := hv.cons_inv
  obtain ⟨u1, ws1, rfl, g1, hv1⟩ := hv0.cons_inv
  obtain rfl := hv1.nil_inv
  obtain rfl : u0 = .string s := g0.1
  obtain rfl : u1 = .string p := g1.1
  refine (walk_SplitSeq W s p).mono ?_
  rintro e w' ⟨rfl, rfl⟩
  obtain ⟨W1, hW1⟩ : ∃ W1, W1 = W.alloc (.cells #[.string s] 9) := ⟨_, rfl⟩
  obtain ⟨W2, hW2⟩ : ∃ W2, W2 = W1.alloc (.cells #[.string p] 9) := ⟨_, rfl⟩
  obtain ⟨W3, hW3⟩ : ∃ W3, W3 = W2.alloc (.cells #[.int .i64 0] 3) := ⟨_, rfl⟩
  rw [← hW1, ← hW2, ← hW3]
  have s1 : W1.heap.size = W.heap.size + 1 := by rw [hW1]; simp
  have s2 : W2.heap.size = W.heap.size + 2 := by rw [hW2]; simp [s1]
  have s3 : W3.heap.size = W.heap.size + 3 := by rw [hW3]; simp [s2]
  have b1 : W1.heap[W.heap.size]? = some (.cells #[.string s] 9) := by rw [hW1]; exact World.alloc_heap_new W _
  have b2 : W2.heap[W.heap.size + 1]? = some (.cells #[.string p] 9) := by rw [hW2, ← s1]; exact World.alloc_heap_new W1 _
  have b3 : W3.heap[W.heap.size + 2]? = some (.cells #[.int .i64 0] 3) := by rw [hW3, ← s2]; exact World.alloc_heap_new W2 _
  have b1' : W3.heap[W.heap.size]? = some (.cells #[.string s] 9) := by rw [hW3, Below.heap_alloc _ _ _ (by omega), hW2, Below.heap_alloc _ _ _ (by omega)]; exact b1
  have b2' : W3.heap[W.heap.size + 1]? = some (.cells #[.string p] 9) := by rw [hW3, Below.heap_alloc _ _ _ (by omega)]; exact b2
  have hbl : Below W.heap.size W W3 := by
   rw [hW3, hW2, hW1]
   exact (((Below.refl _ _).alloc (Nat.le_refl _) _).alloc (by simp) _).alloc (by simp; omega) _
  refine ⟨_, rfl, ⟨W.heap.size, _, Nat.le_refl _, b1', ⟨⟨rfl, rfl⟩, trivial⟩, ⟨_, rfl, ?_, ⟨W.heap.size, rfl, rfl⟩, ?_, trivial⟩⟩, hbl⟩
  ·refine ⟨W.heap.size + 1, 0, rfl, by omega, ⟨by omega, by omega⟩, fun j hj => ⟨.string p, ?_, rfl, rfl⟩⟩
   obtain rfl : j = 0 := by omega
   simp [World.cell?, b2']
  ·refine ⟨W.heap.size + 2, 0, rfl, by omega, ⟨by omega, by omega⟩, fun j hj => ⟨.int .i64 0, ?_, rfl, rfl⟩⟩
   obtain rfl : j = 0 := by omega
   simp [World.cell?, b3]
 ·cases h
def sepP (x : CV) : Prop := ∃ c, x = .v (.string ⟨#[c]⟩)
def it_Split : ItC := fun l => match l with
 | [.px 1 0 c1, .px 1 0 c2, .px 1 0 c3] => some ⟨1, 1, fun _ => [.c (.v (.string (cutA (cvStr (c2 0)) (cvStr (c1 0)))))], some (sepP (c1 0) ∧ c2 0 = .v (.string (cvStr (c2 0))) ∧ (cvStr (c2 0)).size ≤ 1000000000 ∧ c3 0 = .v (.int .i64 0)), false, none, some ⟨1, 9, cutH (cvStr (c2 0)) (cvStr (c1 0)), .string (cutZ (cvStr (c2 0)) (cvStr (c1 0)))⟩⟩
 | _ => none
theorem ok_itSplit : OkItM Tryz.prog 146 it_Split := by
 intro l R h hp
 unfold it_Split at h
 split at h
 rotate_left
 ·cases h
 rename_i c1 c2 c3
 cases h
 obtain ⟨⟨c, h1⟩, h2, h3, h4⟩ := hp
 refine ⟨Enters.of (fn := Tryz.f146) (by kernel_rfl) (by kernel_rfl) (by kernel_rfl), _, rfl, fun x a l' ha he => ?_⟩
 have ha : a.length = 1 := ha
 obtain ⟨y, rfl⟩ : ∃ y, a = [y] := by
  match a, ha with
  | [y], _ => exact ⟨y, rfl⟩
 simp only [List.cons_append, List.nil_append, List.cons.injEq, CV.px.injEq, true_and] at he
 obtain ⟨rfl, rfl, rfl⟩ := he
 have h2 : CV.v x = .v (.string (cvStr (.v x))) := h2
 obtain ⟨s, rfl⟩ : ∃ s, x = .string s := ⟨_, by injection h2⟩
 have h3 : s.size ≤ 1000000000 := h3
 have hl : s.data.toList.length ≤ 1000000000 := by rw [size_data]; exact h3
 have hs : ofL s.data.toList = s := ofL_back s
 refine ⟨(pcs c s.data.toList).length, fun i => .string (ofL (remC c s.data.toList i)), fun i => [.c (.v (.string (cutA (ofL (remC c s.data.toList i)) ⟨#[c]⟩)))], List.length_pos_iff.2 (pcs_ne _ _), by rw [← hs]; rfl, fun i hi => ?_, fun w N us vs B hB hNB hu hv => ?_⟩
 ·have e1 : cvStr (c1 0) = ⟨#[c]⟩ := by rw [h1]; rfl
  refine ⟨_, _, rfl, rfl, rfl, rfl, ⟨rfl, rfl⟩, ?_, rfl, fun w N => ⟨⟨rfl, rfl⟩, trivial⟩, fun hm => ?_, fun hm => ?_⟩
  ·show [TV.c (.v (.string (cutA (ofL (remC c s.data.toList i)) (cvStr (c1 0)))))] = _
   rw [e1]
  ·have hm : cutH (ofL (remC c s.data.toList i)) (cvStr (c1 0)) = true := hm
   rw [e1, cutH_one] at hm
   refine ⟨(rem_has hi).1 hm, ?_, rfl⟩
   show Value.string (cutZ (ofL (remC c s.data.toList i)) (cvStr (c1 0))) = _
   rw [e1, cutZ_one, if_pos hm]
   rfl
  ·have hm : cutH (ofL (remC c s.data.toList i)) (cvStr (c1 0)) = false := hm
   rw [e1, cutH_one] at hm
   have := rem_has hi
   rw [hm] at this
   have : ¬ i + 1 < (pcs c s.data.toList).length := fun h => by have := this.2 h; cases this
   omega
 ·have hu : All2 (RelF w N) [.px 1 0 (fun _ => .v (.string ⟨#[c]⟩))] us := by
   obtain ⟨v0, us0, rfl, r0, hu0⟩ := hu.cons_inv
   exact ⟨RelF.px_eq (fun j hj => by obtain rfl : j = 0 := (by omega); exact h1) r0, hu0⟩
  have hv : All2 (RelF w N) [.px 1 0 (fun _ => .v (.int .i64 0))] vs := by
   obtain ⟨v0, us0, rfl, r0, hu0⟩ := hv.cons_inv
   exact ⟨RelF.px_eq (fun j hj => by obtain rfl : j = 0 := (by omega); exact h4) r0, hu0⟩
  rw [← hs] at hB
  exact seq_split w N us vs B c s.data.toList hl hu hv hB hNB
end Go.Proofs.YtlapeoboekchpaaGreatDoor
set_option linter.unusedVariables false
set_option linter.unusedSimpArgs false
namespace Go.Proofs.YtlapeoboekchpaaGreatDoor
open Go.RowKit Ev
theorem beq_txt (a b : ByteArray) : (a.toList == b.toList) = decide (a = b) := by
 rw [← beq_toListBytes]
 by_cases h : a = b
 ·subst h; simp
 ·rw [decide_eq_false h]; exact beq_eq_false_iff_ne.2 h
theorem ofL_eq {l m : List UInt8} : ofL l = ofL m ↔ l = m := ⟨ofL_inj, fun h => by rw [h]⟩
def wAt (c : UInt8) (s : ByteArray) (i : Nat) : List UInt8 := (pcs c s.data.toList).getD i []
def nPc (c : UInt8) (s : ByteArray) : Nat := (pcs c s.data.toList).length
def goodW (s : ByteArray) (dg sg i : Nat) : Bool := match numR (wAt 32 s i) dg with
 | some v => !(decide (v < 0) && decide (i < sg))
 | none => false
def valW (s : ByteArray) (dg i : Nat) : Int := (numR (wAt 32 s i) dg).getD 0
def valsW (s : ByteArray) (dg n : Nat) : List Int := (List.range n).map (valW s dg)
def allW (s : ByteArray) (dg sg : Nat) : Bool := (List.range (nPc 32 s)).all (goodW s dg sg)
def okW (s : ByteArray) (cnt dg sg : Nat) : Bool := allW s dg sg && Nat.beq (nPc 32 s) cnt
def outW (s : ByteArray) (dg sg : Nat) : List Int := if allW s dg sg = true then valsW s dg (nPc 32 s) else []
theorem valsW_len {s : ByteArray} {dg n : Nat} : (valsW s dg n).length = n := by simp [valsW]
theorem valsW_succ {s : ByteArray} {dg n : Nat} : valsW s dg (n + 1) = valsW s dg n ++ [valW s dg n] := by simp [valsW, List.range_succ]
theorem valsW_at {s : ByteArray} {dg n i : Nat} (h : i < n) : (valsW s dg n).getD i 0 = valW s dg i := by simp [valsW, List.getD, h]
theorem allW_no {s : ByteArray} {dg sg i : Nat} (hi : i < nPc 32 s) (h : goodW s dg sg i = false) : allW s dg sg = false := by
 cases e : allW s dg sg with
 | false => rfl
 | true =>
  unfold allW at e
  rw [List.all_eq_true] at e
  rw [e i (List.mem_range.2 hi)] at h; cases h
theorem allW_yes {s : ByteArray} {dg sg : Nat} (h : ∀ i, i < nPc 32 s → goodW s dg sg i = true) : allW s dg sg = true := by
 unfold allW
 rw [List.all_eq_true]
 exact fun i hi => h i (List.mem_range.1 hi)
theorem nPc_le (c : UInt8) (s : ByteArray) : nPc c s ≤ s.size + 1 := by
 unfold nPc
 rw [pcs_len, ← size_data]
 have := List.count_le_length (a := c) (l := s.data.toList)
 omega
theorem rem_head {c : UInt8} {s : ByteArray} {i : Nat} (h : i < nPc c s) : (if hasC c (remC c s.data.toList i) = true then befC c (remC c s.data.toList i) else remC c s.data.toList i) = wAt c s i := by
 have e := rem_at (c := c) (l := s.data.toList) h
 have g : wAt c s i = ((pcs c s.data.toList).drop i).head?.getD [] := by
  unfold wAt
  rw [List.head?_drop]
  simp [List.getD]
 rw [g, e, pcs_eq c (remC c s.data.toList i)]
 split <;> rfl
theorem cutA_rem {c : UInt8} {s : ByteArray} {i : Nat} (h : i < nPc c s) : cutA (ofL (remC c s.data.toList i)) ⟨#[c]⟩ = ofL (wAt c s i) := by
 rw [cutA_one, rem_head h]
theorem cutH_rem {c : UInt8} {s : ByteArray} {i : Nat} (h : i < nPc c s) : cutH (ofL (remC c s.data.toList i)) ⟨#[c]⟩ = decide (i + 1 < nPc c s) := by
 rw [cutH_one]
 have := rem_has h
 unfold nPc
 by_cases g : i + 1 < (pcs c s.data.toList).length
 ·rw [decide_eq_true g]; exact this.2 g
 ·rw [decide_eq_false g]
  cases e : hasC c (remC c s.data.toList i)
  ·rfl
  ·exact absurd (this.1 e) g
theorem cutZ_rem {c : UInt8} {s : ByteArray} {i : Nat} (h : i + 1 < nPc c s) : cutZ (ofL (remC c s.data.toList i)) ⟨#[c]⟩ = ofL (remC c s.data.toList (i + 1)) := by
 have := (rem_has (c := c) (l := s.data.toList) (i := i) (by unfold nPc at h; omega)).2 h
 rw [cutZ_one, if_pos this]
 rfl
theorem wAt_len {c : UInt8} {s : ByteArray} {i : Nat} : (wAt c s i).length ≤ s.size := by
 by_cases h : i < nPc c s
 ·unfold wAt
  rw [← size_data]
  refine pcs_part (c := c) ?_
  have h : i < (pcs c s.data.toList).length := h
  have e : (pcs c s.data.toList).getD i [] = (pcs c s.data.toList)[i] := by simp [List.getD, h]
  rw [e]
  exact List.getElem_mem h
 ·unfold wAt
  unfold nPc at h
  simp [List.getD, List.getElem?_eq_none (Nat.le_of_not_lt h)]
theorem ato_bd {w : List UInt8} (h : atoB (ofL w) = true) : -9223372036854775808 ≤ atoV (ofL w) ∧ atoV (ofL w) ≤ 9223372036854775807 := by
 unfold atoB at h
 unfold atoV
 split at h
 ·rename_i v e
  rw [e]
  exact Lib.atoiAll_bounds e
 ·cases h
theorem test_w (w : List UInt8) {dg : Nat} (h : dg ≤ 17) : (bif atoB (ofL w) then (bif ((itoaB (atoV (ofL w))).toList == (ofL w).toList) then decide ((((trimB (ofL w) ⟨#[45]⟩).size : Nat) : Int) ≤ (dg : Int)) else false) else false) = (numR w dg).isSome ∧ ∀ v, numR w dg = some v → atoV (ofL w) = v := by
 rw [← numG_eq h]
 have e45 : (trimB (ofL w) ⟨#[45]⟩).size = (if w.head? = some 45 then w.drop 1 else w).length := by
  unfold trimB
  rw [ofL_size, ofL_data]
  rw [show (⟨#[45]⟩ : ByteArray).data.toList = [45] from rfl, trim_one]
 rw [e45]
 unfold numG atoB
 rw [ofL_data]
 generalize (if w.head? = some 45 then w.drop 1 else w).length = q
 cases e : Lib.atoiAll w with
 | ok v =>
  have ev : atoV (ofL w) = v := by unfold atoV; rw [ofL_data, e]
  rw [ev, beq_txt]
  simp only [cond_true]
  have ed : decide (itoaB v = ofL w) = decide (Lib.itoa v = w) := by
   unfold itoaB
   by_cases g : Lib.itoa v = w
   ·rw [decide_eq_true g, decide_eq_true (ofL_eq.2 g)]
   ·rw [decide_eq_false g, decide_eq_false (fun q => g (ofL_eq.1 q))]
  rw [ed]
  by_cases g : Lib.itoa v = w
  ·by_cases g2 : q ≤ dg
   ·rw [if_pos ⟨g, g2⟩, decide_eq_true g, decide_eq_true (by omega)]
    exact ⟨rfl, fun x hx => by injection hx⟩
   ·rw [if_neg (fun z => g2 z.2), decide_eq_true g, decide_eq_false (by omega)]
    exact ⟨rfl, fun x hx => by cases hx⟩
  ·rw [if_neg (fun z => g z.1), decide_eq_false g]
   exact ⟨rfl, fun x hx => by cases hx⟩
 | range => exact ⟨rfl, fun x hx => by cases hx⟩
 | _ => exact ⟨rfl, fun x hx => by cases hx⟩
def ttCv (t : ByteArray) : List CV := [.v (.string t)]
theorem ttg_cell (l : List ByteArray) {i j : Nat} (hi : i < (l.map ttCv).length) (hj : j < 1) : genC (l.map ttCv) i j = .v (.string (txAt l i)) := by
 obtain rfl : j = 0 := by omega
 rw [List.length_map] at hi
 simp [genC, ttCv, txAt, List.getD, hi]
theorem txP_ttg (l : List ByteArray) : txP (l.map ttCv).length (genC (l.map ttCv)) := fun i hi => by rw [ttg_cell l hi (by omega)]; rfl
theorem ttg_of (l : List ByteArray) : txOf (l.map ttCv).length (genC (l.map ttCv)) = l := by
 apply List.ext_getElem?
 intro i
 by_cases hi : i < l.length
 ·simp [txOf, genC, ttCv, List.getD, hi, cvStr]
 ·rw [List.getElem?_eq_none (by simp [txOf]; omega), List.getElem?_eq_none (by omega)]
theorem le_ttg (l : List ByteArray) : LeD (.t (.c (.sl 1 (l.map ttCv).length (genC (l.map ttCv))))) (.t (.c (.sl 1 l.length (txsC l)))) := by
 rw [List.length_map]
 refine leT_c (leSlT fun i j hi hj => ?_)
 rw [ttg_cell l (by rw [List.length_map]; exact hi) hj]
 exact LeC1.refl _
theorem map_snoc {α β : Type} (f : α → β) (l : List α) (x : α) : l.map f ++ [f x] = (l ++ [x]).map f := by simp
theorem ttCv_snoc (l : List ByteArray) (x : ByteArray) : l.map ttCv ++ [[.v (.string x)]] = (l ++ [x]).map ttCv := by simp [ttCv]
theorem dec_len : ∀ (k u : Nat), u < 10 ^ (k + 1) → (Lib.decDigits u).length ≤ k + 1
 | 0, u, h => by rw [dec_small (by simpa using h)]; simp
 | k + 1, u, h => by
  by_cases g : u < 10
  ·rw [dec_small g]; simp
  ·rw [dec_big g, List.length_append, List.length_singleton]
   have := dec_len k (u / 10) (by rw [Nat.div_lt_iff_lt_mul (by decide)]; rw [Nat.pow_succ] at h; exact h)
   omega
theorem itoa_len {n : Int} (h : -9223372036854775808 ≤ n ∧ n ≤ 9223372036854775807) : (Lib.itoa n).length ≤ 20 := by
 by_cases g : n < 0
 ·rw [itoa_neg g, List.length_cons]
  have := dec_len 18 n.natAbs (by omega)
  omega
 ·rw [itoa_pos (by omega)]
  have := dec_len 18 n.toNat (by omega)
  omega
theorem jn_len {c : UInt8} {m : Nat} : ∀ (ps : List (List UInt8)), (∀ p ∈ ps, p.length ≤ m) → (jnC c ps).length ≤ ps.length * (m + 1)
 | [], _ => by simp [jnC]
 | [p], h => by have := h p (by simp); simp [jnC]; omega
 | p :: q :: r, h => by
  have h1 := h p (by simp)
  have h2 := jn_len (c := c) (q :: r) (fun x hx => h x (by simp [hx]))
  have e : (jnC c (p :: q :: r)).length = p.length + 1 + (jnC c (q :: r)).length := by simp [jnC]; omega
  rw [e, List.length_cons, Nat.succ_mul]
  omega
theorem joinB_one (l : List ByteArray) (c : UInt8) : joinB l ⟨#[c]⟩ = ofL (jnC c (l.map (·.data.toList))) := by
 unfold joinB
 rw [show (⟨#[c]⟩ : ByteArray).data.toList = [c] from rfl, jn_join]
theorem joinB_len (l : List ByteArray) (c : UInt8) {m : Nat} (h : ∀ t ∈ l, t.size ≤ m) : (joinB l ⟨#[c]⟩).size ≤ l.length * (m + 1) := by
 rw [joinB_one, ofL_size]
 have := jn_len (c := c) (m := m) (l.map (·.data.toList)) (fun p hp => by obtain ⟨t, ht, rfl⟩ := List.mem_map.1 hp; rw [size_data]; exact h t ht)
 rwa [List.length_map] at this
def wordsB (l : List Int) : ByteArray := joinB (l.map itoaB) ⟨#[32]⟩
theorem itoaB_len {n : Int} (h : -9223372036854775808 ≤ n ∧ n ≤ 9223372036854775807) : (itoaB n).size ≤ 20 := by
 unfold itoaB
 rw [ofL_size]; exact itoa_len h
theorem wordsB_len {l : List Int} (h : ∀ i, i < l.length → -9223372036854775808 ≤ l.getD i 0 ∧ l.getD i 0 ≤ 9223372036854775807) : (wordsB l).size ≤ l.length * 21 := by
 have := joinB_len (l.map itoaB) 32 (m := 20) (fun t ht => by
  obtain ⟨n, hn, rfl⟩ := List.mem_map.1 ht
  obtain ⟨i, hi, e⟩ := List.mem_iff_getElem.1 hn
  have := h i hi
  rw [show l.getD i 0 = n by simp [List.getD, hi, e]] at this
  exact itoaB_len this)
 rwa [List.length_map] at this
theorem take_snoc {α : Type} (l : List α) (d : α) {k : Nat} (h : k < l.length) : l.take (k + 1) = l.take k ++ [l.getD k d] := by
 rw [List.take_add_one, List.getElem?_eq_getElem h]
 simp [List.getD, h]
end Go.Proofs.YtlapeoboekchpaaGreatDoor
set_option linter.unusedVariables false
set_option linter.unusedSimpArgs false
namespace Go.Proofs.YtlapeoboekchpaaGreatDoor
open Go.RowKit Ev
theorem splK_one (c : UInt8) : ∀ (k : Nat) (l : List UInt8), (pcs c l).length ≤ k + 1 → Lib.splitK [c] 0 k l = pcs c l
 | 0, l, h => by
  have e := pcs_eq c l
  by_cases g : hasC c l = true
  ·rw [if_pos g] at e
   have := List.length_pos_iff.2 (pcs_ne c (aftC c l))
   rw [e, List.length_cons] at h
   omega
  ·rw [if_neg g] at e
   rw [e]; rfl
 | k + 1, l, h => by
  have e := pcs_eq c l
  unfold Lib.splitK
  rcases idx_has c l with ⟨h1, h2⟩ | ⟨h1, h2⟩
  ·rw [h1, if_pos (by rfl), e, if_neg (by rw [h2]; simp)]
  ·rw [if_pos h1] at e
   rw [h2, if_neg (by simp [beq_iff_eq]), e]
   have t := take_bef h1
   have d := drop_bef h1
   simp only [Int.toNat_natCast, Nat.add_zero, List.length_singleton]
   rw [← t, d, splK_one c k (aftC c l) (by rw [e, List.length_cons] at h; omega)]
theorem cnt_one (c : UInt8) : ∀ (n : Nat) (l : List UInt8), l.length ≤ n → Lib.countB (ofL l) ⟨#[c]⟩ + 1 = (pcs c l).length := by
 intro n
 induction n with
 | zero =>
  intro l h
  have e : l = [] := List.length_eq_zero_iff.1 (by omega)
  subst e
  rw [Lib.countB_miss _ _ (by rfl)]; rfl
 | succ n ih =>
  intro l h
  have e := pcs_eq c l
  rcases idx_has c l with ⟨h1, h2⟩ | ⟨h1, h2⟩
  ·rw [Lib.countB_miss _ _ h1, e, if_neg (by rw [h2]; simp)]; rfl
  ·rw [Lib.countB_hit (ofL l) ⟨#[c]⟩ _ (Nat.le_refl 1) h2]
   have d := drop_bef h1
   rw [show (⟨#[c]⟩ : ByteArray).size = 1 from rfl, ext_drop, d, e, if_pos h1, List.length_cons]
   have := ih (aftC c l) (by have := aft_len h1; omega)
   omega
theorem splB_one (c : UInt8) (l : List UInt8) : splB (ofL l) ⟨#[c]⟩ = (pcs c l).map ofL := by
 have h := Lib.splitB_data ⟨#[c]⟩ 0 (Lib.countB (ofL l) ⟨#[c]⟩) (ofL l)
 have n := cnt_one c _ l (Nat.le_refl _)
 rw [ofL_data, show (⟨#[c]⟩ : ByteArray).data.toList = [c] from rfl, splK_one c _ l (by omega)] at h
 unfold splB
 rw [← h, List.map_map]
 conv => lhs; rw [← List.map_id (Lib.splitB _ _ _ _)]
 exact List.map_congr_left fun s _ => (ofL_back s).symm
theorem splB_count (s : ByteArray) (c : UInt8) : (splB s ⟨#[c]⟩).length = Lib.countB s ⟨#[c]⟩ + 1 := by
 have e := ofL_back s
 rw [← e, splB_one, List.length_map, cnt_one c _ _ (Nat.le_refl _)]
def inI (n : Int) : Prop := -9223372036854775808 ≤ n ∧ n ≤ 9223372036854775807
theorem in4 {a b c d : Int} (h1 : inI a) (h2 : inI b) (h3 : inI c) (h4 : inI d) : ∀ i, i < [a, b, c, d].length → -9223372036854775808 ≤ [a, b, c, d].getD i 0 ∧ [a, b, c, d].getD i 0 ≤ 9223372036854775807 := by
 intro i hi
 have hi : i < 4 := hi
 rcases (by omega : i = 0 ∨ i = 1 ∨ i = 2 ∨ i = 3) with rfl | rfl | rfl | rfl
 ·exact h1
 ·exact h2
 ·exact h3
 ·exact h4
theorem nPc_pos (c : UInt8) (s : ByteArray) : 0 < nPc c s := List.length_pos_iff.2 (pcs_ne _ _)
theorem okW_out {s : ByteArray} {cnt dg sg : Nat} (h : okW s cnt dg sg = true) : nPc 32 s = cnt ∧ outW s dg sg = valsW s dg cnt := by
 unfold okW at h
 rw [Bool.and_eq_true] at h
 have e := Nat.eq_of_beq_eq_true h.2
 exact ⟨e, by rw [show outW s dg sg = valsW s dg (nPc 32 s) from if_pos h.1, e]⟩
end Go.Proofs.YtlapeoboekchpaaGreatDoor
set_option linter.unusedVariables false
set_option linter.unusedSimpArgs false
namespace Go.Proofs.YtlapeoboekchpaaGreatDoor
open Go.RowKit Ev
open Lib (decFrom digitVal)
theorem dget (s : ByteArray) (i : Nat) : s.data.getD i 0 = s.data.toList.getD i 0 := by
 obtain ⟨⟨l⟩⟩ := s
 simp [Array.getD, List.getD]
 split <;> rename_i h
 ·simp [h]
 ·simp [Nat.le_of_not_lt h]
theorem ext_mid (l : List UInt8) (a b : Nat) : (ofL l).extract a b = ofL ((l.drop a).take (b - a)) := by
 rw [← ofL_back ((ofL l).extract a b), ByteArray.data_extract, Array.toList_extract, ofL_data]
def cutL (s : ByteArray) (c : UInt8) : List ByteArray := (pcs c s.data.toList).map ofL
theorem cutL_len {s : ByteArray} {c : UInt8} : (cutL s c).length = nPc c s := by simp [cutL, nPc]
theorem cutL_at {s : ByteArray} {c : UInt8} {i : Nat} (h : i < nPc c s) : txAt (cutL s c) i = ofL (wAt c s i) := by
 have h : i < (pcs c s.data.toList).length := h
 simp [txAt, cutL, wAt, List.getD, h]
def CutI (s : ByteArray) (c : UInt8) (rows : List (List CV)) (a i : Nat) : Prop :=
 a ≤ i ∧ ∃ os : List (List UInt8), pcs c s.data.toList = os ++ pcs c (s.data.toList.drop a) ∧ hasC c ((s.data.toList.drop a).take (i - a)) = false ∧ rows = (os.map ofL).map ttCv ∧ os.length ≤ a
theorem cut_0 (s : ByteArray) (c : UInt8) : CutI s c [] 0 0 := ⟨Nat.le_refl _, [], rfl, rfl, rfl, Nat.le_refl _⟩
theorem drop_split {l : List UInt8} {a i : Nat} (ha : a ≤ i) (hi : i < l.length) : l.drop a = (l.drop a).take (i - a) ++ l.getD i 0 :: l.drop (i + 1) := by
 conv => lhs; rw [← List.take_append_drop (i - a) (l.drop a)]
 rw [List.drop_drop, show a + (i - a) = i by omega, List.drop_eq_getElem_cons hi]
 simp [List.getD, hi]
theorem take_split {l : List UInt8} {a i : Nat} (ha : a ≤ i) (hi : i < l.length) : (l.drop a).take (i + 1 - a) = (l.drop a).take (i - a) ++ [l.getD i 0] := by
 rw [show i + 1 - a = (i - a) + 1 by omega, List.take_add_one, List.getElem?_drop, show a + (i - a) = i by omega, List.getElem?_eq_getElem hi]
 simp [List.getD, hi]
theorem cut_miss {s : ByteArray} {c : UInt8} {rows : List (List CV)} {a i : Nat} (h : CutI s c rows a i) (hi : i < s.size) (hc : s.data.toList.getD i 0 ≠ c) : CutI s c rows a (i + 1) := by
 obtain ⟨h1, os, h2, h3, h4, h5⟩ := h
 have hi : i < s.data.toList.length := by rw [size_data]; exact hi
 refine ⟨by omega, os, h2, ?_, h4, h5⟩
 rw [take_split h1 hi]
 unfold hasC at h3 ⊢
 simp only [List.elem_eq_mem, decide_eq_false_iff_not, List.mem_append, List.mem_singleton, List.contains_eq_mem] at h3 ⊢
 rintro (q | q)
 ·exact h3 q
 ·exact hc q.symm
theorem cut_hit {s : ByteArray} {c : UInt8} {rows : List (List CV)} {a i : Nat} (h : CutI s c rows a i) (hi : i < s.size) (hc : s.data.toList.getD i 0 = c) : CutI s c (rows ++ [[.v (.string (s.extract a i))]]) (i + 1) (i + 1) := by
 obtain ⟨h1, os, h2, h3, h4, h5⟩ := h
 have hi : i < s.data.toList.length := by rw [size_data]; exact hi
 have e := drop_split h1 hi
 rw [hc] at e
 refine ⟨Nat.le_refl _, os ++ [(s.data.toList.drop a).take (i - a)], ?_, by simp [hasC], ?_, by simp; omega⟩
 ·have p := pcs_app (s.data.toList.drop (i + 1)) h3
  rw [← e] at p
  rw [h2, p, List.append_assoc]; rfl
 ·have x := ext_mid s.data.toList a i
  rw [ofL_back] at x
  rw [h4, x, ttCv_snoc, map_snoc]
theorem cut_end {s : ByteArray} {c : UInt8} {rows : List (List CV)} {a : Nat} (h : CutI s c rows a s.size) : rows ++ [[.v (.string (s.extract a s.size))]] = (cutL s c).map ttCv := by
 obtain ⟨h1, os, h2, h3, h4, h5⟩ := h
 have x := ext_drop s.data.toList a
 rw [ofL_back] at x
 rw [List.take_of_length_le (by rw [List.length_drop, size_data]; omega)] at h3
 unfold cutL
 rw [h2, h4, x, ttCv_snoc, map_snoc, pcs_one h3]
def numAt (l : List UInt8) : Nat := if l.head? = some 45 then 1 else 0
def numBad (l : List UInt8) (dg : Nat) : Prop := l.length = numAt l ∨ l.length - numAt l > dg ∨ (l.getD (numAt l) 0 = 48 ∧ 1 < l.length)
theorem numAt_le (l : List UInt8) : numAt l ≤ l.length := by
 unfold numAt
 cases l with
 | nil => simp
 | cons b r => split <;> simp
theorem numR_bad {l : List UInt8} {dg : Nat} (h : numBad l dg) : numR l dg = none := by
 unfold numBad at h
 unfold numR
 by_cases e : l.head? = some 45
 ·rw [show numAt l = 1 from if_pos e] at h
  rw [if_pos e, if_pos]
  obtain ⟨r, rfl⟩ : ∃ r, l = 45 :: r := by
   cases l with
   | nil => cases e
   | cons b r => exact ⟨r, by simpa using e⟩
  rcases h with h | h | ⟨h, g⟩
  ·exact .inl (List.length_eq_zero_iff.1 (by simpa using h))
  ·exact .inr (.inl (by simpa using h))
  ·refine .inr (.inr ?_)
   cases r with
   | nil => simp at g
   | cons x r => simpa [List.getD] using h
 ·rw [show numAt l = 0 from if_neg e] at h
  rw [if_neg e, if_pos]
  rcases h with h | h | ⟨h, g⟩
  ·exact .inl (List.length_eq_zero_iff.1 h)
  ·exact .inr (.inl (by simpa using h))
  ·refine .inr (.inr ⟨?_, g⟩)
   cases l with
   | nil => simp at g
   | cons x r => simpa [List.getD] using h
theorem numR_ok {l : List UInt8} {dg : Nat} (h : ¬ numBad l dg) : numR l dg = (decFrom 0 (l.drop (numAt l))).map fun m : Nat => if numAt l = 1 then -(m : Int) else m := by
 unfold numBad at h
 unfold numR
 by_cases e : l.head? = some 45
 ·rw [show numAt l = 1 from if_pos e] at h ⊢
  rw [if_pos e, if_neg]
  ·rfl
  ·obtain ⟨r, rfl⟩ : ∃ r, l = 45 :: r := by
    cases l with
    | nil => cases e
    | cons b r => exact ⟨r, by simpa using e⟩
   rintro (g | g | g)
   ·exact h (.inl (by simpa using g))
   ·exact h (.inr (.inl (by simpa using g)))
   ·refine h (.inr (.inr ?_))
    cases r with
    | nil => simp at g
    | cons x r => simpa [List.getD] using g
 ·rw [show numAt l = 0 from if_neg e] at h ⊢
  rw [if_neg e, if_neg]
  ·simp
  ·rintro (g | g | ⟨g, g2⟩)
   ·exact h (.inl (by rw [g]; rfl))
   ·exact h (.inr (.inl (by simpa using g)))
   ·refine h (.inr (.inr ⟨?_, g2⟩))
    cases l with
    | nil => simp at g
    | cons x r => simpa [List.getD] using g
theorem dec_stop {l : List UInt8} {a i : Nat} (ha : a ≤ i) (hi : i < l.length) (h : digitVal (l.getD i 0) = none) : decFrom 0 (l.drop a) = none := by
 rw [drop_split ha hi, decFrom_append]
 generalize l.getD i 0 = b at h ⊢
 cases decFrom 0 ((l.drop a).take (i - a)) with
 | none => rfl
 | some m => simp [decFrom, h]
theorem dec_step {l : List UInt8} {a i m d : Nat} (ha : a ≤ i) (hi : i < l.length) (h : digitVal (l.getD i 0) = some d) (g : decFrom 0 ((l.drop a).take (i - a)) = some m) : decFrom 0 ((l.drop a).take (i + 1 - a)) = some (m * 10 + d) := by
 rw [take_split ha hi, decFrom_append, g]
 generalize l.getD i 0 = b at h ⊢
 simp [decFrom, h]
end Go.Proofs.YtlapeoboekchpaaGreatDoor
set_option linter.unusedVariables false
set_option linter.unusedSimpArgs false
namespace Go.Proofs.YtlapeoboekchpaaGreatDoor
open Go.RowKit Ev
def decT (u : Nat) (t : List UInt8) : List UInt8 := if u = 0 then t else Lib.decDigits u ++ t
theorem decT_step {u : Nat} (h : u ≠ 0) (t : List UInt8) : decT u t = decT (u / 10) (UInt8.ofNat (48 + u % 10) :: t) := by
 unfold decT
 rw [if_neg h]
 by_cases g : u < 10
 ·rw [if_pos (by omega), dec_small g, show u % 10 = u by omega]; rfl
 ·rw [if_neg (by omega), dec_big g, List.append_assoc]; rfl
theorem decT_len {u : Nat} {t : List UInt8} {u0 : Nat} (h : decT u t = Lib.decDigits u0) (hu : u0 ≤ 9223372036854775808) : (ofL t).size ≤ 30 := by
 have a := dec_len 18 u0 (by omega)
 rw [← h] at a
 unfold decT at a
 rw [ofL_size]
 split at a
 ·omega
 ·rw [List.length_append] at a; omega
theorem app_ofL (l m : List UInt8) : ofL l ++ ofL m = ofL (l ++ m) := by
 rw [← ofL_back (ofL l ++ ofL m), ByteArray.data_append, Array.toList_append]
 rfl
theorem str_one {d : Nat} (h : d < 256) : strOfNums [(d : Int)] = ofL [UInt8.ofNat d] := by
 unfold strOfNums ofL
 simp
theorem size_w (n : Int) (w : World) (h : -9223372036854775807 ≤ n) (h' : n ≤ 9223372036854775807) :
  Calls Tryz.prog 30 #[.int .i64 n] w fun e w' => e = .returned (.int .i64 (n.natAbs : Int)) ∧ w = w' := by
 go_enter Tryz.func30, Tryz.ntmps30
 go_wp2_with fail
 all_goals
  go_ret
  exact ⟨ret_int (by omega), rfl⟩
set_option maxRecDepth 100000 in
set_option maxHeartbeats 2000000 in
theorem walk_Decimal (w : World) (n : Int) (hn : -9223372036854775808 ≤ n ∧ n ≤ 9223372036854775807) :
  Calls Tryz.prog 97 #[.int .i64 n] w fun e w' => e = .returned (.string (itoaB n)) ∧ Below w.heap.size w w' := by
 rcases (by omega : n = 0 ∨ n < 0 ∨ 0 < n) with rfl | hl | hl
 ·go_enter Tryz.func97, Tryz.ntmps97
  go_wp2_with fail
  go_ret
  exact ⟨by rw [show itoaB 0 = ofL [48] by unfold itoaB; rw [itoa_pos (by omega), dec_small (by decide)]; rfl]; rfl, Below.refl _ _⟩
 ·obtain ⟨u0, hu0⟩ : ∃ u : Nat, u = n.natAbs := ⟨_, rfl⟩
  have hn0 : ¬ n = 0 := by omega
  have HI : Hid (itoaB n = ofL (45 :: Lib.decDigits u0)) := hid (by unfold itoaB; rw [itoa_neg hl, hu0])
  go_enter Tryz.func97, Tryz.ntmps97
  go_wp2_with fail
  have hq : (n == 0) = false := by simpa using hn0
  rw [hq]; clear hq
  go_loopw [0, 3] (fun a s wr => ∃ (u : Nat) (t : List UInt8), a = .int .i64 (-(u : Int)) ∧ u ≤ u0 ∧ s = .string (ofL t) ∧ Hid (decT u t = Lib.decDigits u0) ∧ Below w.heap.size w wr) (fun a _ _ => (intOf a).natAbs)
  case atStart => exact ⟨u0, [], by rw [hu0]; congr 1; omega, Nat.le_refl _, rfl, hid (by unfold decT; rw [if_neg (by omega)]; simp), Below.refl _ _⟩
  case round =>
   obtain ⟨u, t, rfl, hu, rfl, HD, HB⟩ := hrel
   have hs := decT_len HD.out (by omega)
   by_cases z : u = 0
   ·subst z
    have e : ¬ (-((0 : Nat) : Int)) ≠ 0 := by simp
    go_wp2_with fail
    go_ret
    have hd : Lib.decDigits u0 = t := by rw [← HD.out]; rfl
    refine ⟨?_, HB⟩
    rw [HI.out, hd]
    rfl
   ·have e : (-(u : Int)) ≠ 0 := by omega
    obtain ⟨x, hx0⟩ : ∃ x, UInt8.ofNat (48 + u % 10) = x := ⟨_, rfl⟩
    have HX := hid hx0
    clear hx0
    have hx : (ofL [x]).size = 1 := rfl
    go_wp2_with fail
    refine (size_w _ _ (by omega) (by omega)).mono ?_
    rintro e w' ⟨rfl, rfl⟩
    go_wp2_with fail
    rw [run_convert_bytes_arg _ _ 5 (by kernel_rfl) (by kernel_rfl) wr.heap.size 0 1 1 [48 + ((u : Int) % 10).natAbs] rfl (by
     intro i hi
     obtain rfl : i = 0 := by omega
     simp) _ (by kernel_rfl), show strOfNums [48 + (((u : Int) % 10).natAbs : Int)] = ofL [x] from by rw [show (48 + (((u : Int) % 10).natAbs : Int)) = ((48 + u % 10 : Nat) : Int) by omega, str_one (by omega), HX.out]]
    go_wp2_with fail
    go_roundw
    case rel => exact ⟨u / 10, x :: t, by trivial, by omega, by rw [app_ofL]; rfl, hid (by rw [← HD.out, decT_step z, HX.out]), Below_alloc HB _⟩
    case measure => simp [intOf]; omega
 ·obtain ⟨u0, hu0⟩ : ∃ u : Nat, u = n.natAbs := ⟨_, rfl⟩
  have hn0 : ¬ n = 0 := by omega
  have HI : Hid (itoaB n = ofL (Lib.decDigits u0)) := hid (by unfold itoaB; rw [itoa_pos (by omega), hu0, show n.toNat = n.natAbs by omega])
  go_enter Tryz.func97, Tryz.ntmps97
  go_wp2_with fail
  have hq : (n == 0) = false := by simpa using hn0
  rw [hq]; clear hq
  go_loopw [0, 3] (fun a s wr => ∃ (u : Nat) (t : List UInt8), a = .int .i64 ((u : Int)) ∧ u ≤ u0 ∧ s = .string (ofL t) ∧ Hid (decT u t = Lib.decDigits u0) ∧ Below w.heap.size w wr) (fun a _ _ => (intOf a).natAbs)
  case atStart => exact ⟨u0, [], by rw [hu0]; congr 1; omega, Nat.le_refl _, rfl, hid (by unfold decT; rw [if_neg (by omega)]; simp), Below.refl _ _⟩
  case round =>
   obtain ⟨u, t, rfl, hu, rfl, HD, HB⟩ := hrel
   have hs := decT_len HD.out (by omega)
   by_cases z : u = 0
   ·subst z
    have e : ¬ (((0 : Nat) : Int)) ≠ 0 := by simp
    go_wp2_with fail
    go_ret
    have hd : Lib.decDigits u0 = t := by rw [← HD.out]; rfl
    refine ⟨?_, HB⟩
    rw [HI.out, hd]
    rfl
   ·have e : ((u : Int)) ≠ 0 := by omega
    obtain ⟨x, hx0⟩ : ∃ x, UInt8.ofNat (48 + u % 10) = x := ⟨_, rfl⟩
    have HX := hid hx0
    clear hx0
    have hx : (ofL [x]).size = 1 := rfl
    go_wp2_with fail
    refine (size_w _ _ (by omega) (by omega)).mono ?_
    rintro e w' ⟨rfl, rfl⟩
    go_wp2_with fail
    rw [run_convert_bytes_arg _ _ 5 (by kernel_rfl) (by kernel_rfl) wr.heap.size 0 1 1 [48 + ((u : Int) % 10).natAbs] rfl (by
     intro i hi
     obtain rfl : i = 0 := by omega
     simp) _ (by kernel_rfl), show strOfNums [48 + (((u : Int) % 10).natAbs : Int)] = ofL [x] from by rw [show (48 + (((u : Int) % 10).natAbs : Int)) = ((48 + u % 10 : Nat) : Int) by omega, str_one (by omega), HX.out]]
    go_wp2_with fail
    go_roundw
    case rel => exact ⟨u / 10, x :: t, by trivial, by omega, by rw [app_ofL]; rfl, hid (by rw [← HD.out, decT_step z, HX.out]), Below_alloc HB _⟩
    case measure => simp [intOf]; omega
end Go.Proofs.YtlapeoboekchpaaGreatDoor
set_option linter.unusedVariables false
set_option linter.unusedSimpArgs false
namespace Go.Proofs.YtlapeoboekchpaaGreatDoor
open Go.RowKit Ev
theorem jn_snoc (c : UInt8) (p : List UInt8) : ∀ ps : List (List UInt8), ps ≠ [] → jnC c (ps ++ [p]) = jnC c ps ++ c :: p
 | [], h => (h rfl).elim
 | [q], _ => by simp [jnC]
 | q :: r :: s, _ => by
  have ih := jn_snoc c p (r :: s) (by simp)
  have e1 : jnC c (q :: r :: s ++ [p]) = q ++ c :: jnC c (r :: s ++ [p]) := rfl
  have e2 : jnC c (q :: r :: s) = q ++ c :: jnC c (r :: s) := rfl
  rw [e1, e2, ih]; simp
theorem joinB_snoc (c : UInt8) (t : ByteArray) {l : List ByteArray} (h : l ≠ []) : joinB (l ++ [t]) ⟨#[c]⟩ = (joinB l ⟨#[c]⟩ ++ ⟨#[c]⟩) ++ t := by
 rw [joinB_one, joinB_one, List.map_append, List.map_singleton, jn_snoc c _ _ (by simpa using h)]
 rw [show (⟨#[c]⟩ : ByteArray) = ofL [c] from rfl, app_ofL]
 conv => rhs; rw [← ofL_back t]
 rw [app_ofL]; simp
theorem joinB_single (c : UInt8) (t : ByteArray) : joinB [t] ⟨#[c]⟩ = t := by
 rw [joinB_one]; exact ofL_back t
theorem empty_app (t : ByteArray) : (⟨#[]⟩ : ByteArray) ++ t = t := by
 rw [← ofL_back t, show (⟨#[]⟩ : ByteArray) = ofL [] from rfl, app_ofL]; rfl
theorem words_snoc {l : List Int} {k : Nat} (h : k < l.length) (h0 : 0 < k) : (wordsB (l.take k) ++ ⟨#[32]⟩) ++ itoaB (l.getD k 0) = wordsB (l.take (k + 1)) := by
 unfold wordsB
 rw [take_snoc l 0 h, List.map_append, List.map_singleton, joinB_snoc _ _ (by intro e; have := congrArg List.length e; rw [List.length_map, List.length_take, List.length_nil] at this; omega)]
theorem words_one {l : List Int} (h : 0 < l.length) : (⟨#[]⟩ : ByteArray) ++ itoaB (l.getD 0 0) = wordsB (l.take 1) := by
 rw [empty_app]
 unfold wordsB
 rw [take_snoc l 0 h, List.take_zero, List.nil_append, List.map_singleton, joinB_single]
theorem words_take {l : List Int} {k : Nat} (hl : l.length ≤ 100) (h : ∀ i, i < l.length → -9223372036854775808 ≤ l.getD i 0 ∧ l.getD i 0 ≤ 9223372036854775807) : (wordsB (l.take k)).size ≤ 2100 := by
 have := wordsB_len (l := l.take k) (fun i hi => by
  rw [List.length_take] at hi
  have := h i (by omega)
  rwa [show (l.take k).getD i 0 = l.getD i 0 by simp [List.getD, List.getElem?_take, show i < k by omega]])
 rw [List.length_take] at this
 omega
def rW (s : ByteArray) (ct dg sg : Nat) : List Int := if okW s ct dg sg = true then valsW s dg ct else []
end Go.Proofs.YtlapeoboekchpaaGreatDoor
set_option linter.unusedVariables false
set_option linter.unusedSimpArgs false
namespace Go.Proofs.YtlapeoboekchpaaGreatDoor
open Go.RowKit Ev
def Sl68 : Sum := addS Sw67 85 con_Itoa
theorem VSl68 : Valid Tryz.prog Sl68 := Valid.add VSw67 ok_Itoa
def Sl69 : Sum := addS Sl68 91 con_Trim
theorem VSl69 : Valid Tryz.prog Sl69 := Valid.add VSl68 ok_Trim
def Sl70 : Sum := addS Sl69 51 con_Cut
theorem VSl70 : Valid Tryz.prog Sl70 := Valid.add VSl69 ok_Cut
def Sl71 : Sum := addS Sl70 90 con_Atoi
theorem VSl71 : Valid Tryz.prog Sl71 := Valid.add VSl70 ok_Atoi
def Sl72 : Sum := addS Sl71 48 con_Join
theorem VSl72 : Valid Tryz.prog Sl72 := Valid.add VSl71 ok_Join
def Sl73 : Sum := addS Sl72 52 con_Split
theorem VSl73 : Valid Tryz.prog Sl73 := Valid.add VSl72 ok_Split
def Sl74 : Sum := addS Sl73 89 con_SplitSeq
theorem VSl74 : Valid Tryz.prog Sl74 := Valid.add VSl73 ok_SplitSeq
def Ilib : It := addM I1 146 it_Split
theorem VIlib : ValidIt Tryz.prog Ilib := ValidIt.addM VI1 ok_itSplit
def mk_clock_words_0 (l : List Int) (v0_0 : List (List CV)) (v0_1 : Int) : DS := ⟨[none, none, none, some (.t (.c (.os 3))), none, none, some (.t (.c (.sl 1 l.length (intsC l)))), some (.t (.c (.v (.int .i64 ((l.length : Nat) : Int))))), some (.t (.c (.v (.int .i64 v0_1)))), none, none, none, none, none, none, none, none, none, none, none], [none, none, none, some (.gen 9 1 v0_0), none, none, none, none, none, none, none, none, none, none, none, none, none, none, none, none]⟩
def vc_clock_words (J : Inv) (l : List Int) (post : DV → Prop) : Prop := ∃ n, J 0 (n :: []) (mk_clock_words_0 l ([]) 0)
def ann_clock_words : Ann := ⟨fun _ => none, fun b => lookA b [(0, (none, some ⟨[6, 7, 8], [], [(3, .gen 9 1 [])]⟩))], fun _ => [], Ilib, false, fun _ => none, fun _ => none⟩
theorem ev_clock_words (J : Inv) (l : List Int) (post : DV → Prop) : evFn Tryz.prog tab Sl74 ann_clock_words J Tryz.f47 [.t (.c (.sl 1 l.length (intsC l)))] post = vc_clock_words J l post := by kernel_rfl
theorem fit_clock_words : okFn ann_clock_words Tryz.f47 = true := by kernel_rfl
def rd_clock_words_0 (J : Inv) (l : List Int) (v0_0 : List (List CV)) (v0_1 : Int) (nn0 : Nat) (post : DV → Prop) : Prop := cond (decide (v0_1 < ((l.length : Nat) : Int))) ((0 ≤ v0_1 ∧ v0_1 < ((l.length : Nat) : Int)) ∧ ((-9223372036854775808 ≤ (l.getD v0_1.toNat 0) ∧ (l.getD v0_1.toNat 0) ≤ 9223372036854775807) ∧ ((roomP 16 (v0_0.length + ([[.v (.string (itoaB (l.getD v0_1.toNat 0)))]] : List (List CV)).length)) ∧ (lt (IntKind.i64.wrap (v0_1 + (1 : Int))) fun x1 => J 0 (nn0 :: []) (mk_clock_words_0 l (v0_0 ++ ([[.v (.string (itoaB (l.getD v0_1.toNat 0)))]] : List (List CV))) x1))))) ((txP v0_0.length (genC v0_0) ∧ (txOf v0_0.length (genC v0_0)).length ≤ 1000000 ∧ (joinB (txOf v0_0.length (genC v0_0)) (⟨#[32]⟩)).size ≤ 1000000000) ∧ (post (.t (.c (.v (.string (joinB (txOf v0_0.length (genC v0_0)) (⟨#[32]⟩))))))))
theorem er_clock_words_0 (J : Inv) (l : List Int) (v0_0 : List (List CV)) (v0_1 : Int) (nn0 : Nat) (post : DV → Prop) : round Tryz.prog tab Sl74 ann_clock_words J Tryz.f47 post 0 (nn0 :: []) (mk_clock_words_0 l v0_0 v0_1) = rd_clock_words_0 J l v0_0 v0_1 nn0 post := by kernel_rfl
theorem lp_clock_words (J : Inv) (post : DV → Prop) : AllG J (loopsFn Tryz.prog tab Sl74 ann_clock_words J Tryz.f47 post) = (((∀ F s, ¬ J 0 (0 :: F) s) ∧ ∀ n F s, J 0 ((n + 1) :: F) s → round Tryz.prog tab Sl74 ann_clock_words J Tryz.f47 post 0 (n :: F) s) ∧ True) := by kernel_rfl
def J_clock_words (l : List Int) : Inv := fun b F s => match b, F with
 | 0, [nn0] => ∃ (v0_0 : List (List CV)) (v0_1 : Int), s = mk_clock_words_0 l v0_0 v0_1 ∧ ((l.length ≤ 100 ∧ (∀ i, i < (l).length → -9223372036854775808 ≤ (l).getD i 0 ∧ (l).getD i 0 ≤ 9223372036854775807)) ∧ 0 ≤ v0_1 ∧ v0_1 ≤ l.length ∧ (nn0 : Int) + v0_1 = l.length + 1 ∧ v0_0 = ((l.take v0_1.toNat).map itoaB).map ttCv)
 | _, _ => False
theorem rnd_clock_words_0 (l : List Int) (v0_0 : List (List CV)) (v0_1 : Int) (nn0 : Nat) (hp : (l).length ≤ 100 ∧ (∀ i, i < (l).length → -9223372036854775808 ≤ (l).getD i 0 ∧ (l).getD i 0 ≤ 9223372036854775807)) (hi : (l.length ≤ 100 ∧ (∀ i, i < (l).length → -9223372036854775808 ≤ (l).getD i 0 ∧ (l).getD i 0 ≤ 9223372036854775807)) ∧ 0 ≤ v0_1 ∧ v0_1 ≤ l.length ∧ ((nn0 + 1) : Int) + v0_1 = l.length + 1 ∧ v0_0 = ((l.take v0_1.toNat).map itoaB).map ttCv) : rd_clock_words_0 (J_clock_words l) l v0_0 v0_1 nn0 (fun r => LeD r (.t (.c (.v (.string (wordsB l)))))) := by
 obtain ⟨q, i1, i2, i3, i4⟩ := hi
 obtain ⟨k, rfl⟩ : ∃ k : Nat, v0_1 = k := ⟨v0_1.toNat, by omega⟩
 have hk : (k : Int).toNat = k := rfl
 rw [hk] at i4
 subst i4
 unfold rd_clock_words_0
 refine cond_i (fun h => ?_) (fun h => ?_)
 ·have hlt : k < l.length := by have := of_decide_eq_true h; omega
  have b := q.2 k hlt
  rw [Int.toNat_natCast]
  refine ⟨⟨by omega, by omega⟩, b, ⟨by simp; omega, by simp [maxLen]; omega⟩, lt_i fun x1 h1 => ?_⟩
  rw [wi (by omega)] at h1
  subst h1
  refine ⟨_, _, rfl, q, by omega, by omega, by omega, ?_⟩
  rw [ttCv_snoc, map_snoc, ← take_snoc l 0 hlt]
  rfl
 ·have e : k = l.length := by have := of_decide_eq_false h; omega
  subst e
  rw [List.take_length]
  have w := wordsB_len q.2
  refine ⟨⟨txP_ttg _, by rw [ttg_of]; simp; omega, by rw [ttg_of]; exact Nat.le_trans w (by omega)⟩, ?_⟩
  rw [ttg_of]
  exact LeD.refl _
theorem zero_clock_words_0 (l : List Int) (v0_0 : List (List CV)) (v0_1 : Int)  (hi : (l.length ≤ 100 ∧ (∀ i, i < (l).length → -9223372036854775808 ≤ (l).getD i 0 ∧ (l).getD i 0 ≤ 9223372036854775807)) ∧ 0 ≤ v0_1 ∧ v0_1 ≤ l.length ∧ (0 : Int) + v0_1 = l.length + 1 ∧ v0_0 = ((l.take v0_1.toNat).map itoaB).map ttCv) : False := by
 omega
theorem spec_clock_words (l : List Int) (hp : (l).length ≤ 100 ∧ (∀ i, i < (l).length → -9223372036854775808 ≤ (l).getD i 0 ∧ (l).getD i 0 ≤ 9223372036854775807)) : vc_clock_words (J_clock_words l) l (fun r => LeD r (.t (.c (.v (.string (wordsB l)))))) := by
 unfold vc_clock_words
 exact ⟨l.length + 1, [], 0, rfl, hp, by omega, by omega, by omega, rfl⟩
theorem all_clock_words (l : List Int) (hp : (l).length ≤ 100 ∧ (∀ i, i < (l).length → -9223372036854775808 ≤ (l).getD i 0 ∧ (l).getD i 0 ≤ 9223372036854775807)) : AllG (J_clock_words l) (loopsFn Tryz.prog tab Sl74 ann_clock_words (J_clock_words l) Tryz.f47 (fun r => LeD r (.t (.c (.v (.string (wordsB l))))))) := by
 rw [lp_clock_words]
 refine ⟨⟨?_, ?_⟩, trivial⟩
 ·intro F s h
  obtain _ | ⟨g, F⟩ := F
  case cons => exact h.elim
  obtain ⟨w0, w1, rfl, hi⟩ := h
  exact zero_clock_words_0 l w0 w1 hi
 ·intro n F s h
  obtain _ | ⟨g, F⟩ := F
  case cons => exact h.elim
  obtain ⟨w0, w1, rfl, hi⟩ := h
  rw [er_clock_words_0]
  exact rnd_clock_words_0 l _ _ _ hp hi
def con_clock_words : Con := fun args => match args with
 | [.t (.c (.sl 1 n_l c_l))] => some (.t (.c (.v (.string (wordsB (listC n_l mkInt c_l))))), some (numsP 1 n_l c_l ∧ ((listC n_l mkInt c_l)).length ≤ 100 ∧ (∀ i, i < ((listC n_l mkInt c_l)).length → -9223372036854775808 ≤ ((listC n_l mkInt c_l)).getD i 0 ∧ ((listC n_l mkInt c_l)).getD i 0 ≤ 9223372036854775807)), false)
 | _ => none
theorem ok_clock_words : Ok Tryz.prog 47 con_clock_words := by
 refine Ok.fn (ann := ann_clock_words) mixed tabOK VSl74 VIlib (fn := Tryz.f47) (by kernel_rfl) (by kernel_rfl) fit_clock_words fun args r pre fresh h hp => ?_
 unfold con_clock_words at h
 split at h
 ·rename_i n_l c_l
  cases h
  obtain ⟨hp0, hp⟩ := hp
  refine ⟨rfl, J_clock_words (listC n_l mkInt c_l), [.t (.c (.sl 1 ((listC n_l mkInt c_l).length) (intsC (listC n_l mkInt c_l))))], ?_, Nat.le_of_ble_eq_true (by kernel_rfl), ?_, ?_⟩
  ·exact (LeA_cons (leT_c ((leL_int hp0))) LeA_nil)
  ·rw [ev_clock_words]; exact spec_clock_words (listC n_l mkInt c_l) hp
  ·exact all_clock_words (listC n_l mkInt c_l) hp
 ·cases h
def St75 : Sum := addS Sl74 47 con_clock_words
theorem VSt75 : Valid Tryz.prog St75 := Valid.add VSl74 ok_clock_words
def mk_clock_numbers_0 (tx : ByteArray) (count : Int) (digits : Int) (signed : Int) (v0_0 : List Int) (v0_1 : List Int) (v0_2 : ByteArray) : DS := ⟨[none, some (.t (.c (.v (.int .i64 count)))), none, none, none, none, some (.t (.c (.p 6 0))), some (.t (.c (.p 7 0))), some (.t (.c (.p 8 0))), some (.t (.c (.p 9 0))), some (.t (.c (.p 10 0))), none, none, none, none, none, some (.t (.fn 146 [.px 1 0 (fun _ => .v (.string (⟨#[32]⟩))), .p 16 0, .px 1 0 (fun _ => .v (.int .i64 0))])), none, none, none, none, none, none, none, none, none, none, none, none, none, none, none, none, none, none, none, none, none, none, none, none, none, none, none, none, none, none, none, none, none, none, none, none, none, none, none, none, none, none], [some (.num 3 .i64 v0_0), some (.num 3 .i64 v0_1), none, none, none, none, some (.box 3 [.v (.int .i64 digits)]), some (.box 3 [.v (.int .i64 signed)]), some (.box 46 [.os 0]), some (.box 4 [.v (.bool false)]), some (.box 46 [.os 1]), none, none, none, none, none, some (.box 9 [.v (.string v0_2)]), none, none, none, none, none, none, none, none, none, none, none, none, none, none, none, none, none, none, none, none, none, none, none, none, none, none, none, none, none, none, none, none, none, none, none, none, none, none, none, none, none, none]⟩
def vc_clock_numbers (J : Inv) (tx : ByteArray) (count : Int) (digits : Int) (signed : Int) (post : DV → Prop) : Prop := (sepP (.v (.string (⟨#[32]⟩))) ∧ (.v (.string tx) : CV) = .v (.string tx) ∧ tx.size ≤ 1000000000 ∧ (.v (.int .i64 0) : CV) = .v (.int .i64 0)) ∧ (J 0 [0] (mk_clock_numbers_0 tx count digits signed ([]) ([]) tx))
def ann_clock_numbers : Ann := ⟨fun r => lookA r [(5, ([[], [0], [0, 1], [0, 1, 2], [0, 1, 2, 3], [0, 1, 2], [0, 1, 2, 3, 4, 5], [0, 1, 2, 3, 4, 5, 6], [0, 1, 2, 3, 4, 5, 6, 7], [0, 1, 2, 3, 4, 5, 6, 7, 8], [0, 1, 2, 3, 4, 5, 6, 7, 8, 9], [0, 1, 2, 3, 4, 5, 6, 7, 8, 9, 10], [0, 1, 2, 3, 4, 5, 6, 7, 8], [0, 1, 2, 3, 4, 5, 6, 7, 8, 9, 10, 11, 12], [0, 1, 2, 3, 4, 5, 6, 7, 8, 9, 10, 11, 12, 13], [0, 1, 2, 3, 4, 5, 6, 7, 8, 9, 10, 11, 12, 13, 14]], [[27, 33], [27, 33], [27, 33], [27, 33], [33], [27, 33], [33], [33], [33], [33], [], [], [33], [], [], []])), (9, ([[], [], [1], [], [1, 2, 3], [0], [0, 1, 2, 3, 4, 5]], [[], [8], [8], [], [], [9999, 8], []]))], fun b => lookA b [(0, (none, some ⟨[1, 6, 7, 8, 9, 10, 16], [6, 7, 8, 9, 10, 16], []⟩))], fun b => (lookA b [(0, [(8, 0, 0, .num 3 .i64 ([])), (10, 0, 1, .num 3 .i64 ([]))])]).getD [], Ilib, false, fun r => lookA r [(5, (3, [14])), (6, (3, [49]))], fun _ => none⟩
theorem ev_clock_numbers (J : Inv) (tx : ByteArray) (count : Int) (digits : Int) (signed : Int) (post : DV → Prop) : evFn Tryz.prog tab St75 ann_clock_numbers J Tryz.f49 [.t (.c (.v (.string tx))), .t (.c (.v (.int .i64 count))), .t (.c (.v (.int .i64 digits))), .t (.c (.v (.int .i64 signed)))] post = vc_clock_numbers J tx count digits signed post := by kernel_rfl
theorem fit_clock_numbers : okFn ann_clock_numbers Tryz.f49 = true := by kernel_rfl
def rd_clock_numbers_0 (J : Inv) (tx : ByteArray) (count : Int) (digits : Int) (signed : Int) (v0_0 : List Int) (v0_1 : List Int) (v0_2 : ByteArray) (nn0 : Nat) (post : DV → Prop) : Prop := ((cutA v0_2 (⟨#[32]⟩)).size ≤ 1000000000) ∧ ((cond (atoB (cutA v0_2 (⟨#[32]⟩))) ((-9223372036854775808 ≤ (atoV (cutA v0_2 (⟨#[32]⟩))) ∧ (atoV (cutA v0_2 (⟨#[32]⟩))) ≤ 9223372036854775807) ∧ (cond (((itoaB (atoV (cutA v0_2 (⟨#[32]⟩)))) : ByteArray).toList == ((cutA v0_2 (⟨#[32]⟩)) : ByteArray).toList) (True) ((false = false) ∧ (True)))) ((false = false) ∧ ((false = false) ∧ (True)))) ∧ (lt ((bif (atoB (cutA v0_2 (⟨#[32]⟩))) then (bif (((itoaB (atoV (cutA v0_2 (⟨#[32]⟩)))) : ByteArray).toList == ((cutA v0_2 (⟨#[32]⟩)) : ByteArray).toList) then decide (((((trimB (cutA v0_2 (⟨#[32]⟩)) (⟨#[45]⟩)) : ByteArray).size : Nat) : Int) ≤ digits) else false) else false)) fun x1 => (cond (!x1) ((true = true) ∧ (True)) (cond (decide ((atoV (cutA v0_2 (⟨#[32]⟩))) < (0 : Int))) (True) ((false = false) ∧ (True)))) ∧ (lt ((bif (!x1) then true else (bif decide ((atoV (cutA v0_2 (⟨#[32]⟩))) < (0 : Int)) then decide (((v0_1.length : Nat) : Int) < signed) else false))) fun x2 => cond x2 (post (.tu [.c (.sl 1 (([] : List Int).length) (numsC .i64 ([] : List Int))), .c (.v (.bool false))])) (((IntKind.i64 = IntKind.i64 ∧ True) ∧ roomP 8 (v0_1.length + ([(atoV (cutA v0_2 (⟨#[32]⟩)))] : List Int).length)) ∧ (((some (.t (.fn 146 [.px 1 0 (fun _ => .v (.string (⟨#[32]⟩))), .p 16 0, .px 1 0 (fun _ => .v (.int .i64 0))])) : Option DV) = some (.t (.fn 146 [.px 1 0 (fun _ => .v (.string (⟨#[32]⟩))), .p 16 0, .px 1 0 (fun _ => .v (.int .i64 0))]))) ∧ ((some (.box 9 [.v (.string v0_2)]) : Option Row) = some (.box 9 [.v (.string v0_2)])) ∧ cond (cutH v0_2 (⟨#[32]⟩)) (J 0 [nn0 + 1] (mk_clock_numbers_0 tx count digits signed v0_0 (v0_1 ++ ([(atoV (cutA v0_2 (⟨#[32]⟩)))])) (cutZ v0_2 (⟨#[32]⟩)))) (post (.tu [.c (.sl 1 ((v0_1 ++ ([(atoV (cutA v0_2 (⟨#[32]⟩)))])).length) (numsC .i64 (v0_1 ++ ([(atoV (cutA v0_2 (⟨#[32]⟩)))])))), .c (.v (.bool ((((v0_1 ++ ([(atoV (cutA v0_2 (⟨#[32]⟩)))])).length : Nat) : Int) == count)))])))))))
theorem er_clock_numbers_0 (J : Inv) (tx : ByteArray) (count : Int) (digits : Int) (signed : Int) (v0_0 : List Int) (v0_1 : List Int) (v0_2 : ByteArray) (nn0 : Nat) (post : DV → Prop) : round Tryz.prog tab St75 ann_clock_numbers J Tryz.f49 post 0 (nn0 :: []) (mk_clock_numbers_0 tx count digits signed v0_0 v0_1 v0_2) = rd_clock_numbers_0 J tx count digits signed v0_0 v0_1 v0_2 nn0 post := by kernel_rfl
theorem lp_clock_numbers (J : Inv) (post : DV → Prop) : AllG J (loopsFn Tryz.prog tab St75 ann_clock_numbers J Tryz.f49 post) = ((∀ i s, J 0 [i] s → round Tryz.prog tab St75 ann_clock_numbers J Tryz.f49 post 0 [i] s) ∧ True) := by kernel_rfl
def J_clock_numbers (tx : ByteArray) (count : Int) (digits : Int) (signed : Int) : Inv := fun b F s => match b, F with
 | 0, [nn0] => ∃ (v0_0 : List Int) (v0_1 : List Int) (v0_2 : ByteArray), s = mk_clock_numbers_0 tx count digits signed v0_0 v0_1 v0_2 ∧ ((0 ≤ count ∧ 0 ≤ digits ∧ digits ≤ 17 ∧ 0 ≤ signed ∧ (tx).size ≤ 100000000) ∧ nn0 < nPc 32 tx ∧ v0_1 = valsW tx digits.toNat nn0 ∧ v0_2 = ofL (remC 32 tx.data.toList nn0) ∧ ∀ j, j < nn0 → goodW tx digits.toNat signed.toNat j = true)
 | _, _ => False
theorem rnd_clock_numbers_0 (tx : ByteArray) (count : Int) (digits : Int) (signed : Int) (v0_0 : List Int) (v0_1 : List Int) (v0_2 : ByteArray) (nn0 : Nat) (hp : 0 ≤ count ∧ 0 ≤ digits ∧ digits ≤ 17 ∧ 0 ≤ signed ∧ (tx).size ≤ 100000000) (hi : (0 ≤ count ∧ 0 ≤ digits ∧ digits ≤ 17 ∧ 0 ≤ signed ∧ (tx).size ≤ 100000000) ∧ nn0 < nPc 32 tx ∧ v0_1 = valsW tx digits.toNat nn0 ∧ v0_2 = ofL (remC 32 tx.data.toList nn0) ∧ ∀ j, j < nn0 → goodW tx digits.toNat signed.toNat j = true) : rd_clock_numbers_0 (J_clock_numbers tx count digits signed) tx count digits signed v0_0 v0_1 v0_2 nn0 (fun r => LeD r (.tu [.c (.sl 1 ((outW tx (digits).toNat (signed).toNat).length) (intsC (outW tx (digits).toNat (signed).toNat))), .c (.v (.bool (okW tx (count).toNat (digits).toNat (signed).toNat)))])) := by
 obtain ⟨⟨q1, q2, q3, q4, q5⟩, i1, i2, i3, i4⟩ := hi
 obtain ⟨dg, rfl⟩ : ∃ d : Nat, digits = d := ⟨digits.toNat, by omega⟩
 obtain ⟨sg, rfl⟩ : ∃ d : Nat, signed = d := ⟨signed.toNat, by omega⟩
 obtain ⟨ct, rfl⟩ : ∃ d : Nat, count = d := ⟨count.toNat, by omega⟩
 rw [Int.toNat_natCast] at i2
 rw [Int.toNat_natCast, Int.toNat_natCast] at i4
 subst i2 i3
 have np := nPc_le 32 tx
 unfold rd_clock_numbers_0
 simp only [cutA_rem i1, cutH_rem i1, Int.toNat_natCast]
 have t := test_w (wAt 32 tx nn0) (dg := dg) (by omega)
 rw [t.1]
 refine ⟨by rw [ofL_size]; exact Nat.le_trans wAt_len (by omega), cond_i (fun h => ⟨ato_bd h, cond_i (fun _ => trivial) (fun _ => ⟨by trivial, trivial⟩)⟩) (fun _ => ⟨by trivial, by trivial, trivial⟩), lt_i fun x1 h1 => ⟨cond_i (fun _ => ⟨by trivial, trivial⟩) (fun _ => cond_i (fun _ => trivial) (fun _ => ⟨by trivial, trivial⟩)), lt_i fun x2 h2 => ?_⟩⟩
 have e2 : x2 = !goodW tx dg sg nn0 := by
  rw [← h2, ← h1, valsW_len]
  unfold goodW
  cases e : numR (wAt 32 tx nn0) dg with
  | none => rfl
  | some v =>
   rw [t.2 v e]
   show (bif decide (v < 0) then decide ((nn0 : Int) < sg) else false) = !(!(decide (v < 0) && decide (nn0 < sg)))
   have : decide ((nn0 : Int) < sg) = decide (nn0 < sg) := by simp
   rw [this]
   cases decide (v < 0) <;> simp
 subst e2
 refine cond_i (fun g => ?_) (fun g => ?_)
 ·have g : goodW tx dg sg nn0 = false := by simpa using g
  have a := allW_no i1 g
  rw [show outW tx dg sg = [] from if_neg (by rw [a]; simp), show okW tx ct dg sg = false by unfold okW; rw [a]; rfl]
  exact LeD.refl _
 ·have g : goodW tx dg sg nn0 = true := by simpa using g
  have ev : atoV (ofL (wAt 32 tx nn0)) = valW tx dg nn0 := by
   unfold goodW at g
   unfold valW
   cases e : numR (wAt 32 tx nn0) dg with
   | none => rw [e] at g; cases g
   | some v => rw [t.2 v e]; rfl
  rw [ev, ← valsW_succ]
  refine ⟨⟨⟨by trivial, trivial⟩, by simp [valsW_len]; omega, by simp [valsW_len, maxLen]; omega⟩, by trivial, by trivial, cond_i (fun h => ?_) (fun h => ?_)⟩
  ·have h := of_decide_eq_true h
   rw [cutZ_rem h]
   refine ⟨_, _, _, rfl, ⟨q1, q2, q3, q4, q5⟩, h, by rw [Int.toNat_natCast], rfl, fun j hj => ?_⟩
   rw [Int.toNat_natCast, Int.toNat_natCast]
   rcases (by omega : j < nn0 ∨ j = nn0) with c | rfl
   ·exact i4 j c
   ·exact g
  ·have h := of_decide_eq_false h
   have en : nn0 + 1 = nPc 32 tx := by omega
   have a : allW tx dg sg = true := allW_yes fun j hj => by
    rcases (by omega : j < nn0 ∨ j = nn0) with c | rfl
    ·exact i4 j c
    ·exact g
   rw [show outW tx dg sg = valsW tx dg (nPc 32 tx) from if_pos a, show okW tx ct dg sg = Nat.beq (nPc 32 tx) ct by unfold okW; rw [a]; rfl, en, valsW_len]
   refine le_tu (LeD.refl _) (leB ?_)
   cases hb : Nat.beq (nPc 32 tx) ct
   ·have := Nat.ne_of_beq_eq_false hb
    exact beq_eq_false_iff_ne.2 (by omega)
   ·have := Nat.eq_of_beq_eq_true hb
    rw [this]; simp
theorem spec_clock_numbers (tx : ByteArray) (count : Int) (digits : Int) (signed : Int) (hp : 0 ≤ count ∧ 0 ≤ digits ∧ digits ≤ 17 ∧ 0 ≤ signed ∧ (tx).size ≤ 100000000) : vc_clock_numbers (J_clock_numbers tx count digits signed) tx count digits signed (fun r => LeD r (.tu [.c (.sl 1 ((outW tx (digits).toNat (signed).toNat).length) (intsC (outW tx (digits).toNat (signed).toNat))), .c (.v (.bool (okW tx (count).toNat (digits).toNat (signed).toNat)))])) := by
 unfold vc_clock_numbers
 refine ⟨⟨⟨32, rfl⟩, rfl, by omega, rfl⟩, ⟨_, _, _, rfl, hp, List.length_pos_iff.2 (pcs_ne _ _), rfl, (ofL_back tx).symm, fun j hj => absurd hj (Nat.not_lt_zero _)⟩⟩
theorem all_clock_numbers (tx : ByteArray) (count : Int) (digits : Int) (signed : Int) (hp : 0 ≤ count ∧ 0 ≤ digits ∧ digits ≤ 17 ∧ 0 ≤ signed ∧ (tx).size ≤ 100000000) : AllG (J_clock_numbers tx count digits signed) (loopsFn Tryz.prog tab St75 ann_clock_numbers (J_clock_numbers tx count digits signed) Tryz.f49 (fun r => LeD r (.tu [.c (.sl 1 ((outW tx (digits).toNat (signed).toNat).length) (intsC (outW tx (digits).toNat (signed).toNat))), .c (.v (.bool (okW tx (count).toNat (digits).toNat (signed).toNat)))]))) := by
 rw [lp_clock_numbers]
 refine ⟨?_, trivial⟩
 ·intro i s h
  obtain ⟨w0, w1, w2, rfl, hi⟩ := h
  rw [er_clock_numbers_0]
  exact rnd_clock_numbers_0 tx count digits signed _ _ _ _ hp hi
def con_clock_numbers : Con := fun args => match args with
 | [.t (.c (.v (.string tx))), .t (.c (.v (.int .i64 count))), .t (.c (.v (.int .i64 digits))), .t (.c (.v (.int .i64 signed)))] => some (.tu [.c (.sl 1 ((outW tx (digits).toNat (signed).toNat).length) (intsC (outW tx (digits).toNat (signed).toNat))), .c (.v (.bool (okW tx (count).toNat (digits).toNat (signed).toNat)))], some (0 ≤ count ∧ 0 ≤ digits ∧ digits ≤ 17 ∧ 0 ≤ signed ∧ (tx).size ≤ 100000000), false)
 | _ => none
theorem ok_clock_numbers : Ok Tryz.prog 49 con_clock_numbers := by
 refine Ok.fn (ann := ann_clock_numbers) mixed tabOK VSt75 VIlib (fn := Tryz.f49) (by kernel_rfl) (by kernel_rfl) fit_clock_numbers fun args r pre fresh h hp => ?_
 unfold con_clock_numbers at h
 split at h
 ·rename_i tx count digits signed
  cases h
  refine ⟨rfl, J_clock_numbers tx count digits signed, _, LeA.refl _, Nat.le_of_ble_eq_true (by kernel_rfl), ?_, ?_⟩
  ·rw [ev_clock_numbers]; exact spec_clock_numbers tx count digits signed hp
  ·exact all_clock_numbers tx count digits signed hp
 ·cases h
def St76 : Sum := addS St75 49 con_clock_numbers
theorem VSt76 : Valid Tryz.prog St76 := Valid.add VSt75 ok_clock_numbers
end Go.Proofs.YtlapeoboekchpaaGreatDoor
set_option linter.unusedVariables false
set_option linter.unusedSimpArgs false
namespace Go.Proofs.YtlapeoboekchpaaGreatDoor
open Go.RowKit Ev
def rgI (l : Lnk) : Prop := inI l.frm ∧ inI l.to ∧ inI l.lo ∧ inI l.hi
def lnkW (l : Lnk) : ByteArray := wordsB [l.frm, l.to, l.lo, l.hi]
def netT (cs : List ByteArray) (ls : List Lnk) : ByteArray := joinB (joinB cs ⟨#[44]⟩ :: ls.map lnkW) ⟨#[59]⟩
theorem lnkW_len {l : Lnk} (h : rgI l) : (lnkW l).size ≤ 84 := wordsB_len (l := [l.frm, l.to, l.lo, l.hi]) (in4 h.1 h.2.1 h.2.2.1 h.2.2.2)
theorem netT_len {cs : List ByteArray} {ls : List Lnk} (h1 : cs.length ≤ 8) (h2 : ls.length ≤ 14) (h3 : ∀ k, k < cs.length → (txAt cs k).size ≤ 20) (h4 : ∀ k, k < ls.length → rgI (lnkAt ls k)) : (joinB cs ⟨#[44]⟩).size ≤ 200 ∧ (netT cs ls).size ≤ 6000 := by
 have a : (joinB cs ⟨#[44]⟩).size ≤ 200 := by
  have := joinB_len cs 44 (m := 20) (fun t ht => by
   obtain ⟨i, hi, e⟩ := List.mem_iff_getElem.1 ht
   have := h3 i hi
   rwa [show txAt cs i = t by simp [txAt, List.getD, hi, e]] at this)
  omega
 refine ⟨a, ?_⟩
 have := joinB_len (joinB cs ⟨#[44]⟩ :: ls.map lnkW) 59 (m := 200) (fun t ht => by
  rcases List.mem_cons.1 ht with rfl | ht
  ·exact a
  ·obtain ⟨l, hl, rfl⟩ := List.mem_map.1 ht
   obtain ⟨i, hi, e⟩ := List.mem_iff_getElem.1 hl
   have := h4 i hi
   rw [show lnkAt ls i = l by simp [lnkAt, List.getD, hi, e]] at this
   exact Nat.le_trans (lnkW_len this) (by decide))
 unfold netT
 rw [List.length_cons, List.length_map] at this
 omega
def partB (s : ByteArray) (i : Nat) : ByteArray := ofL (wAt 59 s i)
def nmsB (s : ByteArray) : List ByteArray := (pcs 44 (wAt 59 s 0)).map ofL
def lkOf (p : ByteArray) : Lnk := ⟨(valsW p 10 4).getD 0 0, (valsW p 10 4).getD 1 0, (valsW p 10 4).getD 2 0, (valsW p 10 4).getD 3 0⟩
def lksK (s : ByteArray) (k : Nat) : List Lnk := (List.range k).map fun i => lkOf (partB s (i + 1))
def synB (s : ByteArray) : Bool := (List.range (nPc 59 s - 1)).all fun i => okW (partB s (i + 1)) 4 10 2
def pnE (s : ByteArray) : Int := if s.size > 60000 then 8 else if synB s = false then 7 else ntE (nmsB s) (lksK s (nPc 59 s - 1))
def pnC (s : ByteArray) : List ByteArray := if pnE s = 0 then nmsB s else []
def pnL (s : ByteArray) : List Lnk := if pnE s = 0 then lksK s (nPc 59 s - 1) else []
theorem lksK_len {s : ByteArray} {k : Nat} : (lksK s k).length = k := by simp [lksK]
theorem lksK_succ {s : ByteArray} {k : Nat} : lksK s (k + 1) = lksK s k ++ [lkOf (partB s (k + 1))] := by simp [lksK, List.range_succ]
theorem nms_spl (s : ByteArray) : splB (cutA s ⟨#[59]⟩) ⟨#[44]⟩ = nmsB s := by
 have e := ofL_back s
 have h := cutA_rem (c := 59) (s := s) (i := 0) (nPc_pos _ _)
 rw [show remC 59 s.data.toList 0 = s.data.toList from rfl, e] at h
 rw [h, splB_one]; rfl
theorem nmsB_size {s : ByteArray} : ∀ k, k < (nmsB s).length → (txAt (nmsB s) k).size ≤ s.size := by
 intro k hk
 have hk' : k < (pcs 44 (wAt 59 s 0)).length := by simpa [nmsB] using hk
 rw [show txAt (nmsB s) k = ofL ((pcs 44 (wAt 59 s 0))[k]) by simp [txAt, nmsB, List.getD, hk'], ofL_size]
 exact Nat.le_trans (pcs_part (List.getElem_mem hk')) wAt_len
theorem synB_no {s : ByteArray} {i : Nat} (h : i + 1 < nPc 59 s) (g : okW (partB s (i + 1)) 4 10 2 = false) : synB s = false := by
 cases e : synB s with
 | false => rfl
 | true =>
  unfold synB at e
  rw [List.all_eq_true] at e
  rw [e i (List.mem_range.2 (by omega))] at g; cases g
theorem synB_yes {s : ByteArray} (h : ∀ i, i + 1 < nPc 59 s → okW (partB s (i + 1)) 4 10 2 = true) : synB s = true := by
 unfold synB
 rw [List.all_eq_true]
 exact fun i hi => h i (by have := List.mem_range.1 hi; omega)
def ppE (s : ByteArray) : Int := if okW s 4 13 4 = false then 7 else pngE ⟨(valsW s 13 4).getD 0 0, (valsW s 13 4).getD 1 0, (valsW s 13 4).getD 2 0, (valsW s 13 4).getD 3 0⟩
def ppV (s : ByteArray) : Png := if ppE s = 0 then ⟨(valsW s 13 4).getD 0 0, (valsW s 13 4).getD 1 0, (valsW s 13 4).getD 2 0, (valsW s 13 4).getD 3 0⟩ else ⟨0, 0, 0, 0⟩
end Go.Proofs.YtlapeoboekchpaaGreatDoor
set_option linter.unusedVariables false
set_option linter.unusedSimpArgs false
namespace Go.Proofs.YtlapeoboekchpaaGreatDoor
open Go.RowKit Ev
def vc_clock_FormatPing (p0 p1 p2 p3 : Int) (post : DV → Prop) : Prop := (numsP 1 4 (genC [[.v (.int .i64 p0)], [.v (.int .i64 p1)], [.v (.int .i64 p2)], [.v (.int .i64 p3)]]) ∧ (([p0, p1, p2, p3] : List Int)).length ≤ 100 ∧ (∀ i, i < (([p0, p1, p2, p3] : List Int)).length → -9223372036854775808 ≤ (([p0, p1, p2, p3] : List Int)).getD i 0 ∧ (([p0, p1, p2, p3] : List Int)).getD i 0 ≤ 9223372036854775807)) ∧ (post (.t (.c (.v (.string (wordsB ([p0, p1, p2, p3] : List Int)))))))
def ann_clock_FormatPing : Ann := ⟨fun _ => none, fun _ => none, fun _ => [], Ilib, false, fun _ => none, fun _ => none⟩
theorem ev_clock_FormatPing (J : Inv) (p0 p1 p2 p3 : Int) (post : DV → Prop) : evFn Tryz.prog tab St76 ann_clock_FormatPing J Tryz.f8 [.t (.a [.v (.int .i64 p0), .v (.int .i64 p1), .v (.int .i64 p2), .v (.int .i64 p3)])] post = vc_clock_FormatPing p0 p1 p2 p3 post := by kernel_rfl
theorem fit_clock_FormatPing : okFn ann_clock_FormatPing Tryz.f8 = true := by kernel_rfl
theorem lp_clock_FormatPing (J : Inv) (post : DV → Prop) : AllG J (loopsFn Tryz.prog tab St76 ann_clock_FormatPing J Tryz.f8 post) = (True) := by kernel_rfl
theorem spec_clock_FormatPing (p0 p1 p2 p3 : Int) (hp : inI p0 ∧ inI p1 ∧ inI p2 ∧ inI p3) : vc_clock_FormatPing p0 p1 p2 p3 (fun r => LeD r (.t (.c (.v (.string (wordsB [p0, p1, p2, p3])))))) := by
 unfold vc_clock_FormatPing
 exact ⟨⟨numsP_gen [_, _, _, _], by simp, in4 hp.1 hp.2.1 hp.2.2.1 hp.2.2.2⟩, LeD.refl _⟩
def con_clock_FormatPing : Con := fun args => match args with
 | [.t (.a [.v (.int .i64 p0), .v (.int .i64 p1), .v (.int .i64 p2), .v (.int .i64 p3)])] => some (.t (.c (.v (.string (wordsB [p0, p1, p2, p3])))), some (inI p0 ∧ inI p1 ∧ inI p2 ∧ inI p3), false)
 | _ => none
theorem ok_clock_FormatPing : Ok Tryz.prog 8 con_clock_FormatPing := by
 refine Ok.fn (ann := ann_clock_FormatPing) mixed tabOK VSt76 VIlib (fn := Tryz.f8) (by kernel_rfl) (by kernel_rfl) fit_clock_FormatPing fun args r pre fresh h hp => ?_
 unfold con_clock_FormatPing at h
 split at h
 ·rename_i p0 p1 p2 p3
  cases h
  refine ⟨rfl, fun _ _ _ => False, _, LeA.refl _, Nat.le_of_ble_eq_true (by kernel_rfl), ?_, ?_⟩
  ·rw [ev_clock_FormatPing]; exact spec_clock_FormatPing p0 p1 p2 p3 hp
  ·rw [lp_clock_FormatPing]; trivial
 ·cases h
def Su77 : Sum := addS St76 8 con_clock_FormatPing
theorem VSu77 : Valid Tryz.prog Su77 := Valid.add VSt76 ok_clock_FormatPing
def mk_clock_FormatNet_0 (cs : List ByteArray) (ls : List Lnk) (v0_0 : List (List CV)) (v0_1 : Int) : DS := ⟨[none, none, none, some (.t (.c (.os 3))), none, none, none, none, none, none, none, some (.t (.c (.sl 4 ls.length (lnksC ls)))), some (.t (.c (.v (.int .i64 ((ls.length : Nat) : Int))))), some (.t (.c (.v (.int .i64 v0_1)))), none, none, none, none, none, none, none, none, none, none, none, none, none, none, none, none, none, none, none, none, none], [none, none, none, some (.gen 9 1 v0_0), none, none, none, none, none, none, none, none, none, none, none, none, none, none, none, none, none, none, none, none, none, none, none, none, none, none, none, none, none, none, none]⟩
def vc_clock_FormatNet (J : Inv) (cs : List ByteArray) (ls : List Lnk) (post : DV → Prop) : Prop := (txP cs.length (txsC cs) ∧ (txOf cs.length (txsC cs)).length ≤ 1000000 ∧ (joinB (txOf cs.length (txsC cs)) (⟨#[44]⟩)).size ≤ 1000000000) ∧ (∃ n, J 0 (n :: []) (mk_clock_FormatNet_0 cs ls ([[.v (.string (joinB (txOf cs.length (txsC cs)) (⟨#[44]⟩)))]]) 0))
def ann_clock_FormatNet : Ann := ⟨fun _ => none, fun b => lookA b [(0, (none, some ⟨[11, 12, 13], [], [(3, .gen 9 1 [])]⟩))], fun _ => [], Ilib, false, fun _ => none, fun _ => none⟩
theorem ev_clock_FormatNet (J : Inv) (cs : List ByteArray) (ls : List Lnk) (post : DV → Prop) : evFn Tryz.prog tab Su77 ann_clock_FormatNet J Tryz.f9 [.t (.a [.sl 1 cs.length (txsC cs), .sl 4 ls.length (lnksC ls)])] post = vc_clock_FormatNet J cs ls post := by kernel_rfl
theorem fit_clock_FormatNet : okFn ann_clock_FormatNet Tryz.f9 = true := by kernel_rfl
def rd_clock_FormatNet_0 (J : Inv) (cs : List ByteArray) (ls : List Lnk) (v0_0 : List (List CV)) (v0_1 : Int) (nn0 : Nat) (post : DV → Prop) : Prop := cond (decide (v0_1 < ((ls.length : Nat) : Int))) ((0 ≤ v0_1 ∧ v0_1 < ((ls.length : Nat) : Int)) ∧ ((numsP 1 4 (genC [[.v (.int .i64 ((lnkAt ls v0_1.toNat).frm))], [.v (.int .i64 ((lnkAt ls v0_1.toNat).«to»))], [.v (.int .i64 ((lnkAt ls v0_1.toNat).lo))], [.v (.int .i64 ((lnkAt ls v0_1.toNat).hi))]]) ∧ (([((lnkAt ls v0_1.toNat).frm), ((lnkAt ls v0_1.toNat).«to»), ((lnkAt ls v0_1.toNat).lo), ((lnkAt ls v0_1.toNat).hi)] : List Int)).length ≤ 100 ∧ (∀ i, i < (([((lnkAt ls v0_1.toNat).frm), ((lnkAt ls v0_1.toNat).«to»), ((lnkAt ls v0_1.toNat).lo), ((lnkAt ls v0_1.toNat).hi)] : List Int)).length → -9223372036854775808 ≤ (([((lnkAt ls v0_1.toNat).frm), ((lnkAt ls v0_1.toNat).«to»), ((lnkAt ls v0_1.toNat).lo), ((lnkAt ls v0_1.toNat).hi)] : List Int)).getD i 0 ∧ (([((lnkAt ls v0_1.toNat).frm), ((lnkAt ls v0_1.toNat).«to»), ((lnkAt ls v0_1.toNat).lo), ((lnkAt ls v0_1.toNat).hi)] : List Int)).getD i 0 ≤ 9223372036854775807)) ∧ ((roomP 16 (v0_0.length + ([[.v (.string (wordsB ([((lnkAt ls v0_1.toNat).frm), ((lnkAt ls v0_1.toNat).«to»), ((lnkAt ls v0_1.toNat).lo), ((lnkAt ls v0_1.toNat).hi)] : List Int)))]] : List (List CV)).length)) ∧ (lt (IntKind.i64.wrap (v0_1 + (1 : Int))) fun x1 => J 0 (nn0 :: []) (mk_clock_FormatNet_0 cs ls (v0_0 ++ ([[.v (.string (wordsB ([((lnkAt ls v0_1.toNat).frm), ((lnkAt ls v0_1.toNat).«to»), ((lnkAt ls v0_1.toNat).lo), ((lnkAt ls v0_1.toNat).hi)] : List Int)))]] : List (List CV))) x1))))) ((txP v0_0.length (genC v0_0) ∧ (txOf v0_0.length (genC v0_0)).length ≤ 1000000 ∧ (joinB (txOf v0_0.length (genC v0_0)) (⟨#[59]⟩)).size ≤ 1000000000) ∧ (post (.t (.c (.v (.string (joinB (txOf v0_0.length (genC v0_0)) (⟨#[59]⟩))))))))
theorem er_clock_FormatNet_0 (J : Inv) (cs : List ByteArray) (ls : List Lnk) (v0_0 : List (List CV)) (v0_1 : Int) (nn0 : Nat) (post : DV → Prop) : round Tryz.prog tab Su77 ann_clock_FormatNet J Tryz.f9 post 0 (nn0 :: []) (mk_clock_FormatNet_0 cs ls v0_0 v0_1) = rd_clock_FormatNet_0 J cs ls v0_0 v0_1 nn0 post := by kernel_rfl
theorem lp_clock_FormatNet (J : Inv) (post : DV → Prop) : AllG J (loopsFn Tryz.prog tab Su77 ann_clock_FormatNet J Tryz.f9 post) = (((∀ F s, ¬ J 0 (0 :: F) s) ∧ ∀ n F s, J 0 ((n + 1) :: F) s → round Tryz.prog tab Su77 ann_clock_FormatNet J Tryz.f9 post 0 (n :: F) s) ∧ True) := by kernel_rfl
def J_clock_FormatNet (cs : List ByteArray) (ls : List Lnk) : Inv := fun b F s => match b, F with
 | 0, [nn0] => ∃ (v0_0 : List (List CV)) (v0_1 : Int), s = mk_clock_FormatNet_0 cs ls v0_0 v0_1 ∧ (((cs).length ≤ 8 ∧ (ls).length ≤ 14 ∧ (∀ k, k < (cs).length → (txAt cs k).size ≤ 20) ∧ ∀ k, k < (ls).length → rgI (lnkAt ls k)) ∧ 0 ≤ v0_1 ∧ v0_1 ≤ ls.length ∧ (nn0 : Int) + v0_1 = ls.length + 1 ∧ v0_0 = (joinB cs ⟨#[44]⟩ :: (ls.take v0_1.toNat).map lnkW).map ttCv)
 | _, _ => False
theorem rnd_clock_FormatNet_0 (cs : List ByteArray) (ls : List Lnk) (v0_0 : List (List CV)) (v0_1 : Int) (nn0 : Nat) (hp : (cs).length ≤ 8 ∧ (ls).length ≤ 14 ∧ (∀ k, k < (cs).length → (txAt cs k).size ≤ 20) ∧ ∀ k, k < (ls).length → rgI (lnkAt ls k)) (hi : ((cs).length ≤ 8 ∧ (ls).length ≤ 14 ∧ (∀ k, k < (cs).length → (txAt cs k).size ≤ 20) ∧ ∀ k, k < (ls).length → rgI (lnkAt ls k)) ∧ 0 ≤ v0_1 ∧ v0_1 ≤ ls.length ∧ ((nn0 + 1) : Int) + v0_1 = ls.length + 1 ∧ v0_0 = (joinB cs ⟨#[44]⟩ :: (ls.take v0_1.toNat).map lnkW).map ttCv) : rd_clock_FormatNet_0 (J_clock_FormatNet cs ls) cs ls v0_0 v0_1 nn0 (fun r => LeD r (.t (.c (.v (.string (netT cs ls)))))) := by
 obtain ⟨q, i1, i2, i3, i4⟩ := hi
 obtain ⟨k, rfl⟩ : ∃ k : Nat, v0_1 = k := ⟨v0_1.toNat, by omega⟩
 have hk : (k : Int).toNat = k := rfl
 rw [hk] at i4
 subst i4
 have z := netT_len q.1 q.2.1 q.2.2.1 q.2.2.2
 unfold rd_clock_FormatNet_0
 refine cond_i (fun h => ?_) (fun h => ?_)
 ·have hlt : k < ls.length := by have := of_decide_eq_true h; omega
  have b := q.2.2.2 k hlt
  rw [Int.toNat_natCast]
  refine ⟨⟨by omega, by omega⟩, ⟨numsP_gen [_, _, _, _], by simp, in4 b.1 b.2.1 b.2.2.1 b.2.2.2⟩, ⟨by simp; omega, by simp [maxLen]; omega⟩, lt_i fun x1 h1 => ?_⟩
  rw [wi (by omega)] at h1
  subst h1
  refine ⟨_, _, rfl, q, by omega, by omega, by omega, ?_⟩
  rw [show ((k : Int) + 1).toNat = k + 1 from rfl, take_snoc ls (lnkAt ls k) hlt, show ls.getD k (lnkAt ls k) = lnkAt ls k by simp [lnkAt, List.getD, hlt], ttCv_snoc, List.cons_append]
  rw [show [wordsB [(lnkAt ls k).frm, (lnkAt ls k).«to», (lnkAt ls k).lo, (lnkAt ls k).hi]] = [lnkW (lnkAt ls k)] from rfl, map_snoc]
 ·have e : k = ls.length := by have := of_decide_eq_false h; omega
  subst e
  rw [List.take_length, ttg_of]
  refine ⟨⟨txP_ttg _, by simp; omega, by have := z.2; unfold netT at this; omega⟩, LeD.refl _⟩
theorem zero_clock_FormatNet_0 (cs : List ByteArray) (ls : List Lnk) (v0_0 : List (List CV)) (v0_1 : Int)  (hi : ((cs).length ≤ 8 ∧ (ls).length ≤ 14 ∧ (∀ k, k < (cs).length → (txAt cs k).size ≤ 20) ∧ ∀ k, k < (ls).length → rgI (lnkAt ls k)) ∧ 0 ≤ v0_1 ∧ v0_1 ≤ ls.length ∧ (0 : Int) + v0_1 = ls.length + 1 ∧ v0_0 = (joinB cs ⟨#[44]⟩ :: (ls.take v0_1.toNat).map lnkW).map ttCv) : False := by
 omega
theorem spec_clock_FormatNet (cs : List ByteArray) (ls : List Lnk) (hp : (cs).length ≤ 8 ∧ (ls).length ≤ 14 ∧ (∀ k, k < (cs).length → (txAt cs k).size ≤ 20) ∧ ∀ k, k < (ls).length → rgI (lnkAt ls k)) : vc_clock_FormatNet (J_clock_FormatNet cs ls) cs ls (fun r => LeD r (.t (.c (.v (.string (netT cs ls)))))) := by
 unfold vc_clock_FormatNet
 have z := netT_len hp.1 hp.2.1 hp.2.2.1 hp.2.2.2
 rw [txs_of]
 refine ⟨⟨txP_txs _, by omega, by omega⟩, ls.length + 1, _, 0, rfl, hp, by omega, by omega, by omega, rfl⟩
theorem all_clock_FormatNet (cs : List ByteArray) (ls : List Lnk) (hp : (cs).length ≤ 8 ∧ (ls).length ≤ 14 ∧ (∀ k, k < (cs).length → (txAt cs k).size ≤ 20) ∧ ∀ k, k < (ls).length → rgI (lnkAt ls k)) : AllG (J_clock_FormatNet cs ls) (loopsFn Tryz.prog tab Su77 ann_clock_FormatNet (J_clock_FormatNet cs ls) Tryz.f9 (fun r => LeD r (.t (.c (.v (.string (netT cs ls))))))) := by
 rw [lp_clock_FormatNet]
 refine ⟨⟨?_, ?_⟩, trivial⟩
 ·intro F s h
  obtain _ | ⟨g, F⟩ := F
  case cons => exact h.elim
  obtain ⟨w0, w1, rfl, hi⟩ := h
  exact zero_clock_FormatNet_0 cs ls w0 w1 hi
 ·intro n F s h
  obtain _ | ⟨g, F⟩ := F
  case cons => exact h.elim
  obtain ⟨w0, w1, rfl, hi⟩ := h
  rw [er_clock_FormatNet_0]
  exact rnd_clock_FormatNet_0 cs ls _ _ _ hp hi
def con_clock_FormatNet : Con := fun args => match args with
 | [.t (.a [.sl 1 n_cs c_cs, .sl 4 n_ls c_ls])] => some (.t (.c (.v (.string (netT (txOf n_cs c_cs) (listC n_ls mkLnk c_ls))))), some (txP n_cs c_cs ∧ numsP 4 n_ls c_ls ∧ ((txOf n_cs c_cs)).length ≤ 8 ∧ ((listC n_ls mkLnk c_ls)).length ≤ 14 ∧ (∀ k, k < ((txOf n_cs c_cs)).length → (txAt (txOf n_cs c_cs) k).size ≤ 20) ∧ ∀ k, k < ((listC n_ls mkLnk c_ls)).length → rgI (lnkAt (listC n_ls mkLnk c_ls) k)), false)
 | _ => none
theorem ok_clock_FormatNet : Ok Tryz.prog 9 con_clock_FormatNet := by
 refine Ok.fn (ann := ann_clock_FormatNet) mixed tabOK VSu77 VIlib (fn := Tryz.f9) (by kernel_rfl) (by kernel_rfl) fit_clock_FormatNet fun args r pre fresh h hp => ?_
 unfold con_clock_FormatNet at h
 split at h
 ·rename_i n_cs c_cs n_ls c_ls
  cases h
  obtain ⟨hp0, hp1, hp⟩ := hp
  refine ⟨rfl, J_clock_FormatNet (txOf n_cs c_cs) (listC n_ls mkLnk c_ls), [.t (.a [.sl 1 ((txOf n_cs c_cs).length) (txsC (txOf n_cs c_cs)), .sl 4 ((listC n_ls mkLnk c_ls).length) (lnksC (listC n_ls mkLnk c_ls))])], ?_, Nat.le_of_ble_eq_true (by kernel_rfl), ?_, ?_⟩
  ·exact (LeA_cons (leT_a (LeCs.cons ((leL_str hp0)) (LeCs.cons ((leL_Lnk hp1)) LeCs.nil))) LeA_nil)
  ·rw [ev_clock_FormatNet]; exact spec_clock_FormatNet (txOf n_cs c_cs) (listC n_ls mkLnk c_ls) hp
  ·exact all_clock_FormatNet (txOf n_cs c_cs) (listC n_ls mkLnk c_ls) hp
 ·cases h
def Su78 : Sum := addS Su77 9 con_clock_FormatNet
theorem VSu78 : Valid Tryz.prog Su78 := Valid.add VSu77 ok_clock_FormatNet
def mk_clock_ParseNet_0 (tx : ByteArray) (v0_0 : List (List CV)) (v0_1 : List (List CV)) (v0_2 : ByteArray) (v0_3 : Bool) : DS := ⟨[none, none, some (.t (.c (.p 2 0))), none, none, some (.t (.c (.v (.string v0_2)))), some (.t (.c (.v (.bool v0_3)))), some (.t (.c (.p 7 0))), none, none, none, none, none, none, none, none, none, none, none, none, none, none, none, none, none, none, none, none, none, none, none, none, none, none, none, none, none, none, none, none, none, none, none, none, none, none, none, none, none, none, none, none, none, none, none, none, none, none, none, none, none, none, none, none, none, none], [some (.gen 53 4 v0_0), some (.gen 53 4 v0_1), some (.box 27 [.v (.slice none 0 0), .os 0]), none, none, none, none, some (.box 27 [.sl 1 ((splB (cutA tx (⟨#[59]⟩)) (⟨#[44]⟩)).length) (txsC (splB (cutA tx (⟨#[59]⟩)) (⟨#[44]⟩))), .os 1]), none, none, none, none, none, none, none, none, none, none, none, none, none, none, none, none, none, none, none, none, none, none, none, none, none, none, none, none, none, none, none, none, none, none, none, none, none, none, none, none, none, none, none, none, none, none, none, none, none, none, none, none, none, none, none, none, none, none]⟩
def vc_clock_ParseNet (J : Inv) (tx : ByteArray) (post : DV → Prop) : Prop := cond (decide ((((tx : ByteArray).size : Nat) : Int) > (60000 : Int))) (post (.tu [.a [.v (.slice none 0 0), .v (.slice none 0 0)], .c (.v (.int .i64 8))])) ((tx.size ≤ 1000000000) ∧ (((cutA tx (⟨#[59]⟩)).size ≤ 1000000000 ∧ 1 ≤ ((⟨#[44]⟩) : ByteArray).size ∧ (splB (cutA tx (⟨#[59]⟩)) (⟨#[44]⟩)).length = Lib.countB (cutA tx (⟨#[59]⟩)) (⟨#[44]⟩) + 1) ∧ (∃ n, J 0 (n :: []) (mk_clock_ParseNet_0 tx ([]) ([]) (cutZ tx (⟨#[59]⟩)) (cutH tx (⟨#[59]⟩))))))
def ann_clock_ParseNet : Ann := ⟨fun r => lookA r [(11, ([[], [0], [], [2], [2, 3], [], [5], [5, 6], [], [8], [8, 9], [], [11], [11, 12], [8, 9, 10, 11, 12, 13], [2, 3, 4, 5, 6, 7, 8, 9, 10, 11, 12, 13, 14], [2, 3, 4, 5, 6, 7, 8, 9, 10, 11, 12, 13, 14, 15], [0, 1, 2, 3, 4, 5, 6, 7, 8, 9, 10, 11, 12, 13, 14, 15, 16], [0, 1, 2, 3, 4, 5, 6, 7, 8, 9, 10, 11, 12, 13, 14, 15, 16, 17], [0, 1, 2, 3, 4, 5, 6, 7, 8, 9, 10, 11, 12, 13, 14, 15, 16, 17, 18]], [[56], [56], [56], [56], [56], [56], [56], [56], [56], [56], [56], [56], [56], [56], [56], [56], [], [], [], []]))], fun b => lookA b [(0, (none, some ⟨[2, 5, 6, 7], [2, 7], []⟩))], fun b => (lookA b [(0, [(2, 1, 0, .gen 53 4 []), (7, 1, 1, .gen 53 4 [])])]).getD [], Ilib, false, fun _ => none, fun _ => none⟩
theorem ev_clock_ParseNet (J : Inv) (tx : ByteArray) (post : DV → Prop) : evFn Tryz.prog tab Su78 ann_clock_ParseNet J Tryz.f12 [.t (.c (.v (.string tx)))] post = vc_clock_ParseNet J tx post := by kernel_rfl
theorem fit_clock_ParseNet : okFn ann_clock_ParseNet Tryz.f12 = true := by kernel_rfl
def rd_clock_ParseNet_0 (J : Inv) (tx : ByteArray) (v0_0 : List (List CV)) (v0_1 : List (List CV)) (v0_2 : ByteArray) (v0_3 : Bool) (nn0 : Nat) (post : DV → Prop) : Prop := cond v0_3 ((v0_2.size ≤ 1000000000) ∧ ((0 ≤ (4 : Int) ∧ 0 ≤ (10 : Int) ∧ (10 : Int) ≤ 17 ∧ 0 ≤ (2 : Int) ∧ ((cutA v0_2 (⟨#[59]⟩))).size ≤ 100000000) ∧ (cond (!(okW (cutA v0_2 (⟨#[59]⟩)) ((4 : Int)).toNat ((10 : Int)).toNat ((2 : Int)).toNat)) (post (.tu [.a [.v (.slice none 0 0), .v (.slice none 0 0)], .c (.v (.int .i64 7))])) ((0 ≤ (0 : Int) ∧ (0 : Int) < (((outW (cutA v0_2 (⟨#[59]⟩)) ((10 : Int)).toNat ((2 : Int)).toNat).length : Nat) : Int)) ∧ ((0 ≤ (1 : Int) ∧ (1 : Int) < (((outW (cutA v0_2 (⟨#[59]⟩)) ((10 : Int)).toNat ((2 : Int)).toNat).length : Nat) : Int)) ∧ ((0 ≤ (2 : Int) ∧ (2 : Int) < (((outW (cutA v0_2 (⟨#[59]⟩)) ((10 : Int)).toNat ((2 : Int)).toNat).length : Nat) : Int)) ∧ ((0 ≤ (3 : Int) ∧ (3 : Int) < (((outW (cutA v0_2 (⟨#[59]⟩)) ((10 : Int)).toNat ((2 : Int)).toNat).length : Nat) : Int)) ∧ ((roomP 32 (v0_1.length + ([[.v (.int .i64 ((outW (cutA v0_2 (⟨#[59]⟩)) ((10 : Int)).toNat ((2 : Int)).toNat).getD 0 0)), .v (.int .i64 ((outW (cutA v0_2 (⟨#[59]⟩)) ((10 : Int)).toNat ((2 : Int)).toNat).getD 1 0)), .v (.int .i64 ((outW (cutA v0_2 (⟨#[59]⟩)) ((10 : Int)).toNat ((2 : Int)).toNat).getD 2 0)), .v (.int .i64 ((outW (cutA v0_2 (⟨#[59]⟩)) ((10 : Int)).toNat ((2 : Int)).toNat).getD 3 0))]] : List (List CV)).length)) ∧ (J 0 (nn0 :: []) (mk_clock_ParseNet_0 tx v0_0 (v0_1 ++ ([[.v (.int .i64 ((outW (cutA v0_2 (⟨#[59]⟩)) ((10 : Int)).toNat ((2 : Int)).toNat).getD 0 0)), .v (.int .i64 ((outW (cutA v0_2 (⟨#[59]⟩)) ((10 : Int)).toNat ((2 : Int)).toNat).getD 1 0)), .v (.int .i64 ((outW (cutA v0_2 (⟨#[59]⟩)) ((10 : Int)).toNat ((2 : Int)).toNat).getD 2 0)), .v (.int .i64 ((outW (cutA v0_2 (⟨#[59]⟩)) ((10 : Int)).toNat ((2 : Int)).toNat).getD 3 0))]] : List (List CV))) (cutZ v0_2 (⟨#[59]⟩)) (cutH v0_2 (⟨#[59]⟩)))))))))))) ((txP ((splB (cutA tx (⟨#[59]⟩)) (⟨#[44]⟩)).length) (txsC (splB (cutA tx (⟨#[59]⟩)) (⟨#[44]⟩))) ∧ numsP 4 v0_1.length (genC v0_1) ∧ (∀ k, k < ((txOf ((splB (cutA tx (⟨#[59]⟩)) (⟨#[44]⟩)).length) (txsC (splB (cutA tx (⟨#[59]⟩)) (⟨#[44]⟩))))).length → (txAt (txOf ((splB (cutA tx (⟨#[59]⟩)) (⟨#[44]⟩)).length) (txsC (splB (cutA tx (⟨#[59]⟩)) (⟨#[44]⟩)))) k).size ≤ 1000000)) ∧ (cond ((ntE (txOf ((splB (cutA tx (⟨#[59]⟩)) (⟨#[44]⟩)).length) (txsC (splB (cutA tx (⟨#[59]⟩)) (⟨#[44]⟩)))) (listC v0_1.length mkLnk (genC v0_1))) != (0 : Int)) (post (.tu [.a [.v (.slice none 0 0), .v (.slice none 0 0)], .c (.v (.int .i64 (ntE (txOf ((splB (cutA tx (⟨#[59]⟩)) (⟨#[44]⟩)).length) (txsC (splB (cutA tx (⟨#[59]⟩)) (⟨#[44]⟩)))) (listC v0_1.length mkLnk (genC v0_1)))))])) (post (.tu [.a [.sl 1 ((splB (cutA tx (⟨#[59]⟩)) (⟨#[44]⟩)).length) (txsC (splB (cutA tx (⟨#[59]⟩)) (⟨#[44]⟩))), .sl 4 v0_1.length (genC v0_1)], .c (.v (.int .i64 0))]))))
theorem er_clock_ParseNet_0 (J : Inv) (tx : ByteArray) (v0_0 : List (List CV)) (v0_1 : List (List CV)) (v0_2 : ByteArray) (v0_3 : Bool) (nn0 : Nat) (post : DV → Prop) : round Tryz.prog tab Su78 ann_clock_ParseNet J Tryz.f12 post 0 (nn0 :: []) (mk_clock_ParseNet_0 tx v0_0 v0_1 v0_2 v0_3) = rd_clock_ParseNet_0 J tx v0_0 v0_1 v0_2 v0_3 nn0 post := by kernel_rfl
theorem lp_clock_ParseNet (J : Inv) (post : DV → Prop) : AllG J (loopsFn Tryz.prog tab Su78 ann_clock_ParseNet J Tryz.f12 post) = (((∀ F s, ¬ J 0 (0 :: F) s) ∧ ∀ n F s, J 0 ((n + 1) :: F) s → round Tryz.prog tab Su78 ann_clock_ParseNet J Tryz.f12 post 0 (n :: F) s) ∧ True) := by kernel_rfl
def J_clock_ParseNet (tx : ByteArray) : Inv := fun b F s => match b, F with
 | 0, [nn0] => ∃ (v0_0 : List (List CV)) (v0_1 : List (List CV)) (v0_2 : ByteArray) (v0_3 : Bool), s = mk_clock_ParseNet_0 tx v0_0 v0_1 v0_2 v0_3 ∧ (tx.size ≤ 60000 ∧ ∃ k : Nat, nn0 + k = nPc 59 tx ∧ k < nPc 59 tx ∧ v0_1 = (lksK tx k).map lnkCv ∧ v0_3 = decide (k + 1 < nPc 59 tx) ∧ (k + 1 < nPc 59 tx → v0_2 = ofL (remC 59 tx.data.toList (k + 1))) ∧ ∀ i, i < k → okW (partB tx (i + 1)) 4 10 2 = true)
 | _, _ => False
theorem rnd_clock_ParseNet_0 (tx : ByteArray) (v0_0 : List (List CV)) (v0_1 : List (List CV)) (v0_2 : ByteArray) (v0_3 : Bool) (nn0 : Nat) (hi : tx.size ≤ 60000 ∧ ∃ k : Nat, (nn0 + 1) + k = nPc 59 tx ∧ k < nPc 59 tx ∧ v0_1 = (lksK tx k).map lnkCv ∧ v0_3 = decide (k + 1 < nPc 59 tx) ∧ (k + 1 < nPc 59 tx → v0_2 = ofL (remC 59 tx.data.toList (k + 1))) ∧ ∀ i, i < k → okW (partB tx (i + 1)) 4 10 2 = true) : rd_clock_ParseNet_0 (J_clock_ParseNet tx) tx v0_0 v0_1 v0_2 v0_3 nn0 (fun r => LeD r (.tu [.a [.sl 1 ((pnC tx).length) (txsC (pnC tx)), .sl 4 ((pnL tx).length) (lnksC (pnL tx))], .c (.v (.int .i64 (pnE tx)))])) := by
 obtain ⟨q, k, i1, i2, i3, i4, i5, i6⟩ := hi
 subst i3 i4
 have np := nPc_le 59 tx
 unfold rd_clock_ParseNet_0
 refine cond_i (fun h => ?_) (fun h => ?_)
 ·have h := of_decide_eq_true h
  have e := i5 h
  subst e
  rw [cutA_rem h, cutH_rem h, show ofL (wAt 59 tx (k + 1)) = partB tx (k + 1) from rfl]
  refine ⟨by rw [ofL_size]; exact Nat.le_trans (rem_len _ _ _) (by rw [size_data]; omega), ⟨by decide, by decide, by decide, by decide, by unfold partB; rw [ofL_size]; exact Nat.le_trans wAt_len (by omega)⟩, cond_i (fun g => ?_) (fun g => ?_)⟩
  ·have g : okW (partB tx (k + 1)) 4 10 2 = false := by simpa using g
   have e : pnE tx = 7 := by unfold pnE; rw [if_neg (by omega), if_pos (synB_no h g)]
   rw [show pnC tx = [] from if_neg (by rw [e]; decide), show pnL tx = [] from if_neg (by rw [e]; decide), e]
   exact le_tu (leT_a (LeCs.cons leC_nil (LeCs.cons leC_nil LeCs.nil))) (LeD.refl _)
  ·have g : okW (partB tx (k + 1)) 4 10 2 = true := by simpa using g
   obtain ⟨g1, g2⟩ := okW_out g
   rw [show ((10 : Int)).toNat = 10 from rfl, show ((2 : Int)).toNat = 2 from rfl, g2, valsW_len]
   refine ⟨⟨by omega, by omega⟩, ⟨by omega, by omega⟩, ⟨by omega, by omega⟩, ⟨by omega, by omega⟩, ⟨by simp [lksK_len]; omega, by simp [lksK_len, maxLen]; omega⟩, _, _, _, _, rfl, q, k + 1, by omega, h, ?_, rfl, fun h2 => cutZ_rem h2, fun i hi => ?_⟩
   ·rw [lksK_succ, List.map_append]; rfl
   ·rcases (by omega : i < k ∨ i = k) with c | rfl
    ·exact i6 i c
    ·exact g
 ·have h := of_decide_eq_false h
  have ek : k = nPc 59 tx - 1 := by omega
  have sy : synB tx = true := synB_yes fun i hi => i6 i (by omega)
  have e : pnE tx = ntE (nmsB tx) (lksK tx (nPc 59 tx - 1)) := by unfold pnE; rw [if_neg (by omega), if_neg (by rw [sy]; simp)]
  subst ek
  rw [nms_spl, txs_of, lnkg_listC]
  refine ⟨⟨txP_txs _, numsP_lnkg _, fun i hi => Nat.le_trans (nmsB_size i hi) (by omega)⟩, cond_i (fun g => ?_) (fun g => ?_)⟩
  ·have g : pnE tx ≠ 0 := by rw [e]; simpa using g
   rw [show pnC tx = [] from if_neg g, show pnL tx = [] from if_neg g, ← e]
   exact le_tu (leT_a (LeCs.cons leC_nil (LeCs.cons leC_nil LeCs.nil))) (LeD.refl _)
  ·have g : pnE tx = 0 := by rw [e]; simpa using g
   rw [show pnC tx = nmsB tx from if_pos g, show pnL tx = lksK tx (nPc 59 tx - 1) from if_pos g, g]
   exact le_tu (leT_a (LeCs.cons (LeC1.refl _) (LeCs.cons (leC_lnks _) LeCs.nil))) (LeD.refl _)
theorem zero_clock_ParseNet_0 (tx : ByteArray) (v0_0 : List (List CV)) (v0_1 : List (List CV)) (v0_2 : ByteArray) (v0_3 : Bool)  (hi : tx.size ≤ 60000 ∧ ∃ k : Nat, 0 + k = nPc 59 tx ∧ k < nPc 59 tx ∧ v0_1 = (lksK tx k).map lnkCv ∧ v0_3 = decide (k + 1 < nPc 59 tx) ∧ (k + 1 < nPc 59 tx → v0_2 = ofL (remC 59 tx.data.toList (k + 1))) ∧ ∀ i, i < k → okW (partB tx (i + 1)) 4 10 2 = true) : False := by
 obtain ⟨_, k, h1, h2, _⟩ := hi; omega
theorem spec_clock_ParseNet (tx : ByteArray) : vc_clock_ParseNet (J_clock_ParseNet tx) tx (fun r => LeD r (.tu [.a [.sl 1 ((pnC tx).length) (txsC (pnC tx)), .sl 4 ((pnL tx).length) (lnksC (pnL tx))], .c (.v (.int .i64 (pnE tx)))])) := by
 unfold vc_clock_ParseNet
 refine cond_i (fun h => ?_) (fun h => ?_)
 ·have h := of_decide_eq_true h
  have e : pnE tx = 8 := if_pos (by omega)
  rw [show pnC tx = [] from if_neg (by rw [e]; decide), show pnL tx = [] from if_neg (by rw [e]; decide), e]
  exact le_tu (leT_a (LeCs.cons leC_nil (LeCs.cons leC_nil LeCs.nil))) (LeD.refl _)
 ·have h := of_decide_eq_false h
  have e := ofL_back tx
  have h0 := cutA_rem (c := 59) (s := tx) (i := 0) (nPc_pos _ _)
  have h1 := cutH_rem (c := 59) (s := tx) (i := 0) (nPc_pos _ _)
  rw [show remC 59 tx.data.toList 0 = tx.data.toList from rfl, e] at h0 h1
  refine ⟨by omega, ⟨by rw [h0, ofL_size]; exact Nat.le_trans wAt_len (by omega), Nat.le_refl 1, splB_count _ _⟩, nPc 59 tx, _, _, _, _, rfl, by omega, 0, rfl, nPc_pos _ _, rfl, h1, fun g => ?_, fun i hi => absurd hi (Nat.not_lt_zero _)⟩
  have := cutZ_rem (c := 59) (s := tx) (i := 0) g
  rwa [show remC 59 tx.data.toList 0 = tx.data.toList from rfl, e] at this
theorem all_clock_ParseNet (tx : ByteArray) : AllG (J_clock_ParseNet tx) (loopsFn Tryz.prog tab Su78 ann_clock_ParseNet (J_clock_ParseNet tx) Tryz.f12 (fun r => LeD r (.tu [.a [.sl 1 ((pnC tx).length) (txsC (pnC tx)), .sl 4 ((pnL tx).length) (lnksC (pnL tx))], .c (.v (.int .i64 (pnE tx)))]))) := by
 rw [lp_clock_ParseNet]
 refine ⟨⟨?_, ?_⟩, trivial⟩
 ·intro F s h
  obtain _ | ⟨g, F⟩ := F
  case cons => exact h.elim
  obtain ⟨w0, w1, w2, w3, rfl, hi⟩ := h
  exact zero_clock_ParseNet_0 tx w0 w1 w2 w3 hi
 ·intro n F s h
  obtain _ | ⟨g, F⟩ := F
  case cons => exact h.elim
  obtain ⟨w0, w1, w2, w3, rfl, hi⟩ := h
  rw [er_clock_ParseNet_0]
  exact rnd_clock_ParseNet_0 tx _ _ _ _ _ hi
def con_clock_ParseNet : Con := fun args => match args with
 | [.t (.c (.v (.string tx)))] => some (.tu [.a [.sl 1 ((pnC tx).length) (txsC (pnC tx)), .sl 4 ((pnL tx).length) (lnksC (pnL tx))], .c (.v (.int .i64 (pnE tx)))], none, false)
 | _ => none
theorem ok_clock_ParseNet : Ok Tryz.prog 12 con_clock_ParseNet := by
 refine Ok.fn (ann := ann_clock_ParseNet) mixed tabOK VSu78 VIlib (fn := Tryz.f12) (by kernel_rfl) (by kernel_rfl) fit_clock_ParseNet fun args r pre fresh h hp => ?_
 unfold con_clock_ParseNet at h
 split at h
 ·rename_i tx
  cases h
  refine ⟨rfl, J_clock_ParseNet tx, _, LeA.refl _, Nat.le_of_ble_eq_true (by kernel_rfl), ?_, ?_⟩
  ·rw [ev_clock_ParseNet]; exact spec_clock_ParseNet tx
  ·exact all_clock_ParseNet tx
 ·cases h
def Su79 : Sum := addS Su78 12 con_clock_ParseNet
theorem VSu79 : Valid Tryz.prog Su79 := Valid.add VSu78 ok_clock_ParseNet
end Go.Proofs.YtlapeoboekchpaaGreatDoor