/- Texts of this claim, together. -/
import Derived.Test.YtfadkjcfjkmalaaGreatDoorLT1
import Derived.Great.FillDense
import Derived.Great.BuildSlice
import Derived.Laws.MakeOwn
import Derived.Laws.OwnMore
import Derived.Maps.AppendAt

set_option maxRecDepth 100000
set_option linter.unusedVariables false
set_option linter.unusedSimpArgs false
namespace Go.Proofs.YtfadkjcfjkmalaaGreatDoor.Ev
open Go.RowKit
variable {w0 : World} {N0 : Nat → Prop} {Z : Pins} {P : Program} {T : Tab} {S : Sum} {forb : Nat → Bool} {M : Map} {st : DS} {a : Act} {w : World} {o : Oper}
theorem q3O (b off n : Nat) : (⟨b, off, none⟩ : Addr).add n = ⟨b, off + n, none⟩ := Addr.add_lit b off n
theorem well_nil (ha : Abs w0 N0 Z M st a w) {x : Operand} (ho : o.op = .nilCheck x) {e : Eff} (he : (opv st x).bind qdz = some e) : Well P w0 N0 Z o a w (st.app o.dst e) := by
 simp only [Option.bind_eq_some_iff] at he
 obtain ⟨d, hd, he⟩ := he
 have hx := qw ha hd
 have go : ∀ b, a.eval x = .pointer (some b) → (execOp a.eval o).run P w = .ok (.value (a.eval x)) w := by
  intro b hb
  unfold execOp
  simp only [ho, hb]
  rfl
 unfold qdz at he
 split at he
 ·rename_i k off
  cases he
  obtain ⟨b, hM, hv⟩ := hx
  exact Well.val ha (d := .t (.c (.p k off))) (go _ hv) ⟨b, hM, hv⟩
 ·rename_i n off c
  cases he
  obtain ⟨b, o1, hv, r⟩ := hx
  exact Well.val ha (d := .t (.c (.px n off c))) (go _ hv) ⟨b, o1, hv, r⟩
 ·rename_i k i sz off
  cases he
  obtain ⟨b, n, cap, hM, hv⟩ := hx
  exact Well.val ha (d := .t (.c (.pe k i sz off))) (go _ hv) ⟨b, n, cap, hM, hv⟩
 ·cases he
theorem qfR (hT : TabOK P T) {s : TypeId} {f o1 : Nat} {ft : TypeId} (h : qb1 T s f = some (o1, ft)) : ∃ F fld, P.underlying s = some (.struct F) ∧ F[f]? = some fld ∧ fld.offset = o1 ∧ fld.type = ft := by
 unfold qb1 at h
 split at h
 ·rename_i fs s1 s2 s3 s4 hs
  obtain ⟨F, h1, h2⟩ := (hT s _ hs).strct rfl
  rw [← h2, List.getElem?_map] at h
  simp only [Option.map_eq_some_iff, Prod.mk.injEq] at h
  obtain ⟨fld, g1, g2, g3⟩ := h
  exact ⟨F, fld, h1, by simpa using g1, g2, g3⟩
 ·cases h
theorem sizeT_ok (hT : TabOK P T) {t : TypeId} (h : q7Y T t ≠ 0) (w : World) : (Go.sizeOf t).run P w = .ok (q7Y T t) w := by
 unfold q7Y at *
 split
 ·rename_i i hi; exact (hT t i hi).sizeOf w
 ·rename_i hi; rw [hi] at h; exact (h rfl).elim
theorem qhk (hT : TabOK P T) (ha : Abs w0 N0 Z M st a w) {s : TypeId} {x : Operand} {f : Nat} (ho : o.op = .fieldAddr s x f) {e : Eff} (he : (opv st x).bind (qc1 T s f) = some e) : Well P w0 N0 Z o a w (st.app o.dst e) := by
 simp only [Option.bind_eq_some_iff] at he
 obtain ⟨d, hd, he⟩ := he
 have hx := qw ha hd
 unfold qc1 at he
 cases hf : qb1 T s f with
 | none => rw [hf] at he; cases he
 | some p =>
  obtain ⟨o1, ft⟩ := p
  rw [hf] at he
  simp only at he
  obtain ⟨F, fld, h1, h2, h3, h4⟩ := qfR hT hf
  cases hz : Nat.beq (q7Y T ft) 0 with
  | true => rw [hz] at he; cases he
  | false =>
   rw [hz] at he
   simp only [cond_false] at he
   have hne : q7Y T ft ≠ 0 := fun h => by rw [h] at hz; cases hz
   have hsz := sizeT_ok hT hne
   have go : ∀ b off, a.eval x = .pointer (some ⟨b, off, none⟩) → (execOp a.eval o).run P w = .ok (.value (.pointer (some ⟨b, off + o1, none⟩))) w := by
    intro b off hb
    unfold execOp
    simp only [ho, hb, Instr.fieldAt, Sem.run_bind, run_underlying h1, Result.andThen_ok, h2, Instr.sureAddr, Sem.run_pure, fieldPlace, h4, hsz, if_neg hne, h3, q3O]
   split at he
   ·rename_i k off
    cases he
    obtain ⟨b, hM, hv⟩ := hx
    exact Well.val ha (d := .t (.c (.p k (off + o1)))) (go _ _ hv) ⟨b, hM, rfl⟩
   ·rename_i n off c
    cases he
    obtain ⟨b, o2, hv, r⟩ := hx
    exact Well.val ha (d := .t (.c (.px n (off + o1) c))) (go _ _ hv) ⟨b, o2, by rw [Nat.add_assoc], r⟩
   ·rename_i k j sz off
    cases he
    obtain ⟨b, n, cap, hM, hv⟩ := hx
    exact Well.val ha (d := .t (.c (.pe k j sz (off + o1)))) (go _ _ hv) ⟨b, n, cap, hM, by rw [Nat.add_assoc]⟩
   ·cases he
theorem qae (hT : TabOK P T) {t e : TypeId} {n : Nat} {s1 s2 : Nat} {z : List Value} {q : Bool} (ht : T t = some ⟨.ar n e, s1, s2, z, q⟩) {ei : TyI} (hei : T e = some ei) {b off : Nat} {k : IntKind} {i : Int} (hi : 0 ≤ i ∧ i < n) :
  (Instr.indexAt t (.pointer (some ⟨b, off, none⟩)) (.int k i)).run P w = .ok (.pointer (some ⟨b, off + i.toNat * ei.size, none⟩)) w := by
 have h1 := (hT t _ ht).arr rfl
 have h2 := (hT e _ hei).sizeOf w
 simp [Instr.indexAt, asIntOf, run_underlying h1, Instr.sureAddr, hi, h2, q3O]
theorem q4m (hT : TabOK P T) {t e : TypeId} {s1 s2 : Nat} {z : List Value} {q : Bool} (ht : T t = some ⟨.sl e, s1, s2, z, q⟩) {ei : TyI} (hei : T e = some ei) {b off n cap : Nat} {k : IntKind} {i : Int} (hi : 0 ≤ i ∧ i < n) :
  (Instr.indexAt t (.slice (some ⟨b, off, none⟩) n cap) (.int k i)).run P w = .ok (.pointer (some ⟨b, off + i.toNat * ei.size, none⟩)) w := by
 have h1 := (hT t _ ht).sl rfl
 have h2 := (hT e _ hei).sizeOf w
 simp [Instr.indexAt, asIntOf, run_underlying h1, hi, h2, q3O]
theorem qhY {base : Nat} {e : TypeId} {sz : Nat} {v : Value} {n : Nat} {xs : List Value} (h : w.ownsRow base e sz v n xs) (hn : 0 < n) : ∃ b cap, v = .slice (some ⟨b, 0, none⟩) n cap := by
 rcases h.2 with ⟨rfl, h3⟩ | ⟨g, cap, cur, rfl, _⟩
 ·omega
 ·exact ⟨g, cap, rfl⟩
theorem qhl (hT : TabOK P T) (ha : Abs w0 N0 Z M st a w) {t : TypeId} {x y : Operand} (ho : o.op = .indexAddr t x y) {dx dy : DV} (hdx : opv st x = some dx) (hdy : opv st y = some dy) {e : Eff} (he : q7Z T forb st t dx dy = some e) (hp : e.pre) : Well P w0 N0 Z o a w (st.app o.dst e) := by
 have hx := qw ha hdx
 have hy := qw ha hdy
 have run : ∀ v, (Instr.indexAt t (a.eval x) (a.eval y)).run P w = .ok v w → (execOp a.eval o).run P w = .ok (.value v) w := by
  intro v hv
  unfold execOp
  simp only [ho, Sem.run_bind, hv, Result.andThen_ok, Sem.run_pure]
 unfold q7Z at he
 split at he
 ·rename_i n el s1 s2 z q kd i ht
  have ey : a.eval y = .int kd i := hy.1
  split at he
  ·cases he
  ·rename_i ei hei
   split at he
   ·rename_i k off
    cases he
    obtain ⟨b, hM, hv⟩ := hx
    exact Well.val ha (d := .t (.c (.p k (off + i.toNat * ei.size)))) (run _ (by rw [hv, ey]; exact qae hT ht hei hp)) ⟨b, hM, rfl⟩
   ·rename_i m off c
    cases he
    obtain ⟨b, o2, hv, r⟩ := hx
    exact Well.val ha (d := .t (.c (.px m (off + i.toNat * ei.size) c))) (run _ (by rw [hv, ey]; exact qae hT ht hei hp)) ⟨b, o2, by rw [Nat.add_assoc], r⟩
   ·cases he
 ·rename_i el s1 s2 z q kd i ht
  have ey : a.eval y = .int kd i := hy.1
  split at he
  ·cases he
  ·rename_i ei hei
   split at he
   ·rename_i sz n c
    cases hq : Nat.beq sz ei.size with
    | false => rw [hq] at he; cases he
    | true =>
     rw [hq] at he
     cases he
     obtain rfl := Nat.eq_of_beq_eq_true hq
     obtain ⟨ao, cap, hv, h1, h2, h3, h4⟩ := hx
     have hp' : 0 ≤ i ∧ i < n := hp
     obtain ⟨b, off, rfl, g2, g3, g4⟩ := h4 (by omega)
     refine Well.val ha (d := .t (.c (.px ei.size 0 (fun j => c i.toNat j)))) (run _ (by rw [hv, ey]; exact q4m hT ht hei hp')) ?_
     refine ⟨b, off + i.toNat * ei.size, rfl, g2, g3, fun j hj => g4 _ _ (by omega) hj⟩
   ·rename_i k
    obtain ⟨hM, hsh⟩ := hx
    split at he
    ·rename_i ty sz l hrow
     cases hq : Nat.beq sz ei.size with
     | false => rw [hq] at he; cases he
     | true =>
      rw [hq] at he
      cases he
      obtain rfl := Nat.eq_of_beq_eq_true hq
      obtain ⟨v', xs, g1, g2, _⟩ := ha.row k _ (rd_at hrow)
      rw [hM] at g1; cases g1
      have hp' : 0 ≤ i ∧ i < l.length := hp
      obtain ⟨b, cap, hv⟩ := qhY g2 (by omega)
      refine Well.val ha (d := .t (.c (.pe k i.toNat ei.size 0))) (run _ (by rw [hv, ey]; exact q4m hT ht hei hp')) ⟨b, _, cap, by rw [hM, hv], by rw [Nat.zero_add, Nat.add_zero]⟩
    ·rename_i ty kd' l hrow
     cases hq : Nat.beq 1 ei.size with
     | false => rw [hq] at he; cases he
     | true =>
      rw [hq] at he
      cases he
      have hq' := Nat.eq_of_beq_eq_true hq
      obtain ⟨v', g1, g2⟩ := ha.row k _ (rd_at hrow)
      rw [hM] at g1; cases g1
      have hp' : 0 ≤ i ∧ i < l.length := hp
      obtain ⟨b, cap, hv⟩ := qhY g2 (by omega)
      refine Well.val ha (d := .t (.c (.pe k i.toNat 1 0))) (run _ (by rw [hv, ey]; exact q4m hT ht hei hp')) ⟨b, _, cap, by rw [hM, hv], by rw [Nat.zero_add, Nat.add_zero, hq']⟩
    ·cases he
   ·rename_i k off sz n
    split at he
    ·rename_i ty cs hrow
     cases hq : Nat.beq sz ei.size with
     | false => rw [hq] at he; cases he
     | true =>
      rw [hq] at he
      cases he
      obtain ⟨b', cells, g1, g2, _⟩ := ha.row k _ (rd_at hrow)
      have hx : RelC w (fgn w0 N0 M) M (.ob k off sz n) (a.eval x) := hx
      rcases hx with ⟨b, cap, hM, hv, hn, hm⟩ | ⟨b, c', o', cap, hM, _⟩
      ·exact Well.val ha (d := .t (.c (.p k (off + i.toNat * ei.size)))) (run _ (by rw [hv, ey]; exact q4m hT ht hei hp)) ⟨b, hM, rfl⟩
      ·rw [hM] at g1; cases g1
    ·cases he
   ·cases he
 ·cases he
def sub' (l : List Value) (off n : Nat) : List Value := (l.drop off).take n
theorem qjp (hT : TabOK P T) {t : TypeId} {i : TyI} (hi : T t = some i) {R : CV → Value → Prop} {l : List CV} {cs : List Value} (hl : All2 R l cs) {off : Nat} {e : Eff} (he : q6k i l off = some e) : ∃ v d, e = val d ∧ (part t cs.toArray off).run P w = .ok v w ∧ RelD R d v := by
 have h1 := (hT t i hi).isAgg w
 have h2 := (hT t i hi).sizeOf w
 unfold q6k at he
 cases hg : i.sh.agg with
 | true =>
  rw [hg] at he h1
  simp only [cond_true] at he
  cases hb : Nat.ble (off + i.size) l.length with
  | false => rw [hb] at he; cases he
  | true =>
   rw [hb] at he
   cases he
   refine ⟨.agg (sub' cs off i.size).toArray, _, rfl, ?_, (⟨_, rfl, (hl.drop off).take i.size⟩ : RelD R (.t (.a (sub l off i.size))) _)⟩
   simp [part, h1, h2, sub']
 | false =>
  rw [hg] at he h1
  simp only [cond_false, Option.map_eq_some_iff] at he
  obtain ⟨y, g1, rfl⟩ := he
  obtain ⟨u, g2, g3⟩ := hl.get g1
  exact ⟨u, .t (.c y), rfl, by simp [part, h1, g2], g3⟩
theorem qm4 (hT : TabOK P T) (ha : Abs w0 N0 Z M st a w) {s : TypeId} {x : Operand} {f : Nat} (ho : o.op = .field s x f) {e : Eff} (he : (opv st x).bind (fieldE T s f) = some e) : Well P w0 N0 Z o a w (st.app o.dst e) := by
 simp only [Option.bind_eq_some_iff] at he
 obtain ⟨d, hd, he⟩ := he
 have hx := qw ha hd
 unfold fieldE at he
 split at he
 ·rename_i o1 ft l hf
  obtain ⟨F, fld, h1, h2, h3, h4⟩ := qfR hT hf
  obtain ⟨vs, hv, hl⟩ := hx
  unfold partE at he
  simp only [Option.bind_eq_some_iff] at he
  obtain ⟨i, hi, he⟩ := he
  obtain ⟨v, d', rfl, hr, hrel⟩ := qjp (w := w) hT hi hl he
  refine Well.val ha (d := d') (v := v) ?_ hrel
  unfold execOp
  simp only [ho, hv, Instr.field, Sem.run_bind, run_underlying h1, Result.andThen_ok, h2, asAgg, Sem.run_pure, h3, h4, hr]
 ·cases he
theorem qm5 (hT : TabOK P T) (ha : Abs w0 N0 Z M st a w) {t : TypeId} {x ix : Operand} (ho : o.op = .index t x ix) {dx dy : DV} (h1 : opv st x = some dx) (h2 : opv st ix = some dy) {e : Eff} (he : indexE T t dx dy = some e) (hp : e.pre) : Well P w0 N0 Z o a w (st.app o.dst e) := by
 have hx := qw ha h1
 have hy := qw ha h2
 unfold indexE at he
 split at he
 ·rename_i n el s1 s2 z q l kd i ht
  simp only [Option.map_eq_some_iff] at he
  obtain ⟨f, he, rfl⟩ := he
  obtain ⟨vs, hv, hl⟩ := hx
  have ey : a.eval ix = .int kd i := hy.1
  have hp' : 0 ≤ i ∧ i < n := hp
  unfold partE at he
  simp only [Option.bind_eq_some_iff] at he
  obtain ⟨ei, hi, he⟩ := he
  obtain ⟨v, d', rfl, hr, hrel⟩ := qjp (w := w) hT hi hl he
  have hs : q7Y T el = ei.size := by simp [q7Y, hi]
  rw [hs] at hr
  refine Well.val ha (d := d') (v := v) ?_ hrel
  unfold execOp
  simp only [ho, hv, ey, Instr.index, asIntOf, Sem.run_bind, Sem.run_pure, Result.andThen_ok, run_underlying ((hT t _ ht).arr rfl), if_pos hp', (hT el ei hi).sizeOf, hr]
 ·rename_i s1 s2 z q s kd i ht
  cases he
  have ex : a.eval x = .string s := hx.1
  have ey : a.eval ix = .int kd i := hy.1
  have hp' : 0 ≤ i ∧ i < s.size := hp
  have hlt : i.toNat < s.data.size := by have : s.size = s.data.size := rfl; omega
  have hg : s[i.toNat]? = some s.data[i.toNat] := by
   have : s[i.toNat]? = some s[i.toNat] := getElem?_pos s i.toNat hlt
   rw [this]; rfl
  refine Well.val ha (d := dInt .u8 ((s.data.getD i.toNat 0).toNat : Nat)) (v := .int .u8 ((s.data.getD i.toNat 0).toNat : Nat)) ?_ ⟨rfl, rfl⟩
  unfold execOp
  simp only [ho, ex, ey, Instr.index, asIntOf, Sem.run_bind, Sem.run_pure, Result.andThen_ok, run_underlying ((hT t _ ht).str rfl), if_pos hp'.1, hg]
  rw [show s.data.getD i.toNat 0 = s.data[i.toNat] from by unfold Array.getD; exact dif_pos hlt]
 ·cases he
theorem qkK (hT : TabOK P T) (ha : Abs w0 N0 Z M st a w) {t : TypeId} {x : Operand} (ho : o.op = .sliceToArrayPointer t x) {e : Eff} (he : (opv st x).bind (qhU T t) = some e) (hp : e.pre) : Well P w0 N0 Z o a w (st.app o.dst e) := by
 simp only [Option.bind_eq_some_iff] at he
 obtain ⟨d, hd, he⟩ := he
 have hx := qw ha hd
 unfold qhU at he
 split at he
 ·rename_i n el s1 s2 z q sz m c ht
  cases hq : Nat.beq sz 1 && Nat.blt 0 n with
  | false => rw [hq] at he; cases he
  | true =>
   rw [hq] at he
   cases he
   rw [Bool.and_eq_true] at hq
   obtain rfl := Nat.eq_of_beq_eq_true hq.1
   have hn : 0 < n := Nat.le_of_ble_eq_true hq.2
   obtain ⟨ao, cap, hv, h1, h2, h3, h4⟩ := hx
   have hp' : n ≤ m := hp
   obtain ⟨b, off, rfl, g2, g3, g4⟩ := h4 (by omega)
   refine Well.val ha (d := .t (.c (.px n 0 (fun j => c j 0)))) (v := .pointer (some ⟨b, off, none⟩)) ?_ ⟨b, off, rfl, g2, g3, fun j hj => ?_⟩
   ·unfold execOp
    have r := run_arrayAt (P := P) w t el n (some ⟨b, off, none⟩) m cap ((hT t _ ht).arr rfl) hp'
    simp only [ho, hv, Sem.run_bind, r, Result.andThen_ok, Sem.run_pure]
   ·obtain ⟨y, e1, e2⟩ := g4 j 0 (by omega) (by omega)
    exact ⟨y, by rw [← e1, Nat.mul_one, Nat.add_zero], e2⟩
 ·cases he
theorem qjq (ha : Abs w0 N0 Z M st a w) {x : Operand} {i : Nat} (ho : o.op = .extract x i) {e : Eff} (he : (opv st x).bind (qfP i) = some e) : Well P w0 N0 Z o a w (st.app o.dst e) := by
 simp only [Option.bind_eq_some_iff] at he
 obtain ⟨d, hd, he⟩ := he
 have hx := qw ha hd
 unfold qfP at he
 split at he
 ·rename_i l
  simp only [Option.map_eq_some_iff] at he
  obtain ⟨y, g1, rfl⟩ := he
  obtain ⟨vs, hv, hl⟩ := hx
  obtain ⟨u, g2, g3⟩ := hl.get g1
  refine Well.val ha (d := .t y) (v := u) ?_ g3
  unfold execOp
  simp [ho, hv, Instr.extract, g2]
 ·cases he
end Go.Proofs.YtfadkjcfjkmalaaGreatDoor.Ev
namespace Go.Proofs.YtfadkjcfjkmalaaGreatDoor.Ev
open Go.RowKit
variable {w0 : World} {N0 : Nat → Prop} {Z : Pins} {P : Program} {T : Tab} {S : Sum} {forb : Nat → Bool} {M : Map} {st : DS} {a : Act} {w : World} {o : Oper}
theorem Abs.setRow (ha : Abs w0 N0 Z M st a w) {k b : Nat} {r r' : Row} {l : Loc} {cs : Array Value} (hk : st.at k = some r) (hal : r.alive = true) (hM : M k = some l) (hb : l.block = some b)
  (hrow : Stp w0 N0 M M w (w.setRow b cs) → RelR (w.setRow b cs) w0.heap.size (fgn w0 N0 M) M k r') (hal' : r'.alive = true) : Abs w0 N0 Z M { st with h := st.h.set k (some r') } a (w.setRow b cs) := by
 have hown := ha.own k l b hM hb
 have stp : Stp w0 N0 M M w (w.setRow b cs) :=
  ⟨by simp, fun b' hf _ => setRow_other _ _ _ _ (fun e => hf k l hM (by rw [hb]; exact congrArg some e.symm)), fun _ _ h => h, fun k l b h1 h2 => Or.inl ⟨k, l, h1, h2⟩⟩
 have hbe : Below w0.heap.size w (w.setRow b cs) := ⟨rfl, rfl, rfl, by simp, fun j hj => setRow_other _ _ _ _ (by omega)⟩
 have hat : ∀ j, ({ st with h := st.h.set k (some r') } : DS).at j = if k = j ∧ k < st.h.length then some r' else st.at j := fun j => getset _ _ _ _
 have hlt : k < st.h.length := by
  unfold DS.at at hk
  cases e : st.h[k]? with
  | none => rw [e] at hk; cases hk
  | some x => exact (List.getElem?_eq_some_iff.1 e).1
 refine ha.step stp hbe ha.fits rfl (fun i dv h => Or.inl ⟨h, rfl⟩) (fun j r2 h => ?_) (fun j h => ?_) (fun j l2 b2 h1 h2 => ?_) (fun k1 k2 r1 r2 l1 l2 b2 h1 h2 h3 h4 h5 h6 h7 h8 => ?_)
 ·rw [hat] at h
  by_cases e : k = j ∧ k < st.h.length
  ·rw [if_pos e] at h; cases h; rw [← e.1]; exact Or.inr (hrow stp)
  ·rw [if_neg e] at h
   refine Or.inl ⟨h, fun h2 l2 b2 h3 h4 => setRow_other _ _ _ _ fun e2 => ?_⟩
   subst e2
   exact e ⟨ha.apart k j r r2 l l2 b2 hk hal h h2 hM h3 hb h4, hlt⟩
 ·rw [hat] at h
  by_cases e : k = j ∧ k < st.h.length
  ·rw [if_pos e] at h; cases h
  ·rw [if_neg e] at h; exact ha.dom j h
 ·have := ha.own j l2 b2 h1 h2; exact ⟨this.1, by simpa using this.2⟩
 ·have g : ∀ j r, ({ st with h := st.h.set k (some r') } : DS).at j = some r → r.alive = true → ∃ r, st.at j = some r ∧ r.alive = true := by
   intro j r3 e1 e2
   rw [hat] at e1
   by_cases e : k = j ∧ k < st.h.length
   ·rw [← e.1]; exact ⟨r, hk, hal⟩
   ·rw [if_neg e] at e1; exact ⟨r3, e1, e2⟩
  obtain ⟨q1, g1, g2⟩ := g _ _ h1 h2
  obtain ⟨q2, g3, g4⟩ := g _ _ h3 h4
  exact ha.apart k1 k2 q1 q2 l1 l2 b2 g1 g2 g3 g4 h5 h6 h7 h8
theorem q9I (hT : TabOK P T) {t : TypeId} {i : TyI} (hi : T t = some i) {b off : Nat} {v : Value} {cs : Array Value} {ty : TypeId} (hg : w.heap[b]? = some (.cells cs ty (0, 0))) (hs : v.cells.size = i.size) (hfit : off + v.cells.size ≤ cs.size) (h1 : ∀ x ∈ v.cells.toList, x.oneCell' = true) :
  (Instr.storeAt t (.pointer (some ⟨b, off, none⟩)) v).run P w = .ok () (w.setRow b (cs.toList.take off ++ v.cells.toList ++ cs.toList.drop (off + v.cells.size)).toArray) := by
 have h2 := (hT t i hi).sizeOf w
 have h3 := run_storeCells_at (P := P) b off ty v.cells.toList 0 cs w hg (by simpa using hfit) h1
 simp only [Nat.add_zero, Array.length_toList] at h3
 simp [Instr.storeAt, Instr.sureAddr, storeVar, h2, hs]
 rw [← hs]
 simpa using h3
theorem qeX {R : CV → Value → Prop} {c xs : List CV} {cs vs : List Value} (h : All2 R c cs) (g : All2 R xs vs) (off : Nat) : All2 R (put c off xs) (cs.take off ++ vs ++ cs.drop (off + vs.length)) := by
 unfold put
 rw [← g.length]
 exact ((h.take off).append g).append (h.drop _)
theorem take_set {l : List Value} {n j : Nat} {v : Value} (hj : j < n) (hn : n ≤ l.length) : (l.take j ++ [v] ++ l.drop (j + 1)).take n = (l.take n).set j v := by
 apply List.ext_getElem?
 intro i
 rw [List.getElem?_take, List.getElem?_set]
 by_cases hi : i < n
 ·rw [if_pos hi]
  by_cases h1 : j = i
  ·subst h1
   rw [if_pos rfl, if_pos (by rw [List.length_take]; omega)]
   rw [List.append_assoc, List.getElem?_append_right (by rw [List.length_take]; omega)]
   simp [List.length_take, Nat.min_eq_left (show j ≤ l.length by omega)]
  ·rw [if_neg h1, List.getElem?_take, if_pos hi]
   by_cases h2 : i < j
   ·rw [List.append_assoc, List.getElem?_append_left (by rw [List.length_take]; omega), List.getElem?_take, if_pos h2]
   ·rw [List.getElem?_append_right (by simp; omega), List.getElem?_drop]
    congr 1
    simp; omega
 ·rw [if_neg hi]
  split
  ·omega
  ·rw [List.getElem?_take, if_neg hi]
theorem take_put {α : Type} (l ys : List α) {o N : Nat} (h1 : o + ys.length ≤ N) (h2 : N ≤ l.length) : (l.take o ++ ys ++ l.drop (o + ys.length)).take N = (l.take N).take o ++ ys ++ (l.take N).drop (o + ys.length) := by
 rw [List.take_append, List.take_of_length_le (by simp; omega)]
 congr 1
 ·rw [List.take_take, Nat.min_eq_left (by omega)]
 ·rw [List.take_drop, List.length_append, List.length_take, Nat.min_eq_left (by omega)]
  congr 2; omega
theorem put_len {l xs : List CV} {o : Nat} (h : o + xs.length ≤ l.length) : (put l o xs).length = l.length := by
 unfold put; simp; omega
theorem qjr {sz off : Nat} {xs : List CV} (ho : off + xs.length ≤ sz) : ∀ (l : List (List CV)) (j : Nat), (∀ e ∈ l, e.length = sz) → j < l.length → (l.set j (put (l.getD j []) off xs)).flatten = put l.flatten (j * sz + off) xs
 | [], j, _, h => by simp at h
 | e :: l, 0, hl, _ => by
  have he := hl e (by simp)
  rw [List.set_cons_zero, List.flatten_cons, List.flatten_cons, Nat.zero_mul, Nat.zero_add]
  simp only [List.getD_cons_zero]
  unfold put
  rw [List.take_append_of_le_length (by omega), List.drop_append_of_le_length (by omega), List.append_assoc]
 | e :: l, j + 1, hl, h => by
  have he := hl e (by simp)
  have ih := qjr ho l j (fun x hx => hl x (by simp [hx])) (by simpa using h)
  rw [List.set_cons_succ, List.flatten_cons, List.flatten_cons, List.getD_cons_succ, ih]
  unfold put
  have e1 : (j + 1) * sz + off = e.length + (j * sz + off) := by rw [Nat.succ_mul]; omega
  rw [e1, List.take_length_add_append, show e.length + (j * sz + off) + xs.length = e.length + (j * sz + off + xs.length) by omega, List.drop_length_add_append]
  simp
theorem isF_rel {N : Nat → Prop} : ∀ {x : CV} {v : Value}, isF x = true → RelC w N M x v → RelF w N x v
 | .v _, _, _, h => h
 | .sl _ _ _, _, _, h => h
 | .px _ _ _, _, _, h => h
 | .er _, _, _, h => h
 | .any, _, _, h => h
 | .os _, _, h, _ | .p _ _, _, h, _ | .pe _ _ _ _, _, h, _ | .ob _ _ _ _, _, h, _ => by simp [isF] at h
theorem qcH {N : Nat → Prop} : ∀ {l : List CV} {vs : List Value}, allF l = true → All2 (RelC w N M) l vs → All2 (RelF w N) l vs
 | [], [], _, _ => trivial
 | x :: l, v :: vs, h, g => by
  simp only [allF, Bool.and_eq_true] at h
  exact ⟨isF_rel h.1 g.1, qcH h.2 g.2⟩
 | [], _ :: _, _, g => g.elim
 | _ :: _, [], _, g => g.elim
theorem unFn_rel {w : World} {N : Nat → Prop} {M : Map} {d : DV} {v : Value} (h : RelD (RelC w N M) d v) : RelD (RelC w N M) (unFn d) v := by
 unfold unFn
 split
 ·obtain ⟨vs, e, g⟩ := h
  cases vs with
  | nil => exact ⟨e, by rw [e]; rfl⟩
  | cons _ _ => exact g.elim
 ·exact h
theorem fnOf_rel {w : World} {N : Nat → Prop} {M : Map} {d : DV} {v : Value} (h : RelD (RelC w N M) d v) : RelD (RelC w N M) (fnOf d) v := by
 unfold fnOf
 split
 ·exact ⟨[], h.1, trivial⟩
 ·exact h
theorem qm6 (hT : TabOK P T) (ha : Abs w0 N0 Z M st a w) {t : TypeId} {x y : Operand} (ho : o.op = .store t x y) {dx dy : DV} (hdx : opv st x = some dx) (hdy : opv st y = some dy) {e : Eff} (he : qh1 T forb st t dx (unFn dy) = some e) (hp : e.pre) : Well P w0 N0 Z o a w (st.app o.dst e) := by
 have hx := qw ha hdx
 have hy := unFn_rel (qw ha hdy)
 clear hdy
 generalize unFn dy = dy at he hy
 have fin : ∀ M' w' e', (Instr.storeAt t (a.eval x) (a.eval y)).run P w = .ok () w' → Abs w0 N0 Z M' e' a w' → e'.t = st.t → ∀ st', st' = e'.putO o.dst (some noV) → (∀ dv, some noV = some dv → RelD (RelC w' (fgn w0 N0 M') M') dv undef) → Well P w0 N0 Z o a w st' := by
  intro M' w' e' hr hab _ st' hst hv
  refine .skip M' w' ?_ ?_
  ·unfold execOp
   simp only [ho, Sem.run_bind, hr, Result.andThen_ok]
   rfl
  ·rw [hst]; exact hab.put (Below.refl _ _) o.dst hv
 have hund : ∀ {w' : World} {M' : Map} (dv : DV), some noV = some dv → RelD (RelC w' (fgn w0 N0 M') M') dv undef := by
  intro w' M' dv e
  cases e
  exact ⟨[], rfl, trivial⟩
 unfold qh1 at he
 split at he
 rotate_left
 ·cases he
 rename_i i xs hi hcy
 split at he
 ·rename_i k off
  obtain ⟨b, hM, hv⟩ := hx
  split at he
  ·rename_i ty c hrow
   cases hq : (Nat.beq xs.length i.size && Nat.ble (off + xs.length) c.length) with
   | false => rw [hq] at he; cases he
   | true =>
    rw [hq] at he
    cases he
    simp only [Bool.and_eq_true] at hq
    have q1 := Nat.eq_of_beq_eq_true hq.1
    have q2 := Nat.le_of_ble_eq_true hq.2
    have hat := rd_at hrow
    obtain ⟨b', cs, g1, g2, g3⟩ := ha.row k _ hat
    rw [hM] at g1; cases g1
    have hcells := q4K (fun _ _ h => RelC.one h) hcy hy
    have hl1 := hcells.length
    have hl2 := g3.length
    simp only [Array.length_toList] at hl1 hl2
    have hrun := q9I (w := w) hT hi (off := off) g2 (v := a.eval y) (by omega) (by omega) (hcells.all_right fun _ _ h => RelC.one h)
    have hab := ha.setRow (cs := ((cs.toList.take off ++ (a.eval y).cells.toList ++ cs.toList.drop (off + (a.eval y).cells.size)).toArray)) (r' := .box ty (put c off xs)) hat rfl hM rfl
     (fun stp => ⟨b, _, hM, setRow_heap _ _ _ _ _ _ g2, by
      have := qeX g3 hcells off
      simp only [Array.length_toList] at this
      exact this.mono fun _ _ g => stp.relC g⟩) rfl
    exact fin M _ _ (by rw [hv]; exact hrun) hab rfl _ rfl hund
  ·cases he
 ·rename_i k j sz off
  obtain ⟨b, m, cap, hM, hv⟩ := hx
  split at he
  ·rename_i ty kd' l hrow
   split at he
   rotate_left
   ·cases he
   rename_i kd n
   cases hq : (Nat.beq sz 1 && Nat.beq off 0 && Nat.beq i.size 1) with
   | false => rw [hq] at he; cases he
   | true =>
    rw [hq] at he
    cases he
    simp only [Bool.and_eq_true] at hq
    obtain rfl := Nat.eq_of_beq_eq_true hq.1.1
    obtain rfl := Nat.eq_of_beq_eq_true hq.1.2
    have q3 := Nat.eq_of_beq_eq_true hq.2
    obtain ⟨hj, rfl⟩ : j < l.length ∧ kd = kd' := hp
    have hat := rd_at hrow
    obtain ⟨v', g1, g2⟩ := ha.row k _ hat
    rw [hM] at g1; cases g1
    have hcells := q4K (fun _ _ h => RelC.one h) hcy hy
    have hey : (a.eval y).cells.toList = [.int kd n] := by
     match h : (a.eval y).cells.toList, hcells with
     | [u], hc => rw [show u = .int kd n from hc.1.1]
     | [], hc => exact hc.elim
     | _ :: _ :: _, hc => exact hc.2.elim
    have hsz : (a.eval y).cells.size = 1 := by rw [← Array.length_toList, hey]; rfl
    obtain ⟨h1, h2⟩ := g2
    rcases h2 with ⟨h2, h3⟩ | ⟨g, cap', cur, h3, hb, hg, hn, hm, hs, ht⟩
    ·cases h2
    ·cases h3
     have hsc : cur.size = cap * 1 := hs
     have hlc : l.length ≤ cur.size := by omega
     have hrun := q9I (w := w) hT hi (off := j * 1 + 0) hg (v := a.eval y) (by omega) (by omega) (hcells.all_right fun _ _ h => RelC.one h)
     have hab := ha.setRow (cs := ((cur.toList.take (j * 1 + 0) ++ (a.eval y).cells.toList ++ cur.toList.drop (j * 1 + 0 + (a.eval y).cells.size)).toArray)) (r' := .num ty kd (l.set j n)) hat rfl hM rfl
      (fun stp => by
       refine ⟨_, hM, by simp, Or.inr ⟨b, cap, _, by simp, hb, setRow_heap _ _ _ _ _ _ hg, by simpa using hn, hm, ?_, ?_⟩⟩
       ·simp [hsz]; omega
       ·rw [hsz, hey]
        simp only [Nat.mul_one, Nat.add_zero, List.length_set]
        have := take_set (l := cur.toList) (n := l.length) (j := j) (v := .int kd n) hj (by simpa using hlc)
        rw [this]
        rw [Nat.mul_one] at ht
        rw [ht, List.map_set]) rfl
     exact fin M _ _ (by rw [hv]; exact hrun) hab rfl _ rfl hund
  ·rename_i ty sz' l hrow
   cases hq : (Nat.beq sz sz' && (Nat.beq xs.length i.size && (Nat.ble (off + xs.length) sz && allF xs))) with
   | false => rw [hq] at he; cases he
   | true =>
    rw [hq] at he
    cases he
    simp only [Bool.and_eq_true] at hq
    obtain ⟨q1, q2, q3, q4⟩ := hq
    obtain rfl := Nat.eq_of_beq_eq_true q1
    have q2 := Nat.eq_of_beq_eq_true q2
    have q3 := Nat.le_of_ble_eq_true q3
    have hj : j < l.length := hp
    have hat := rd_at hrow
    obtain ⟨v', xs0, g1, g2, g3, g4⟩ := ha.row k _ hat
    rw [hM] at g1; cases g1
    have hcells := q4K (fun _ _ h => RelC.one h) hcy hy
    have hF := qcH q4 hcells
    have hl1 := hcells.length
    obtain ⟨h1, h2⟩ := g2
    rcases h2 with ⟨h2, h3⟩ | ⟨g, cap', cur, h3, hb, hg, hn, hm, hs, ht⟩
    ·cases h2
    ·cases h3
     have hjs : j * sz + sz ≤ l.length * sz := by rw [← Nat.succ_mul]; exact Nat.mul_le_mul_right _ hj
     have hns : l.length * sz ≤ cap * sz := Nat.mul_le_mul_right _ hn
     have hcl : cur.toList.length = cap * sz := by simpa using hs
     have hys : (a.eval y).cells.toList.length = xs.length := hl1.symm
     have hsz : (a.eval y).cells.size = xs.length := by simpa using hys
     have hrun := q9I (w := w) hT hi (off := j * sz + off) hg (v := a.eval y) (by omega) (by omega) (hcells.all_right fun _ _ h => RelC.one h)
     have hab := ha.setRow (cs := ((cur.toList.take (j * sz + off) ++ (a.eval y).cells.toList ++ cur.toList.drop (j * sz + off + (a.eval y).cells.size)).toArray)) (r' := .gen ty sz (l.set j (put (l.getD j []) off xs))) hat rfl hM rfl
      (fun stp => by
       refine ⟨_, xs0.take (j * sz + off) ++ (a.eval y).cells.toList ++ xs0.drop (j * sz + off + (a.eval y).cells.toList.length), hM, ⟨?_, Or.inr ⟨b, cap, _, by simp, hb, setRow_heap _ _ _ _ _ _ hg, by simpa using hn, hm, ?_, ?_⟩⟩, ?_, ?_⟩
       ·simp only [List.length_append, List.length_take, List.length_drop, List.length_set]; omega
       ·simp; omega
       ·rw [List.length_set, ← Array.length_toList]
        have := take_put cur.toList (a.eval y).cells.toList (o := j * sz + off) (N := l.length * sz) (by omega) (by omega)
        simp only [List.toList_toArray]
        rw [this, ht]
       ·intro e he
        rcases List.mem_or_eq_of_mem_set he with he | he
        ·exact g3 e he
        ·have h5 := g3 l[j] (List.getElem_mem hj)
         rw [he, put_len (by simp [List.getD, hj]; omega)]
         simp [List.getD, hj, h5]
       ·rw [qjr (by omega) l j g3 hj]
        exact (qeX g4 hF (j * sz + off)).mono fun _ _ g => stp.relF g) rfl
     exact fin M _ _ (by rw [hv]; exact hrun) hab rfl _ rfl hund
  ·cases he
 ·cases he
theorem q7d (ha : Abs w0 N0 Z M st a w) : ∀ {l : List (Nat × Operand)} {ps : List (Nat × List CV)}, q4t st l = some ps → All2 (fun p q => p.1 = q.1 ∧ All2 (RelC w (fgn w0 N0 M) M) p.2 q.2.cells.toList) ps (l.map fun x => (x.1, a.eval x.2))
 | [], ps, h => by simp only [q4t, Option.some.injEq] at h; subst h; trivial
 | (i, x) :: l, ps, h => by
  simp only [q4t] at h
  split at h
  ·rename_i c r h1 h2
   simp only [Option.some.injEq] at h; subst h
   simp only [Option.bind_eq_some_iff] at h1
   obtain ⟨d, g1, g2⟩ := h1
   exact ⟨⟨rfl, q4K (fun _ _ h => RelC.one h) g2 (qw ha g1)⟩, q7d ha h2⟩
  ·cases h
theorem qhZ (off : Nat) : ∀ (xs : List Value) (k : Nat) (A : Array Value), off + k + xs.length ≤ A.size →
  ((xs.zipIdx k).foldl (fun cs p => cs.setIfInBounds (off + p.2) p.1) A).toList = A.toList.take (off + k) ++ xs ++ A.toList.drop (off + k + xs.length)
 | [], k, A, _ => by simp
 | x :: xs, k, A, h => by
  simp only [List.length_cons] at h
  rw [List.zipIdx_cons, List.foldl_cons, qhZ off xs (k + 1) _ (by simp; omega)]
  simp only [Array.toList_setIfInBounds]
  rw [show off + (k + 1) = off + k + 1 by omega]
  have hlt : off + k < A.toList.length := by simp; omega
  have e1 : (A.toList.set (off + k) x).take (off + k + 1) = A.toList.take (off + k) ++ [x] := by
   rw [List.take_succ_eq_append_getElem (by simpa using hlt)]
   simp [List.take_set]
   exact List.set_eq_of_length_le (by rw [List.length_take]; omega)
  have e2 : (A.toList.set (off + k) x).drop (off + k + 1 + xs.length) = A.toList.drop (off + k + (x :: xs).length) := by
   rw [List.drop_set_of_lt (by omega)]
   congr 1; simp; omega
  rw [e1, e2]
  simp
theorem qeY {R : CV → Value → Prop} {place : Nat → Option (Nat × Nat)} : ∀ {ps : List (Nat × List CV)} {qs : List (Nat × Value)} {c c' : List CV} {A : Array Value}, qdT place c ps = some c' → All2 R c A.toList → All2 (fun p q => p.1 = q.1 ∧ All2 R p.2 q.2.cells.toList) ps qs → ∃ A', Instr.fill place A qs = some A' ∧ All2 R c' A'.toList
 | [], [], c, c', A, h, hc, _ => by simp only [qdT, Option.some.injEq] at h; subst h; exact ⟨A, rfl, hc⟩
 | (i, x) :: ps, (i', v) :: qs, c, c', A, h, hc, hq => by
  obtain ⟨⟨e1, e2⟩, hq⟩ := hq
  simp only at e1 e2
  subst e1
  simp only [qdT] at h
  split at h
  ·cases h
  ·rename_i off size hpl
   cases hb : (Nat.beq x.length size && Nat.ble (off + x.length) c.length) with
   | false => rw [hb] at h; cases h
   | true =>
    rw [hb] at h
    simp only [cond_true] at h
    simp only [Bool.and_eq_true] at hb
    have b1 := Nat.eq_of_beq_eq_true hb.1
    have b2 := Nat.le_of_ble_eq_true hb.2
    have l1 := e2.length
    have l2 := hc.length
    simp only [Array.length_toList] at l1 l2
    have hA : (v.cells.zipIdx.foldl (fun cs (c, j) => cs.setIfInBounds (off + j) c) A).toList = A.toList.take off ++ v.cells.toList ++ A.toList.drop (off + v.cells.toList.length) := by
     have := qhZ off v.cells.toList 0 A (by simp; omega)
     rw [← Array.foldl_toList, Array.toList_zipIdx]
     simpa using this
    obtain ⟨A', g1, g2⟩ := qeY (A := v.cells.zipIdx.foldl (fun cs (c, j) => cs.setIfInBounds (off + j) c) A) h (by rw [hA]; exact qeX hc e2 off) hq
    refine ⟨A', ?_, g2⟩
    simp only [Instr.fill, hpl]
    rw [if_neg (by simp; omega)]
    exact g1
 | [], _ :: _, _, _, _, _, _, h => h.elim
 | _ :: _, [], _, _, _, _, _, h => h.elim
theorem qeF (hT : TabOK P T) : ∀ {F : List Field} {pl : List (Nat × Nat)}, q8T T (F.map fun f => (f.offset, f.type)) = some pl → F.mapM (fun f => (P.info? f.type).map fun i => (f.offset, i.size)) = some pl
 | [], pl, h => by simp only [List.map_nil, q8T, Option.some.injEq] at h; subst h; rfl
 | f :: F, pl, h => by
  simp only [List.map_cons, q8T] at h
  split at h
  ·rename_i i r h1 h2
   simp only [Option.some.injEq] at h; subst h
   obtain ⟨x, g1, g2, _⟩ := (hT _ _ h1).inf
   simp [List.mapM_cons, g1, g2, qeF hT h2]
  ·cases h
theorem qm7 (hT : TabOK P T) (ha : Abs w0 N0 Z M st a w) {t : TypeId} {parts : Array (Nat × Operand)} (ho : o.op = .build t parts) {e : Eff} (he : qh2 T st t parts.toList = some e) : Well P w0 N0 Z o a w (st.app o.dst e) := by
 unfold qh2 at he
 split at he
 ·rename_i i ps hi hps
  cases hz : q1P i.zero with
  | false => rw [hz] at he; cases he
  | true =>
   rw [hz] at he
   simp only [cond_true] at he
   obtain ⟨d, hu, hd⟩ := (hT t i hi).desc
   obtain ⟨it, hit, _, _, z, hiz, hzc⟩ := (hT t i hi).inf
   have hqs := q7d ha hps
   have h0 : All2 (RelC w (fgn w0 N0 M) M) (i.zero.map .v) z.cells.toList := by rw [hzc]; exact qcF qad hz
   have fin : ∀ (cells : Array Value) (l : List CV), P.built t (parts.map fun x => (x.1, a.eval x.2)).toList = some cells → All2 (RelC w (fgn w0 N0 M) M) l cells.toList → Well P w0 N0 Z o a w (st.app o.dst (val (.t (.a l)))) := by
    intro cells l h1 h2
    refine Well.val ha (d := .t (.a l)) (v := .agg cells) ?_ ⟨cells.toList, by simp, h2⟩
    unfold execOp
    simp only [ho, Sem.run_bind, run_build w t _ cells h1, Result.andThen_ok, Sem.run_pure]
   have hpm : (parts.map fun x => (x.1, a.eval x.2)).toList = parts.toList.map fun x => (x.1, a.eval x.2) := by simp
   split at he
   ·rename_i fs hsh
    simp only [Option.bind_eq_some_iff, Option.map_eq_some_iff] at he
    obtain ⟨pl, h1, l, h2, rfl⟩ := he
    obtain ⟨F, hF, hfs⟩ := (hT t i hi).strct hsh
    obtain ⟨A', g1, g2⟩ := qeY h2 h0 hqs
    refine fin A' l ?_ g2
    unfold Program.built
    rw [← hfs] at h1
    simp only [hit, hF, hiz, qeF hT h1, hpm]
    rw [← g1]
    congr 1
    funext j
    simp
   ·rename_i n el hsh
    simp only [Option.bind_eq_some_iff, Option.map_eq_some_iff] at he
    obtain ⟨ei, h1, l, h2, rfl⟩ := he
    obtain ⟨A', g1, g2⟩ := qeY h2 h0 hqs
    obtain ⟨ie, hie, hies, _⟩ := (hT el ei h1).inf
    refine fin A' l ?_ g2
    unfold Program.built
    simp only [hit, (hT t i hi).arr hsh, hiz, hie, hpm, hies]
    exact g1
   ·cases he
 ·cases he
theorem qeG {sz : Nat} : ∀ {ps : List (Nat × List CV)} {qs : List (Nat × Value)} {k : Nat} {l : List (List CV)}, qb2 sz k ps = some l → All2 (fun p q => p.1 = q.1 ∧ All2 (RelC w (fgn w0 N0 M) M) p.2 q.2.cells.toList) ps qs →
  ∃ vs : List Value, qs = (vs.zipIdx k).map (fun x => (x.2, x.1)) ∧ vs.length = l.length ∧ (∀ v ∈ vs, v.cells.size = sz) ∧ (∀ e ∈ l, e.length = sz) ∧ All2 (RelF w (fgn w0 N0 M)) l.flatten (vs.flatMap fun v => v.cells.toList)
 | [], [], k, l, h, _ => by
  simp only [qb2, Option.some.injEq] at h; subst h
  exact ⟨[], rfl, rfl, by simp, by simp, trivial⟩
 | (i, c) :: ps, (i', v) :: qs, k, l, h, hq => by
  obtain ⟨⟨e1, e2⟩, hq⟩ := hq
  simp only at e1 e2
  subst e1
  simp only [qb2] at h
  cases hb : (Nat.beq i k && Nat.beq c.length sz && allF c) with
  | false => rw [hb] at h; cases h
  | true =>
   rw [hb] at h
   simp only [cond_true, Option.map_eq_some_iff] at h
   obtain ⟨l', h1, rfl⟩ := h
   simp only [Bool.and_eq_true] at hb
   obtain rfl := Nat.eq_of_beq_eq_true hb.1.1
   have b2 := Nat.eq_of_beq_eq_true hb.1.2
   obtain ⟨vs, g1, g2, g3, g4, g5⟩ := qeG h1 hq
   have hlen := e2.length
   simp only [Array.length_toList] at hlen
   refine ⟨v :: vs, by rw [g1]; simp [List.zipIdx_cons], by simp [g2], ?_, ?_, ?_⟩
   ·intro u hu
    rcases List.mem_cons.1 hu with rfl | hu
    ·omega
    ·exact g3 u hu
   ·intro u hu
    rcases List.mem_cons.1 hu with rfl | hu
    ·exact b2
    ·exact g4 u hu
   ·rw [List.flatten_cons, List.flatMap_cons]
    exact (qcH hb.2 e2).append g5
 | [], _ :: _, _, _, _, h => h.elim
 | _ :: _, [], _, _, _, h => h.elim
theorem qi0 {w : World} {R : CV → Value → Prop} : ∀ {ps : List (Nat × List CV)} {qs : List (Nat × Value)} {k : Nat} {l : List CV}, inPtr k ps = some l → All2 (fun p q => p.1 = q.1 ∧ All2 R p.2 q.2.cells.toList) ps qs →
  ∃ vs : List Value, qs = (vs.zipIdx k).map (fun x => (x.2, x.1)) ∧ vs.length = l.length ∧ (∀ v ∈ vs, v.cells.size = 1) ∧ All2 R l (vs.flatMap fun v => v.cells.toList)
 | [], [], k, l, h, _ => by
  simp only [inPtr, Option.some.injEq] at h; subst h
  exact ⟨[], rfl, rfl, by simp, trivial⟩
 | (i, c) :: ps, (i', v) :: qs, k, l, h, hq => by
  obtain ⟨⟨e1, e2⟩, hq⟩ := hq
  simp only at e1 e2
  subst e1
  simp only [inPtr] at h
  split at h
  ·rename_i a off
   cases hb : Nat.beq i k with
   | false => rw [hb] at h; cases h
   | true =>
    rw [hb] at h
    simp only [cond_true, Option.map_eq_some_iff] at h
    obtain ⟨l', h1, rfl⟩ := h
    obtain rfl := Nat.eq_of_beq_eq_true hb
    obtain ⟨vs, g1, g2, g3, g4⟩ := qi0 (w := w) h1 hq
    have hlen := e2.length
    simp only [Array.length_toList, List.length_singleton] at hlen
    refine ⟨v :: vs, by rw [g1]; simp [List.zipIdx_cons], by simp [g2], ?_, ?_⟩
    ·intro u hu
     rcases List.mem_cons.1 hu with rfl | hu
     ·omega
     ·exact g3 u hu
    ·rw [List.flatMap_cons]
     exact All2.append e2 g4
  ·cases h
 | [], _ :: _, _, _, _, h => h.elim
 | _ :: _, [], _, _, _, h => h.elim
theorem qfS (hT : TabOK P T) (ha : Abs w0 N0 Z M st a w) {t : TypeId} {n : Nat} {parts : Array (Nat × Operand)} (ho : o.op = .buildSlice t n parts) {e : Eff} (he : q7f T st o.dst t n parts.toList = some e) : Well P w0 N0 Z o a w (st.app o.dst e) := by
 unfold q7f at he
 cases hd : o.dst with
 | none => rw [hd] at he; cases he
 | some d =>
 rw [hd] at he
 simp only at he
 split at he
 ·rename_i el s1 s2 z q ps ht hps
  split at he
  ·rename_i ei hei hat
   have hu := (hT t _ ht).sl rfl
   obtain ⟨ie, hie, hies, _, zv, hiz, hzc⟩ := (hT el ei hei).inf
   have key : ∀ (m : Nat) (vs : List Value), parts.toList.map (fun x => (x.1, a.eval x.2)) = vs.zipIdx.map (fun x => (x.2, x.1)) → vs.length = m → (∀ v ∈ vs, v.cells.size = ei.size) → 0 < ei.size → ei.zero.length = ei.size → m * ei.size ≤ 1000 →
     (vs.flatMap fun v => v.cells.toList).length = m * ei.size ∧ (Instr.buildSlice t m (parts.map fun x => (x.1, a.eval x.2))).run P w = .ok (.slice (some ⟨w.heap.size, 0, none⟩) m m) (w.alloc (.cells (vs.flatMap fun v => v.cells.toList).toArray el)) := by
    intro m vs g1 g2 g3 q3 q4 q2
    subst g2
    have hzl : zv.cells.size = ei.size := by rw [← Array.length_toList, hzc, q4]
    have hpm : (parts.map fun x => (x.1, a.eval x.2)).toList = parts.toList.map fun x => (x.1, a.eval x.2) := by simp
    have hcl : (vs.flatMap fun v => v.cells.toList).length = vs.length * ei.size := by
     clear g1 q2
     induction vs with
     | nil => simp
     | cons v vs ih =>
      rw [List.flatMap_cons, List.length_append, ih (fun u hu => g3 u (by simp [hu])), Array.length_toList, g3 v (by simp), List.length_cons, Nat.succ_mul]; omega
    refine ⟨hcl, ?_⟩
    by_cases h0 : vs.length * ei.size = 0
    ·have hl0 : vs.length = 0 := by
      rcases Nat.mul_eq_zero.1 h0 with h | h
      ·exact h
      ·omega
     have hvs : vs = [] := List.eq_nil_of_length_eq_zero (by omega)
     rw [hvs] at g1
     simp only [List.zipIdx_nil, List.map_nil] at g1
     have hpl : (parts.map fun x => (x.1, a.eval x.2)).toList = [] := by rw [hpm, g1]
     have hpa : (parts.map fun x => (x.1, a.eval x.2)) = #[] := by
      apply Array.toList_inj.1; rw [hpl]
     rw [hpa, hvs]
     simp [Instr.buildSlice, run_underlying hu, Go.sizeOf, qcE hie, Instr.fill, newRow]
     rw [Array.range_zero', Array.map_empty]
    ·refine run_buildSlice w t el vs.length _ _ ie zv hu hie hiz (by rw [hies]; omega) (by rw [hies]; exact h0) ?_
     rw [hpm, g1, hies]
     exact Great.fill_whole q3 vs _ g3 (by simp)
   split at he
   ·rename_i l hl
    cases hq : (Nat.beq l.length n && Nat.ble (n * ei.size) 1000 && Nat.blt 0 ei.size && Nat.beq ei.zero.length ei.size && Nat.blt d st.h.length) with
    | false => rw [hq] at he; cases he
    | true =>
     rw [hq] at he
     cases he
     simp only [Bool.and_eq_true] at hq
     obtain ⟨⟨⟨⟨q1, q2⟩, q3⟩, q4⟩, q5⟩ := hq
     obtain rfl := Nat.eq_of_beq_eq_true q1
     have q2 := Nat.le_of_ble_eq_true q2
     have q3 : 0 < ei.size := Nat.le_of_ble_eq_true q3
     have q4 := Nat.eq_of_beq_eq_true q4
     have q5 : d < st.h.length := Nat.le_of_ble_eq_true q5
     obtain ⟨vs, g1, g2, g3, g4, g5⟩ := qeG hl (q7d ha hps)
     obtain ⟨hcl, hrun⟩ := key l.length vs g1 g2 g3 q3 q4 q2
     obtain ⟨M', h⟩ := ha.newRow d (r := .gen el ei.size l) (l := .row (.slice (some ⟨w.heap.size, 0, none⟩) l.length l.length)) (cs := (vs.flatMap fun v => v.cells.toList).toArray) (ty := el) (x := .t (.c (.os d))) (v := .slice (some ⟨w.heap.size, 0, none⟩) l.length l.length) hat q5 rfl rfl
      (fun M' h1 h2 => ⟨_, _, h1, ⟨hcl, Or.inr ⟨w.heap.size, l.length, _, rfl, ha.below.size, heap_alloc_new w _, Nat.le_refl _, by unfold maxLen; have : l.length * 1 ≤ l.length * ei.size := Nat.mul_le_mul_left _ q3; omega, by simpa using hcl, by rw [List.take_of_length_le (by simp [hcl])]⟩⟩, g4, g5.mono fun _ _ g => h2.relF g⟩)
      (fun M' h1 => ⟨h1, Or.inr ⟨_, _, _, rfl⟩⟩)
     refine .value _ M' _ ?_ (by rw [hd]; exact h)
     unfold execOp
     simp only [ho, Sem.run_bind, hrun, Result.andThen_ok, Sem.run_pure]
   ·split at he
    ·rename_i c hc
     split at he
     ·cases hq : (Nat.beq c.length n && Nat.ble n 1000 && Nat.blt 0 n && Nat.beq ei.size 1 && Nat.beq ei.zero.length ei.size && Nat.blt d st.h.length) with
      | false => rw [hq] at he; cases he
      | true =>
       rw [hq] at he
       cases he
       simp only [Bool.and_eq_true] at hq
       obtain ⟨⟨⟨⟨⟨q1, q2⟩, q3⟩, q6⟩, q4⟩, q5⟩ := hq
       obtain rfl := Nat.eq_of_beq_eq_true q1
       have q2 := Nat.le_of_ble_eq_true q2
       have q6 := Nat.eq_of_beq_eq_true q6
       have q4 := Nat.eq_of_beq_eq_true q4
       have q5 : d < st.h.length := Nat.le_of_ble_eq_true q5
       obtain ⟨vs, g1, g2, g3, g5⟩ := qi0 (w := w) hc (q7d ha hps)
       obtain ⟨_, hrun⟩ := key c.length vs g1 g2 (by rw [q6]; exact g3) (by omega) q4 (by rw [q6]; omega)
       obtain ⟨M', h⟩ := ha.newRow d (r := .box el c) (l := .box w.heap.size) (cs := (vs.flatMap fun v => v.cells.toList).toArray) (ty := el) (x := .t (.c (.ob d 0 1 c.length))) (v := .slice (some ⟨w.heap.size, 0, none⟩) c.length c.length) hat q5 rfl rfl
        (fun M' h1 h2 => ⟨_, _, h1, heap_alloc_new w _, g5.mono fun _ _ g => h2.relC g⟩)
        (fun M' h1 => Or.inl ⟨_, _, h1, rfl, Nat.le_refl _, by unfold maxLen; omega⟩)
       refine .value _ M' _ ?_ (by rw [hd]; exact h)
       unfold execOp
       simp only [ho, Sem.run_bind, hrun, Result.andThen_ok, Sem.run_pure]
     ·cases he
    ·cases he
  ·cases he
 ·cases he
theorem made_flat {z : Array Value} {zl : List Value} (hz : z.toList = zl) (hpos : 0 < zl.length) (n : Nat) : (madeCells z (n * zl.length)).toList = (List.replicate n zl).flatten := by
 have hsz : z.size = zl.length := by rw [← hz]; simp
 apply List.ext_getElem?
 intro q
 by_cases hq : q < n * zl.length
 ·have e1 : (madeCells z (n * zl.length)).toList[q]? = some (z[q % z.size]!) := by
   rw [Array.getElem?_toList]; simp [madeCells, hq]
  have hlt : q % zl.length < zl.length := Nat.mod_lt _ hpos
  have hd : q / zl.length < n := Nat.div_lt_of_lt_mul (by rwa [Nat.mul_comm])
  have e2 : (List.replicate n zl)[q / zl.length]? = some zl := by simp [List.getElem?_replicate, hd]
  have e3 := q7c (l := List.replicate n zl) (sz := zl.length) (fun e he => by rw [List.eq_of_mem_replicate he]) e2 hlt
  rw [Nat.div_add_mod' q zl.length] at e3
  rw [e1, e3, hsz]
  have h5 : q % zl.length < z.size := by omega
  rw [getElem!_pos z _ h5]
  subst hz
  rw [Array.getElem?_toList, Array.getElem?_eq_getElem h5]
 ·rw [List.getElem?_eq_none (by simp [madeCells]; omega), List.getElem?_eq_none]
  simp; omega
theorem qm8 {z : List Value} {k : IntKind} (h : zeros z = some (some k)) : z = [.int k 0] := by
 unfold zeros at h
 split at h
 ·rename_i k' n
  cases e : (n == 0) with
  | false => rw [e] at h; cases h
  | true => rw [e] at h; cases h; rw [eq_of_beq e]
 ·cases e : q1P z with
  | false => rw [e] at h; cases h
  | true => rw [e] at h; cases h
theorem qm9 {z : List Value} (h : zeros z = some none) : q1P z = true := by
 unfold zeros at h
 split at h
 ·rename_i k' n
  cases e : (n == 0) with
  | false => rw [e] at h; cases h
  | true => rw [e] at h; cases h
 ·cases e : q1P z with
  | false => rw [e] at h; cases h
  | true => rfl
theorem flat_v {N : Nat → Prop} {z : List Value} (h : q1P z = true) : ∀ n, All2 (RelF w N) (List.replicate n (z.map CV.v)).flatten (List.replicate n z).flatten
 | 0 => trivial
 | n + 1 => by
  rw [List.replicate_succ, List.replicate_succ, List.flatten_cons, List.flatten_cons]
  exact (qcF (fun y hy => ⟨rfl, hy⟩) h).append (flat_v h n)
theorem well_make (hT : TabOK P T) (ha : Abs w0 N0 Z M st a w) {t : TypeId} {x y : Operand} (ho : o.op = .makeSlice t x y) {dx dy : DV} (h1 : opv st x = some dx) (h2 : opv st y = some dy) {e : Eff} (he : makeE T st o.dst t dx dy = some e) (hp : e.pre) : Well P w0 N0 Z o a w (st.app o.dst e) := by
 have hx := qw ha h1
 have hy := qw ha h2
 unfold makeE at he
 cases hd : o.dst with
 | none => rw [hd] at he; cases he
 | some d =>
 rw [hd] at he
 simp only at he
 split at he
 ·rename_i el s1 s2 z q n m ht
  have ex : a.eval x = .int .i64 n := hx.1
  have ey : a.eval y = .int .i64 m := hy.1
  split at he
  ·rename_i ei hei hat
   cases hq : (Nat.blt d st.h.length && Nat.blt 0 ei.size && Nat.beq ei.zero.length ei.size) with
   | false => rw [hq] at he; cases he
   | true =>
    rw [hq] at he
    simp only [Bool.and_eq_true] at hq
    obtain ⟨⟨q1, q2⟩, q3⟩ := hq
    have q1 : d < st.h.length := Nat.le_of_ble_eq_true q1
    have q2 : 0 < ei.size := Nat.le_of_ble_eq_true q2
    have q3 := Nat.eq_of_beq_eq_true q3
    simp only [cond_true] at he
    have hu := (hT t _ ht).sl rfl
    obtain ⟨i, hi, his, hib, zv, hiz, hzc⟩ := (hT el ei hei).inf
    have run : m = n ∧ 0 ≤ n ∧ q0k ei.bytes n.toNat → (execOp a.eval o).run P w = .ok (.value (.slice (some ⟨w.heap.size, 0, none⟩) n.toNat n.toNat)) (w.alloc (.cells (madeCells zv.cells (n.toNat * ei.size)) el)) ∧ n.toNat ≤ maxLen := by
     rintro ⟨rfl, h0, hr1, hr2⟩
     have hb : (i.bytes : Int) * m ≤ 281474976710656 := by
      have h5 : ((i.bytes * m.toNat : Nat) : Int) ≤ 281474976710656 := by
       have : m.toNat * ei.bytes = i.bytes * m.toNat := by rw [hib, Nat.mul_comm]
       omega
      rw [Int.natCast_mul, Int.toNat_of_nonneg h0] at h5
      exact h5
     have h6 : m ≤ 9223372036854775807 := by unfold maxLen at hr2; omega
     have hr := run_make (P := P) w t el i zv hu hi hiz .i64 .i64 m m h0 (Int.le_refl _) hb h6
     rw [his] at hr
     refine ⟨?_, hr2⟩
     unfold execOp
     simp only [ho, ex, ey, Sem.run_bind, hr, Result.andThen_ok, Sem.run_pure]
    have hfl : (madeCells zv.cells (n.toNat * ei.size)).toList = (List.replicate n.toNat ei.zero).flatten := by
     rw [← q3]; exact made_flat hzc (by omega) _
    have hsz : (madeCells zv.cells (n.toNat * ei.size)).size = n.toNat * ei.size := size_madeCells _ _
    split at he
    ·rename_i k hz
     cases he
     obtain ⟨r1, r2⟩ := run hp
     have hz1 := qm8 hz
     have hes : ei.size = 1 := by rw [← q3, hz1]; rfl
     obtain ⟨M', h⟩ := ha.newRow d (r := .num el k (List.replicate n.toNat 0)) (l := .row (.slice (some ⟨w.heap.size, 0, none⟩) n.toNat n.toNat)) (cs := madeCells zv.cells (n.toNat * ei.size)) (ty := el) (x := .t (.c (.os d))) (v := .slice (some ⟨w.heap.size, 0, none⟩) n.toNat n.toNat) hat q1 rfl rfl
      (fun M' h1 h2 => ⟨_, h1, ⟨by simp, Or.inr ⟨w.heap.size, n.toNat, _, by simp, ha.below.size, heap_alloc_new w _, by simp, r2, by rw [hsz, hes], by
       rw [List.length_replicate, Nat.mul_one, hfl, hz1, List.take_of_length_le (by simp)]
       clear run r1 hfl hsz h2 hp
       induction n.toNat with
       | zero => rfl
       | succ q ih => rw [List.replicate_succ, List.flatten_cons, ih, List.replicate_succ]; rfl⟩⟩⟩)
      (fun M' h1 => ⟨h1, Or.inr ⟨_, _, _, rfl⟩⟩)
     exact .value _ M' _ r1 (by rw [hd]; exact h)
    ·rename_i hz
     cases he
     obtain ⟨r1, r2⟩ := run hp
     have hz1 := qm9 hz
     obtain ⟨M', h⟩ := ha.newRow d (r := .gen el ei.size (List.replicate n.toNat (ei.zero.map CV.v))) (l := .row (.slice (some ⟨w.heap.size, 0, none⟩) n.toNat n.toNat)) (cs := madeCells zv.cells (n.toNat * ei.size)) (ty := el) (x := .t (.c (.os d))) (v := .slice (some ⟨w.heap.size, 0, none⟩) n.toNat n.toNat) hat q1 rfl rfl
      (fun M' h1 h2 => ⟨_, (List.replicate n.toNat ei.zero).flatten, h1, ⟨by simp [q3], Or.inr ⟨w.heap.size, n.toNat, _, by simp, ha.below.size, heap_alloc_new w _, by simp, r2, hsz, by
       rw [List.length_replicate, hfl, List.take_of_length_le (by simp [q3])]⟩⟩, (fun e he => by rw [List.eq_of_mem_replicate he]; simpa using q3), flat_v hz1 _⟩)
      (fun M' h1 => ⟨h1, Or.inr ⟨_, _, _, rfl⟩⟩)
     exact .value _ M' _ r1 (by rw [hd]; exact h)
    ·cases he
  ·cases he
 ·cases he
end Go.Proofs.YtfadkjcfjkmalaaGreatDoor.Ev
namespace Go.Proofs.YtfadkjcfjkmalaaGreatDoor.Ev
open Go.RowKit
variable {w0 : World} {N0 : Nat → Prop} {Z : Pins} {P : Program} {T : Tab} {S : Sum} {forb : Nat → Bool} {M : Map} {st : DS} {a : Act} {w : World} {o : Oper}
structure Src (w : World) (N : Nat → Prop) (v : Value) (sz : Nat) (l : List (List CV)) : Prop where
 len : ∀ e ∈ l, e.length = sz
 news : ∃ ao c news, v = .slice ao l.length c ∧ news.length = l.length * sz ∧ All2 (RelF w N) l.flatten news ∧ ((ao = none ∧ l.length = 0 ∧ c = 0) ∨ ∃ ad, ao = some ad ∧ ∀ j u, news[j]? = some u → w.cell? (ad.add j) = some u)
theorem src_own {base : Nat} {e : TypeId} {sz : Nat} {v : Value} {N : Nat → Prop} {l : List (List CV)} {xs : List Value} (h : w.ownsRow base e sz v l.length xs) (hl : ∀ e ∈ l, e.length = sz) (hr : All2 (RelF w N) l.flatten xs) : Src w N v sz l := by
 refine ⟨hl, ?_⟩
 obtain ⟨h1, h2⟩ := h
 rcases h2 with ⟨rfl, h3⟩ | ⟨g, cap, cur, rfl, hb, hg, hn, hm, hs, ht⟩
 ·exact ⟨none, 0, xs, by rw [h3], h1, hr, Or.inl ⟨rfl, h3, rfl⟩⟩
 ·refine ⟨_, cap, xs, rfl, h1, hr, Or.inr ⟨_, rfl, fun j u hj => ?_⟩⟩
  rw [q3O, Nat.zero_add, cell_of_row w g j cur e (0, 0) hg]
  rw [← ht, List.getElem?_take] at hj
  split at hj
  ·simpa using hj
  ·cases hj
theorem qi1 (kd : IntKind) {N : Nat → Prop} : ∀ (l : List Int), All2 (RelF w N) (l.map fun n => [CV.v (.int kd n)]).flatten (l.map (Value.int kd))
 | [] => trivial
 | n :: l => ⟨⟨rfl, rfl⟩, qi1 kd l⟩
theorem qjs {N : Nat → Prop} {c : Nat → Nat → CV} {sz : Nat} {f : Nat → Value} : ∀ (n k : Nat), (∀ i j, k ≤ i → i < k + n → j < sz → RelF w N (c i j) (f (i * sz + j))) → All2 (RelF w N) ((List.range' k n).map fun i => fwd (c i) 0 sz).flatten ((List.range' (k * sz) (n * sz)).map f)
 | 0, k, _ => by simp; trivial
 | n + 1, k, h => by
  rw [List.range'_succ, List.map_cons, List.flatten_cons, Nat.succ_mul, Nat.add_comm (n * sz) sz, ← List.range'_append_1, List.map_append]
  refine All2.append ?_ ?_
  ·have := qeW (R := RelF w N) (c := c k) (f := fun j => f (k * sz + j)) sz 0 (fun j hj => by simpa using h k j (Nat.le_refl _) (by omega) hj)
   have e : (List.range' (k * sz) sz).map f = (List.range' 0 sz).map fun j => f (k * sz + j) := by
    apply List.ext_getElem?
    intro i
    by_cases hi : i < sz
    ·simp [hi]
    ·rw [List.getElem?_eq_none (by simpa using hi), List.getElem?_eq_none (by simpa using hi)]
   rw [e]; exact this
  ·have := qjs n (k + 1) (fun i j h1 h2 h3 => h i j (by omega) (by omega) h3)
   rwa [Nat.succ_mul] at this
theorem q4n (ha : Abs w0 N0 Z M st a w) {sz : Nat} {x : DV} {v : Value} {l : List (List CV)} (h : q2N forb st sz x = some l) (hr : RelD (RelC w (fgn w0 N0 M) M) x v) : Src w (fgn w0 N0 M) v sz l := by
 unfold q2N at h
 split at h
 ·rename_i k
  obtain ⟨hM, _⟩ := hr
  split at h
  ·rename_i ty sz' l' hrow
   cases hq : Nat.beq sz sz' with
   | false => rw [hq] at h; cases h
   | true =>
    rw [hq] at h
    cases h
    obtain rfl := Nat.eq_of_beq_eq_true hq
    obtain ⟨v', xs, g1, g2, g3, g4⟩ := ha.row k _ (rd_at hrow)
    rw [hM] at g1; cases g1
    exact src_own g2 g3 g4
  ·rename_i ty kd l' hrow
   cases hq : Nat.beq sz 1 with
   | false => rw [hq] at h; cases h
   | true =>
    rw [hq] at h
    cases h
    obtain rfl := Nat.eq_of_beq_eq_true hq
    obtain ⟨v', g1, g2⟩ := ha.row k _ (rd_at hrow)
    rw [hM] at g1; cases g1
    refine src_own (l := l'.map fun n => [.v (.int kd n)]) (by simpa using g2) ?_ (qi1 kd l')
    intro e he
    simp only [List.mem_map] at he
    obtain ⟨n, _, rfl⟩ := he; rfl
  ·cases h
 ·rename_i sz' n c
  cases hq : Nat.beq sz sz' with
  | false => rw [hq] at h; cases h
  | true =>
   rw [hq] at h
   cases h
   obtain rfl := Nat.eq_of_beq_eq_true hq
   obtain ⟨ao, cap, rfl, h1, h2, h3, h4⟩ := hr
   refine ⟨fun e he => ?_, ?_⟩
   ·simp only [List.mem_map] at he
    obtain ⟨i, _, rfl⟩ := he
    exact fwd_len _ _ _
   ·by_cases h0 : 0 < n
    ·obtain ⟨b, off, rfl, g2, g3, g4⟩ := h4 h0
     let f : Nat → Value := fun q => (w.cell? ⟨b, off + q, none⟩).getD undef
     refine ⟨_, cap, (List.range' (0 * sz) (n * sz)).map f, by simp, by simp, ?_, Or.inr ⟨⟨b, off, none⟩, rfl, fun j u hj => ?_⟩⟩
     ·rw [List.range_eq_range']
      refine qjs n 0 fun i j _ hi hj => ?_
      obtain ⟨u, q1, q2⟩ := g4 i j (by omega) hj
      have : f (i * sz + j) = u := by simp only [f, ← Nat.add_assoc, q1]; rfl
      rw [this]; exact q2
     ·by_cases hlt : j < n * sz
      ·rw [List.getElem?_map, List.getElem?_eq_getElem (by simpa using hlt), List.getElem_range'] at hj
       have hsz : 0 < sz := by
        rcases Nat.eq_zero_or_pos sz with e | e
        ·rw [e, Nat.mul_zero] at hlt; omega
        ·exact e
       obtain ⟨u', q1, q2⟩ := g4 (j / sz) (j % sz) (Nat.div_lt_of_lt_mul (by rwa [Nat.mul_comm])) (Nat.mod_lt _ hsz)
       have hjd : j / sz * sz + j % sz = j := Nat.div_add_mod' j sz
       rw [Nat.add_assoc, hjd] at q1
       simp only [Option.map_some, Option.some.injEq, Nat.zero_mul, Nat.zero_add, Nat.one_mul] at hj
       rw [q3O, q1, ← hj]
       simp only [f, q1]; rfl
      ·rw [List.getElem?_eq_none (by simpa using hlt)] at hj; cases hj
    ·obtain rfl : n = 0 := by omega
     cases ao with
     | none => exact ⟨none, cap, [], rfl, by simp, trivial, Or.inl ⟨rfl, rfl, h3 rfl⟩⟩
     | some ad => exact ⟨some ad, cap, [], rfl, by simp, trivial, Or.inr ⟨ad, rfl, fun j u hj => by simp at hj⟩⟩
 ·cases h
  rw [show v = .slice none 0 0 from hr.1]
  exact ⟨by simp, none, 0, [], rfl, by simp, trivial, Or.inl ⟨rfl, rfl, rfl⟩⟩
 ·cases h
theorem qi2 {kd : IntKind} : ∀ {l : List (List CV)} {xs : List Int} {p : Prop}, qdA kd l = some (xs, p) → p → l = xs.map fun n => [.v (.int kd n)]
 | [], xs, p, h, _ => by simp only [qdA, Option.some.injEq, Prod.mk.injEq] at h; rw [← h.1]; rfl
 | e :: l, xs, p, h, hp => by
  unfold qdA at h
  split at h
  ·rename_i e; cases e
  ·rename_i k n l' e
   cases e
   simp only [Option.map_eq_some_iff] at h
   obtain ⟨⟨ys, q⟩, h1, h2⟩ := h
   simp only [Prod.mk.injEq] at h2
   obtain ⟨rfl, rfl⟩ := h2
   rw [qi2 h1 hp.2, hp.1]; rfl
  ·cases h
theorem qma (ha : Abs w0 N0 Z M st a w) {kd : IntKind} {x : DV} {v : Value} {l : List Int} {p : Prop} (h : qb3 forb st kd x = some (l, p)) (hp : p) (hr : RelD (RelC w (fgn w0 N0 M) M) x v) : Src w (fgn w0 N0 M) v 1 (l.map fun n => [.v (.int kd n)]) := by
 unfold qb3 at h
 split at h
 ·rename_i k
  split at h
  ·rename_i ty sz' l' hrow
   cases hq : Nat.beq 1 sz' with
   | false => rw [hq] at h; cases h
   | true =>
    rw [hq] at h
    simp only [cond_true] at h
    have h1 : q2N forb st 1 (.t (.c (.os k))) = some l' := by
     simp only [q2N, hrow, hq]; rfl
    rw [← qi2 h hp]
    exact q4n ha h1 hr
  ·rename_i ty kd' l' hrow
   simp only [Option.some.injEq, Prod.mk.injEq] at h
   obtain ⟨rfl, rfl⟩ := h
   obtain rfl : kd' = kd := hp
   have h1 : q2N forb st 1 (.t (.c (.os k))) = some (l'.map fun n => [.v (.int kd' n)]) := by
    simp only [q2N, hrow]; rfl
   exact q4n ha h1 hr
  ·cases h
 ·rename_i sz' n c
  cases hq : Nat.beq 1 sz' with
  | false => rw [hq] at h; cases h
  | true =>
   rw [hq] at h
   simp only [cond_true, Option.some.injEq, Prod.mk.injEq] at h
   obtain ⟨rfl, rfl⟩ := h
   have h1 : q2N forb st 1 (.t (.c (.sl sz' n c))) = some ((List.range n).map fun i => fwd (c i) 0 1) := by
    simp only [q2N, hq]; rfl
   have h2 := q4n ha h1 hr
   have e : ((List.range n).map fun i => fwd (c i) 0 1) = ((List.range n).map fun i => qb (c i 0)).map fun n => [.v (.int kd n)] := by
    rw [List.map_map]
    apply List.map_congr_left
    intro i hi
    simp only [fwd, Function.comp]
    rw [hp i (by simpa using hi)]
    rfl
   rw [← e]; exact h2
 ·simp only [Option.some.injEq, Prod.mk.injEq] at h
  obtain ⟨rfl, rfl⟩ := h
  exact q4n (forb := forb) ha (x := .t (.c (.v (.slice none 0 0)))) rfl hr
 ·cases h
theorem Abs.grown (ha : Abs w0 N0 Z M st a w) (d : Nat) (ks : List Nat) {r : Row} {v v' : Value} {w' : World} (hd : st.at d = none) (hlt : d < st.h.length) (hal : r.alive = true)
  (hks : ks = [] ∧ v.ownBlock = none ∨ ∃ k r0, ks = [k] ∧ st.at k = some r0 ∧ r0.alive = true ∧ M k = some (.row v))
  (hbe : Below w0.heap.size w w') (hoth : ∀ k, k < w.heap.size → some k ≠ v.ownBlock → w'.heap[k]? = w.heap[k]?) (hlies : v'.ownBlock = v.ownBlock ∨ v'.ownBlock = some w.heap.size) (hlt' : ∀ b, v'.ownBlock = some b → b < w'.heap.size)
  (hrow : ∀ M' : Map, M' d = some (.row v') → Stp w0 N0 M M' w w' → RelR w' w0.heap.size (fgn w0 N0 M') M' d r) (hsh : v' = .slice none 0 0 ∨ ∃ b n cap, v' = .slice (some ⟨b, 0, none⟩) n cap) :
  ∃ M', Abs w0 N0 Z M' (({ st with h := upd (ks.map (fun k => (k, Row.dead)) ++ [(d, r)]) st.h } : DS).putO (some d) (some (.t (.c (.os d))))) (a.put (some d) v') w' := by
 let M' : Map := fun k => if k = d then some (.row v') else M k
 have hMd : M d = none := ha.dom d hd
 have hM'd : M' d = some (.row v') := by simp [M']
 have hM' : ∀ k, k ≠ d → M' k = M k := fun k h => by simp [M', h]
 have hvb : ∀ b, v.ownBlock = some b → ∃ k r0, st.at k = some r0 ∧ r0.alive = true ∧ M k = some (.row v) ∧ ks = [k] := by
  intro b hb
  rcases hks with ⟨_, h⟩ | ⟨k, r0, h1, h2, h3, h4⟩
  ·rw [h] at hb; cases hb
  ·exact ⟨k, r0, h2, h3, h4, h1⟩
 have hcell : ∀ b, nown M b → b < w.heap.size → w'.heap[b]? = w.heap[b]? := by
  intro b hf hb
  refine hoth b hb fun e => ?_
  obtain ⟨k, r0, _, _, h4, _⟩ := hvb b e.symm
  exact hf k _ h4 e.symm
 have stp : Stp w0 N0 M M' w w' := by
  refine ⟨hbe.size, hcell, fun k l' h => ?_, fun k l' b h1 h2 => ?_⟩
  ·rw [hM' k (fun e => by rw [e, hMd] at h; cases h)]; exact h
  ·by_cases e : k = d
   ·subst e
    rw [hM'd] at h1; cases h1
    have h2' : v'.ownBlock = some b := h2
    rcases hlies with h | h
    ·rw [h] at h2'
     obtain ⟨k', r0, _, _, h4, _⟩ := hvb b h2'
     exact Or.inl ⟨k', _, h4, h2'⟩
    ·rw [h] at h2'; cases h2'; exact Or.inr (Nat.le_refl _)
   ·rw [hM' k e] at h1; exact Or.inl ⟨k, l', h1, h2⟩
 have hat : ∀ k, (({ st with h := upd (ks.map (fun k => (k, Row.dead)) ++ [(d, r)]) st.h } : DS).putO (some d) (some (.t (.c (.os d))))).at k = if d = k then some r else if k ∈ ks then some .dead else st.at k := by
  intro k
  rw [q5q]
  rcases hks with ⟨rfl, _⟩ | ⟨k0, r0, rfl, h2, h3, h4⟩
  ·simp only [List.map_nil, List.nil_append, upd, DS.at, getset]
   by_cases e : d = k
   ·rw [if_pos ⟨e, hlt⟩, if_pos e]
   ·rw [if_neg (fun h => e h.1), if_neg e]; simp
  ·have hk0 : k0 < st.h.length := by
    unfold DS.at at h2
    cases e : st.h[k0]? with
    | none => rw [e] at h2; cases h2
    | some x => exact (List.getElem?_eq_some_iff.1 e).1
   simp only [List.map_cons, List.map_nil, List.cons_append, List.nil_append, upd, DS.at, getset, List.length_set]
   by_cases e : d = k
   ·rw [if_pos ⟨e, hlt⟩, if_pos e]
   ·rw [if_neg (fun h => e h.1), if_neg e]
    by_cases e2 : k0 = k
    ·rw [if_pos ⟨e2, hk0⟩, if_pos (by simp [e2])]
    ·rw [if_neg (fun h => e2 h.1), if_neg (by simp; exact fun h => e2 h.symm)]
 refine ⟨M', ha.step stp hbe (by rw [qb7, q4W]; exact ha.fits) (q4X _ _ _) (fun i dv h => ?_) (fun k r' h => ?_) (fun k h => ?_) (fun k l' b h1 h2 => ?_) (fun k k' r1 r2 l1 l2 b h1 h2 h3 h4 h5 h6 h7 h8 => ?_)⟩
 ·exact qb8 (st := { st with h := upd (ks.map (fun k => (k, Row.dead)) ++ [(d, r)]) st.h }) ha.fits (fun dv e => by cases e; exact ⟨hM'd, hsh⟩) i dv h
 ·rw [hat] at h
  by_cases e : d = k
  ·rw [if_pos e] at h; cases h; subst e; exact Or.inr (hrow M' hM'd stp)
  ·rw [if_neg e] at h
   by_cases e2 : k ∈ ks
   ·rw [if_pos e2] at h; cases h; exact Or.inr trivial
   ·rw [if_neg e2] at h
    refine Or.inl ⟨h, fun hal' l' b h1 h2 => hoth b (ha.own k l' b h1 h2).2 fun e3 => ?_⟩
    obtain ⟨k0, r0, g1, g2, g3, g4⟩ := hvb b e3.symm
    have := ha.apart k k0 r' r0 l' _ b h hal' g1 g2 h1 g3 h2 e3.symm
    exact e2 (by rw [g4, this]; simp)
 ·rw [hat] at h
  by_cases e : d = k
  ·rw [if_pos e] at h; cases h
  ·rw [if_neg e] at h
   by_cases e2 : k ∈ ks
   ·rw [if_pos e2] at h; cases h
   ·rw [if_neg e2] at h
    rw [hM' k (fun h => e h.symm)]; exact ha.dom k h
 ·by_cases e : k = d
  ·subst e
   rw [hM'd] at h1; cases h1
   have h2' : v'.ownBlock = some b := h2
   refine ⟨?_, hlt' b h2'⟩
   rcases hlies with h | h
   ·rw [h] at h2'
    obtain ⟨k0, r0, _, _, g3, _⟩ := hvb b h2'
    exact (ha.own k0 _ b g3 h2').1
   ·rw [h] at h2'; cases h2'; exact ha.below.size
  ·rw [hM' k e] at h1
   have := ha.own k l' b h1 h2
   exact ⟨this.1, Nat.lt_of_lt_of_le this.2 hbe.size⟩
 ·rw [hat] at h1 h3
  have hne : ∀ k1 r1 l1, k1 ≠ d → (if k1 ∈ ks then some Row.dead else st.at k1) = some r1 → r1.alive = true → M' k1 = some l1 → l1.block = some b → v'.ownBlock = some b → False := by
   intro k1 r1 l1 e g1 g2 g3 g4 g5
   by_cases e2 : k1 ∈ ks
   ·rw [if_pos e2] at g1; cases g1; cases g2
   ·rw [if_neg e2] at g1
    rw [hM' k1 e] at g3
    rcases hlies with h | h
    ·rw [h] at g5
     obtain ⟨k0, r0, q1, q2, q3, q4⟩ := hvb b g5
     have := ha.apart k1 k0 r1 r0 l1 _ b g1 g2 q1 q2 g3 q3 g4 g5
     exact e2 (by rw [q4, this]; simp)
    ·rw [h] at g5; cases g5
     have := ha.own k1 l1 _ g3 g4; omega
  by_cases e : k = d
  ·by_cases e' : k' = d
   ·rw [e, e']
   ·exfalso
    rw [if_neg (fun h => e' h.symm)] at h3
    subst e
    rw [hM'd] at h5; cases h5
    exact hne k' r2 l2 e' h3 h4 h6 h8 h7
  ·rw [if_neg (fun h => e h.symm)] at h1
   by_cases e' : k' = d
   ·exfalso
    subst e'
    rw [hM'd] at h6; cases h6
    exact hne k r1 l1 e h1 h2 h5 h7 h8
   ·rw [if_neg (fun h => e' h.symm)] at h3
    rw [hM' k e] at h5
    rw [hM' k' e'] at h6
    by_cases e2 : k ∈ ks
    ·rw [if_pos e2] at h1; cases h1; cases h2
    ·by_cases e2' : k' ∈ ks
     ·rw [if_pos e2'] at h3; cases h3; cases h4
     ·rw [if_neg e2] at h1
      rw [if_neg e2'] at h3
      exact ha.apart k k' r1 r2 l1 l2 b h1 h2 h3 h4 h5 h6 h7 h8
theorem qhm {c : Call} (ho : o.op = .call c) (hc : c.callee = .builtin .append) {x y : Operand} {t : TypeId} (h1 : c.args.toList = [x, y]) (h2 : c.argTypes.toList = [t, t]) {v : Value} {w' : World} (hr : (Builtin.append_ #[t, t] o.type #[a.eval x, a.eval y]).run P w = .ok v w') :
  (execOp a.eval o).run P w = .ok (.value v) w' := by
 have e1 : c.args = #[x, y] := Array.toList_inj.1 h1
 have e2 : c.argTypes = #[t, t] := Array.toList_inj.1 h2
 unfold execOp
 simp [ho, resolve, hc, e1, e2, invoke, builtin, hr]
theorem qbb (hT : TabOK P T) {t e : TypeId} {s1 s2 : Nat} {z : List Value} {q : Bool} (ht : T t = some ⟨.sl e, s1, s2, z, q⟩) {ei : TyI} (hei : T e = some ei) (hpos : 0 < ei.size) (hz : ei.zero.length = ei.size) {base n : Nat} {v : Value} {xs : List Value} (hown : w.ownsRow base e ei.size v n xs) (hbase : base ≤ w.heap.size) {u : Value} {N : Nat → Prop} {l : List (List CV)} (hsrc : Src w N u ei.size l) (hroom : q0k ei.bytes (n + l.length)) (ty : TypeId) :
  ∃ v' w' news, (Builtin.append_ #[t, t] ty #[v, u]).run P w = .ok v' w' ∧ w'.ownsRow base e ei.size v' (n + l.length) (xs ++ news) ∧ All2 (RelF w N) l.flatten news ∧ Below base w w' ∧ (∀ k, k < w.heap.size → some k ≠ v.ownBlock → w'.heap[k]? = w.heap[k]?) ∧ (v'.ownBlock = v.ownBlock ∨ v'.ownBlock = some w.heap.size) := by
 have hu := (hT t _ ht).sl rfl
 obtain ⟨i, hi, his, hib, zv, hiz, hzc⟩ := (hT e ei hei).inf
 obtain ⟨ao, c, news, rfl, hl, hrel, hcase⟩ := hsrc.news
 rcases hcase with ⟨rfl, h0, rfl⟩ | ⟨ad, rfl, hcells⟩
 ·have hnil : news = [] := List.eq_nil_of_length_eq_zero (by rw [hl, h0, Nat.zero_mul])
  subst hnil
  refine ⟨v, w, [], ?_, by rw [h0]; simpa using hown, hrel, Below.refl _ _, fun _ _ _ => rfl, Or.inl rfl⟩
  rw [h0]
  rcases hown.2 with ⟨rfl, _⟩ | ⟨g, cap, cur, rfl, _, _, hn, _⟩
  ·simp [Builtin.append_, run_underlying hu, Go.sizeOf, qcE hi, Builtin.lenOf, Builtin.firstCells]
  ·simp [Builtin.append_, run_underlying hu, Go.sizeOf, qcE hi, Builtin.lenOf, Builtin.firstCells, hn, storeCells]
 ·obtain ⟨v', w', hr, h2, h3, _, h5⟩ := run_append_own_at (P := P) w base t ty e i zv ei.size ei.bytes hu hi hiz his hib (by rw [← Array.length_toList, hzc, hz]) hpos v n xs hown ad l.length c news hl hcells (hrel.all_right fun _ _ h => RelF.one h) hroom.2 hroom.1 hbase
  exact ⟨v', w', news, hr, h2, hrel, (Below.refl _ _).grown h3 hbase (fun k hk => (hown.lt k hk).1), h3.block, h5⟩
theorem q2w {base : Nat} {e : TypeId} {sz : Nat} {v : Value} {n : Nat} {xs : List Value} (h : w.ownsRow base e sz v n xs) : (∀ b, v.ownBlock = some b → b < w.heap.size) ∧ (v = .slice none 0 0 ∨ ∃ b n cap, v = .slice (some ⟨b, 0, none⟩) n cap) := by
 rcases h.2 with ⟨rfl, _⟩ | ⟨g, cap, cur, rfl, _, hg, _⟩
 ·exact ⟨(fun b h => by cases h), Or.inl rfl⟩
 ·exact ⟨(fun b h => by cases h; exact (Array.getElem?_eq_some_iff.1 hg).1), Or.inr ⟨_, _, _, rfl⟩⟩
theorem qkL (hT : TabOK P T) (ha : Abs w0 N0 Z M st a w) {c : Call} (ho : o.op = .call c) (hc : c.callee = .builtin .append) {x y : Operand} {t : TypeId} (h1 : c.args.toList = [x, y]) (h2 : c.argTypes.toList = [t, t]) {dx dy : DV} (hx : opv st x = some dx) (hy : opv st y = some dy) {e : Eff} (he : q8i T forb st o.dst t dx dy = some e) (hp : e.pre) : Well P w0 N0 Z o a w (st.app o.dst e) := by
 have hrx := qw ha hx
 have hry := qw ha hy
 unfold q8i at he
 cases hd : o.dst with
 | none => rw [hd] at he; cases he
 | some d =>
 rw [hd] at he
 simp only at he
 split at he
 ·rename_i el s1 s2 z q ht
  split at he
  ·rename_i ei hei hat
   cases hq : (Nat.blt d st.h.length && Nat.blt 0 ei.size && Nat.beq ei.zero.length ei.size) with
   | false => rw [hq] at he; cases he
   | true =>
    rw [hq] at he
    simp only [Bool.and_eq_true] at hq
    obtain ⟨⟨q1, q2⟩, q3⟩ := hq
    have q1 : d < st.h.length := Nat.le_of_ble_eq_true q1
    have q2 : 0 < ei.size := Nat.le_of_ble_eq_true q2
    have q3 := Nat.eq_of_beq_eq_true q3
    simp only [cond_true] at he
    split at he
    ·rename_i k
     obtain ⟨hM, _⟩ := hrx
     split at he
     ·rename_i ty kd l hrow
      cases hb : (Nat.beq ty el && Nat.beq ei.size 1) with
      | false => rw [hb] at he; cases he
      | true =>
       rw [hb] at he
       simp only [Bool.and_eq_true] at hb
       obtain rfl := Nat.eq_of_beq_eq_true hb.1
       have b2 := Nat.eq_of_beq_eq_true hb.2
       simp only [cond_true, Option.map_eq_some_iff] at he
       obtain ⟨⟨xs, p⟩, g1, rfl⟩ := he
       obtain ⟨hp1, hp2⟩ := hp
       have hrk := rd_at hrow
       obtain ⟨v', e1, e2⟩ := ha.row k _ hrk
       rw [hM] at e1; cases e1
       have hs := qma ha g1 hp1 hry
       rw [← b2] at e2 hs
       obtain ⟨v2, w2, news, r1, r2, r3, r4, r5, r6⟩ := qbb hT ht hei q2 q3 e2 ha.below.size hs (by simpa using hp2) o.type
       have hnews : news = xs.map (Value.int kd) := by
        have : ∀ (l : List Int) (ns : List Value), All2 (RelF w (fgn w0 N0 M)) (l.map fun n => [CV.v (.int kd n)]).flatten ns → ns = l.map (Value.int kd) := by
         intro l
         induction l with
         | nil => intro ns h; cases ns <;> first | rfl | exact h.elim
         | cons n l ih => intro ns h; match ns, h with
          | u :: ns, h => rw [show u = .int kd n from h.1.1, ih ns h.2]; rfl
          | [], h => exact h.elim
        exact this xs news r3
       obtain ⟨M', hA⟩ := ha.grown d [k] (r := .num ty kd (l ++ xs)) (v := a.eval x) (v' := v2) hat q1 rfl (Or.inr ⟨k, _, rfl, hrk, rfl, hM⟩) r4 r5 r6 (q2w r2).1
        (fun M' h1 h2 => ⟨v2, h1, by rw [b2] at r2; simpa [hnews] using r2⟩) (q2w r2).2
       exact .value v2 M' w2 (qhm ho hc h1 h2 r1) (by rw [hd]; exact hA)
     ·rename_i ty sz l hrow
      cases hb : (Nat.beq ty el && Nat.beq sz ei.size) with
      | false => rw [hb] at he; cases he
      | true =>
       rw [hb] at he
       simp only [Bool.and_eq_true] at hb
       obtain rfl := Nat.eq_of_beq_eq_true hb.1
       obtain rfl := Nat.eq_of_beq_eq_true hb.2
       simp only [cond_true, Option.map_eq_some_iff] at he
       obtain ⟨xs, g1, rfl⟩ := he
       have hrk := rd_at hrow
       obtain ⟨v', ys, e1, e2, e3, e4⟩ := ha.row k _ hrk
       rw [hM] at e1; cases e1
       have hs := q4n ha g1 hry
       obtain ⟨v2, w2, news, r1, r2, r3, r4, r5, r6⟩ := qbb hT ht hei q2 q3 e2 ha.below.size hs hp o.type
       obtain ⟨M', hA⟩ := ha.grown d [k] (r := .gen ty ei.size (l ++ xs)) (v := a.eval x) (v' := v2) hat q1 rfl (Or.inr ⟨k, _, rfl, hrk, rfl, hM⟩) r4 r5 r6 (q2w r2).1
        (fun M' h1 h2 => ⟨v2, _, h1, by simpa using r2, fun e he => by
         rcases List.mem_append.1 he with he | he
         ·exact e3 e he
         ·exact hs.len e he, by
         rw [List.flatten_append]
         exact (e4.append r3).mono fun _ _ g => h2.relF g⟩) (q2w r2).2
       exact .value v2 M' w2 (qhm ho hc h1 h2 r1) (by rw [hd]; exact hA)
     ·cases he
    ·simp only [Option.map_eq_some_iff] at he
     obtain ⟨xs, g1, rfl⟩ := he
     have hv : a.eval x = .slice none 0 0 := hrx.1
     have hs := q4n ha g1 hry
     have hp : q0k ei.bytes xs.length := hp
     have hown : w.ownsRow w0.heap.size el ei.size (.slice none 0 0) 0 [] := ⟨by simp, Or.inl ⟨rfl, rfl⟩⟩
     obtain ⟨v2, w2, news, r1, r2, r3, r4, r5, r6⟩ := qbb hT ht hei q2 q3 hown ha.below.size hs (by simpa using hp) o.type
     obtain ⟨M', hA⟩ := ha.grown d [] (r := .gen el ei.size xs) (v := .slice none 0 0) (v' := v2) hat q1 rfl (Or.inl ⟨rfl, rfl⟩) r4 r5 r6 (q2w r2).1
      (fun M' h1 h2 => ⟨v2, _, h1, by simpa using r2, hs.len, by simpa using r3.mono fun _ _ g => h2.relF g⟩) (q2w r2).2
     exact .value v2 M' w2 (qhm ho hc h1 h2 (by rw [hv]; exact r1)) (by rw [hd]; exact hA)
    ·cases he
  ·cases he
 ·cases he
theorem q2U (ha : Abs w0 N0 Z M st a w) {x : Operand} {n : Int} {i : Int} (h : q1m st n (some x) = some i) : ∃ k, a.eval x = .int k i := by
 simp only [q1m] at h
 split at h
 ·rename_i k j hx
  cases h
  exact ⟨k, (qw ha hx).1⟩
 ·cases h
theorem qmb (hT : TabOK P T) (ha : Abs w0 N0 Z M st a w) {t : TypeId} {x : Operand} {lo hi mx : Option Operand} (ho : o.op = .slice t x lo hi mx) {d : DV} (hd : opv st x = some d) {e : Eff} (he : qh5 T forb st t d lo hi mx = some e) (hp : e.pre) : Well P w0 N0 Z o a w (st.app o.dst e) := by
 have hx := qw ha hd
 unfold qh5 at he
 split at he
 ·cases he
 ·have run : ∀ v, (Instr.sliceAt t (a.eval x) (lo.map a.eval) (hi.map a.eval) none).run P w = .ok v w → (execOp a.eval o).run P w = .ok (.value v) w := by
   intro v hv
   unfold execOp
   simp only [ho, Option.map_none, Sem.run_bind, hv, Result.andThen_ok, Sem.run_pure]
  split at he
  ·rename_i el s1 s2 z q sz n c ht
   split at he
   ·rename_i ei l h hei hl hh
    cases hq : Nat.beq sz ei.size with
    | false => rw [hq] at he; cases he
    | true =>
     rw [hq] at he
     cases he
     obtain rfl := Nat.eq_of_beq_eq_true hq
     obtain ⟨p1, p2, p3⟩ : 0 ≤ l ∧ l ≤ h ∧ h ≤ n := hp
     obtain ⟨ao, cap, hv, g1, g2, g3, g4⟩ := hx
     have hu := (hT t _ ht).sl rfl
     have hsz := (hT el ei hei).sizeOf w
     have hb : (Instr.sliceBounds true n cap (lo.map a.eval) (hi.map a.eval) none).run P w = .ok (l.toNat, h.toNat, cap) w := by
      have e1 : ∀ (k : IntKind) (i : Int) (m : Nat) (cd : BoundsCode), 0 ≤ i → i ≤ m → (Instr.sliceBound (.int k i) m cd).run P w = .ok i.toNat w := by
       intro k i m cd h1 h2
       simp [Instr.sliceBound, asIntOf, h1, h2]
      cases hi with
      | none =>
       simp only [q1m, Option.some.injEq] at hh
       cases lo with
       | none =>
        simp only [q1m, Option.some.injEq] at hl
        subst hl; subst hh
        simp [Instr.sliceBounds]
       | some y =>
        obtain ⟨k, hk⟩ := q2U ha hl
        subst hh
        simp [Instr.sliceBounds, hk, e1 k l n _ p1 p2]
      | some u =>
       obtain ⟨k', hk'⟩ := q2U ha hh
       cases lo with
       | none =>
        simp only [q1m, Option.some.injEq] at hl
        subst hl
        simp [Instr.sliceBounds, hk', e1 k' h cap _ (by omega) (by omega)]
       | some y =>
        obtain ⟨k, hk⟩ := q2U ha hl
        simp [Instr.sliceBounds, hk, hk', e1 k' h cap _ (by omega) (by omega), e1 k l h.toNat _ p1 (by omega)]
     have hrun : (Instr.sliceAt t (a.eval x) (lo.map a.eval) (hi.map a.eval) none).run P w = .ok (.slice (if cap = l.toNat then ao else ao.map (·.add (l.toNat * ei.size))) (h.toNat - l.toNat) (cap - l.toNat)) w := by
      rw [hv]
      simp only [Instr.sliceAt, Instr.slice, Sem.run_bind, run_underlying hu, Result.andThen_ok, hb, hsz, Sem.run_pure]
     refine Well.val ha (d := .t (.c (.sl ei.size (h - l).toNat (fun i j => c (l.toNat + i) j)))) (run _ hrun) ?_
     have hlh : (h - l).toNat = h.toNat - l.toNat := by omega
     have hn1 : h.toNat ≤ n := by omega
     have hn2 : l.toNat ≤ h.toNat := by omega
     clear p1 p2 p3
     rw [hlh]
     refine ⟨_, cap - l.toNat, rfl, by omega, by omega, ?_, fun h0 => ?_⟩
     ·intro hn
      by_cases e : cap = l.toNat
      ·omega
      ·rw [if_neg e] at hn
       cases ao with
       | none => rw [g3 rfl]; omega
       | some ad => cases hn
     ·obtain ⟨b, off, rfl, q2, q3, q4⟩ := g4 (by omega)
      refine ⟨b, off + l.toNat * ei.size, by rw [if_neg (by omega)]; simp [q3O], q2, q3, fun i j hi hj => ?_⟩
      obtain ⟨u, r1, r2⟩ := q4 (l.toNat + i) j (by omega) hj
      refine ⟨u, ?_, r2⟩
      rw [← r1, Nat.add_mul]; congr 2; omega
   ·cases he
  ·rename_i el s1 s2 z q k ht
   split at he
   ·cases he
   ·split at he
    ·rename_i ei l ty kd r hei hl hrow
     cases hq : Nat.beq 1 ei.size with
     | false => rw [hq] at he; cases he
     | true =>
      rw [hq] at he
      cases he
      have hq' := Nat.eq_of_beq_eq_true hq
      obtain ⟨p1, p2⟩ : 0 < l ∧ l ≤ r.length := hp
      obtain ⟨hM, _⟩ : RelC w (fgn w0 N0 M) M (.os k) (a.eval x) := hx
      obtain ⟨v', g1, g2⟩ := ha.row k _ (rd_at hrow)
      rw [hM] at g1
      cases g1
      obtain ⟨_, hc⟩ := g2
      rcases hc with ⟨_, e0⟩ | ⟨g, cap, cur, hv, hb, hg, hn, hm, hs, htk⟩
      ·omega
      have hu := (hT t _ ht).sl rfl
      have hsz := (hT el ei hei).sizeOf w
      have hb : (Instr.sliceBounds true r.length cap (lo.map a.eval) none none).run P w = .ok (l.toNat, r.length, cap) w := by
       have e1 : ∀ (k : IntKind) (i : Int) (m : Nat) (cd : BoundsCode), 0 ≤ i → i ≤ m → (Instr.sliceBound (.int k i) m cd).run P w = .ok i.toNat w := by
        intro k i m cd h1 h2
        simp [Instr.sliceBound, asIntOf, h1, h2]
       cases lo with
       | none =>
        simp only [q1m, Option.some.injEq] at hl
        omega
       | some y =>
        obtain ⟨k', hk⟩ := q2U ha hl
        simp [Instr.sliceBounds, hk, e1 k' l r.length _ (by omega) (by omega)]
      have hrun : (Instr.sliceAt t (a.eval x) (lo.map a.eval) (Option.map a.eval none) none).run P w = .ok (.slice (if cap = l.toNat then (some ⟨g, 0, none⟩ : Option Addr) else (some ⟨g, 0, none⟩ : Option Addr).map (·.add (l.toNat * ei.size))) (r.length - l.toNat) (cap - l.toNat)) w := by
       rw [hv]
       simp only [Instr.sliceAt, Instr.slice, Sem.run_bind, run_underlying hu, Result.andThen_ok, Option.map_none, hb, hsz, Sem.run_pure]
      have hM' : M k = some (.row (.slice (some ⟨g, 0, none⟩) r.length cap)) := by rw [← hv]; exact hM
      by_cases ec : cap = l.toNat
      ·refine Well.val ha (d := .t (.c (.ob k l.toNat 1 (r.length - l.toNat)))) (v := .slice (some ⟨g, 0, none⟩) (r.length - l.toNat) (cap - l.toNat)) (run _ (by rw [hrun, if_pos ec])) (Or.inr ⟨g, cap, 0, cap - l.toNat, by rw [hM', show l.toNat + (r.length - l.toNat) = r.length by omega], fun h => by omega, rfl, by omega, by omega⟩)
      ·refine Well.val ha (d := .t (.c (.ob k l.toNat 1 (r.length - l.toNat)))) (v := .slice (some ⟨g, l.toNat, none⟩) (r.length - l.toNat) (cap - l.toNat)) (run _ (by rw [hrun, if_neg ec, ← hq']; simp [q3O])) (Or.inr ⟨g, cap, l.toNat, cap - l.toNat, by rw [hM', show l.toNat + (r.length - l.toNat) = r.length by omega], fun h => rfl, rfl, by omega, by omega⟩)
    ·cases he
  ·rename_i n el s1 s2 z q k off ht
   split at he
   ·rename_i ei hei
    cases hq : Nat.ble n 1000 with
    | false => rw [hq] at he; cases he
    | true =>
     rw [hq] at he
     cases he
     have hn := Nat.le_of_ble_eq_true hq
     obtain ⟨b, hM, hv⟩ := hx
     have hu := (hT t _ ht).arr rfl
     have hsz := (hT el ei hei).sizeOf w
     refine Well.val ha (d := .t (.c (.ob k off ei.size n))) (v := .slice (some ⟨b, off, none⟩) n n) (run _ ?_) (Or.inl ⟨b, n, hM, rfl, Nat.le_refl _, by unfold maxLen; omega⟩)
     rw [hv]
     simp [Instr.sliceAt, run_underlying hu, Instr.sureAddr, Instr.sliceBounds, hsz, q3O]
   ·cases he
  ·rename_i s1 s2 z q s ht
   split at he
   ·rename_i l h hl hh
    cases he
    obtain ⟨p1, p2, p3⟩ : 0 ≤ l ∧ l ≤ h ∧ h ≤ s.size := hp
    have hv : a.eval x = .string s := hx.1
    have hu := (hT t _ ht).str rfl
    have hb : (Instr.sliceBounds false s.size s.size (lo.map a.eval) (hi.map a.eval) none).run P w = .ok (l.toNat, h.toNat, s.size) w := by
     have e1 : ∀ (k : IntKind) (i : Int) (m : Nat) (cd : BoundsCode), 0 ≤ i → i ≤ m → (Instr.sliceBound (.int k i) m cd).run P w = .ok i.toNat w := by
      intro k i m cd h1 h2
      simp [Instr.sliceBound, asIntOf, h1, h2]
     cases hi with
     | none =>
      simp only [q1m, Option.some.injEq] at hh
      cases lo with
      | none =>
       simp only [q1m, Option.some.injEq] at hl
       subst hl; subst hh
       simp [Instr.sliceBounds]
      | some y =>
       obtain ⟨k, hk⟩ := q2U ha hl
       subst hh
       simp [Instr.sliceBounds, hk, e1 k l s.size _ p1 p2]
     | some u =>
      obtain ⟨k', hk'⟩ := q2U ha hh
      cases lo with
      | none =>
       simp only [q1m, Option.some.injEq] at hl
       subst hl
       simp [Instr.sliceBounds, hk', e1 k' h s.size _ (by omega) (by omega)]
      | some y =>
       obtain ⟨k, hk⟩ := q2U ha hl
       simp [Instr.sliceBounds, hk, hk', e1 k' h s.size _ (by omega) (by omega), e1 k l h.toNat _ p1 (by omega)]
    refine Well.val ha (d := .t (.c (.v (.string (s.extract l.toNat h.toNat))))) (run (.string (s.extract l.toNat h.toNat)) ?_) ⟨rfl, rfl⟩
    rw [hv]
    simp only [Instr.sliceAt, Instr.slice, Sem.run_bind, run_underlying hu, Result.andThen_ok, hb, Sem.run_pure, Option.isSome_none]
    simp [hb]
   ·cases he
  ·cases he
theorem qjt {t ty : TypeId} {p : Value} {ms : Array (String × TypeId)} (hu : P.underlying t = some (.interface ms)) (w : World) : (Op.equal t (.iface ty p) .nilIface).run P w = .ok false w := by
 show (Op.equalIn (9999 + 1) t _ _).run P w = _
 generalize 9999 = d
 unfold Op.equalIn
 simp [Sem.run_bind, run_underlying hu, Sem.run_pure]
theorem qju {t : TypeId} {ms : Array (String × TypeId)} (hu : P.underlying t = some (.interface ms)) (w : World) : (Op.equal t .nilIface .nilIface).run P w = .ok true w := by
 show (Op.equalIn (9999 + 1) t _ _).run P w = _
 generalize 9999 = d
 unfold Op.equalIn
 simp [Sem.run_bind, run_underlying hu, Sem.run_pure]
theorem qmc (ha : Abs w0 N0 Z M st a w) {op : BinOp} {t yt : TypeId} {x y : Operand} (ho : o.op = .binOp op t x y yt) {e : Eff} (he : strE P op t y (opv st x) (opv st y) = some e) (hp : e.pre) : Well P w0 N0 Z o a w (st.app o.dst e) := by
 unfold strE at he
 split at he
 ·rename_i s1 s2 h1 h2
  have e1 : a.eval x = .string s1 := (qw ha h1).1
  have e2 : a.eval y = .string s2 := (qw ha h2).1
  split at he
  ·cases he
   have hp : ((s1.size + s2.size : Nat) : Int) ≤ 9223372036854775807 := hp
   refine Well.val ha (d := .t (.c (.v (.string (s1 ++ s2))))) (v := .string (s1 ++ s2)) ?_ ⟨rfl, rfl⟩
   unfold execOp
   have hn : ¬ ((s1.size + s2.size : Nat) : Int) > IntKind.i64.max := by
    have : IntKind.i64.max = 9223372036854775807 := rfl
    omega
   simp only [ho, e1, e2, Sem.run_bind, eqGuard, binOp, Op.stringOp, if_neg hn]
   rfl
  ·cases he
 ·rename_i b h1 h2
  cases hk : isK y with
  | false => rw [hk] at he; cases he
  | true =>
  rw [hk] at he
  simp only [_root_.cond_true] at he
  have e1 : (b = true ∧ a.eval x = .nilIface) ∨ (b = false ∧ ∃ ty p, a.eval x = .iface ty p) := qw ha h1
  have e2 : a.eval y = .nilIface := (qw ha h2).1
  obtain ⟨c, rfl⟩ : ∃ c, y = .const c := by
   cases y with
   | const c => exact ⟨c, rfl⟩
   | _ => simp [isK] at hk
  split at he
  ·rename_i ms hu
   have run : ∀ (op : BinOp) (r : Bool → Bool), (∀ z, binOp op t z .nilIface = (do pure (.bool (r (← Op.equal t z .nilIface))))) → op = .eql ∨ op = .neq → (execOp a.eval { o with op := .binOp op t x (.const c) yt }).run P w = .ok (.value (.bool (r b))) w := by
    intro op r hb hop
    unfold execOp
    have hg : ∀ z, (z = .nilIface ∨ ∃ ty p, z = .iface ty p) → (eqGuard op t x (.const c) z .nilIface).run P w = .ok () w := by
     rintro z (rfl | ⟨ty, p, rfl⟩)
     ·rcases hop with rfl | rfl <;> simp [eqGuard, Sem.run_pure]
     ·rcases hop with rfl | rfl <;> rfl
    rcases e1 with ⟨rfl, e1⟩ | ⟨rfl, ty, p, e1⟩
    ·simp only [e1, e2, Sem.run_bind, hg _ (Or.inl rfl), hb, qju hu, Result.andThen_ok, Sem.run_pure]
    ·simp only [e1, e2, Sem.run_bind, hg _ (Or.inr ⟨ty, p, rfl⟩), hb, qjt hu, Result.andThen_ok, Sem.run_pure]
   have ox : ∀ {op : BinOp}, o.op = .binOp op t x (.const c) yt → { o with op := .binOp op t x (.const c) yt } = o := by
    intro op h; rw [← h]
   split at he
   ·cases he
    refine Well.val ha (d := dB b) (v := .bool b) ?_ ⟨rfl, rfl⟩
    have := run .eql id (fun z => by cases z <;> rfl) (Or.inl rfl)
    rwa [ox ho] at this
   ·cases he
    refine Well.val ha (d := dB (!b)) (v := .bool (!b)) ?_ ⟨rfl, rfl⟩
    have := run .neq (!·) (fun z => by cases z <;> rfl) (Or.inr rfl)
    rwa [ox ho] at this
   ·cases he
  ·cases he
 ·cases he
end Go.Proofs.YtfadkjcfjkmalaaGreatDoor.Ev
