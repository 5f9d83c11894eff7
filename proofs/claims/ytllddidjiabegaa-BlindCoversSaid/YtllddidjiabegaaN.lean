/- Permutations by their keys: the plain function, and the program's contract. -/
import Derived.Test.YtllddidjiabegaaL
import Derived.Laws.CopyOwn
set_option linter.unusedVariables false
set_option linter.unusedSimpArgs false
namespace Go.Proofs.Ytllddidjiabegaa
open Go.RowKit

/-- 0, 1, .. -/
def upN (n : Nat) : List Int := (List.range n).map fun i : Nat => (i : Int)
theorem upN_len (n : Nat) : (upN n).length = n := by simp [upN]
theorem upN_succ (n : Nat) : upN (n + 1) = upN n ++ [(n : Int)] := by simp [upN, List.range_succ]

/-- take from a list the number at the key modulo its length, again and again (n: its length). -/
def permF : Nat → List Int → Nat → List Int
  | 0, _, _ => []
  | n + 1, l, k => nth l (k % (n + 1)) :: permF n (l.eraseIdx (k % (n + 1))) (k / (n + 1))
def perm (n k : Nat) : List Int := permF n (upN n) k
theorem permF_len : ∀ (n : Nat) (l : List Int) (k : Nat), (permF n l k).length = n := by
  intro n
  induction n with
  | zero => intro l k; rfl
  | succ n ih => intro l k; simp [permF, ih]

theorem splice_erase {xs : List Int} {cur : List Value} {n i : Nat} (hn : xs.length = n) (hi : i < n) (hc : cur.take n = xs.map (Value.int .i64)) (hcl : n ≤ cur.length) :
    (splice cur i ((xs.drop (i + 1)).map (Value.int .i64))).take (n - 1) = (xs.eraseIdx i).map (Value.int .i64) := by
  rw [List.eraseIdx_eq_take_drop_succ, List.map_append]
  have e1 : cur.take i = (xs.take i).map (Value.int .i64) := by
    have := congrArg (List.take i) hc
    rw [List.take_take, show min i n = i from by omega] at this
    rw [this, List.map_take]
  unfold splice
  rw [e1, ← List.append_assoc]
  rw [List.take_append_of_le_length (by simp; omega), List.take_of_length_le (by simp; omega)]

theorem ownsRow_keep {w w' : World} {B base : Nat} {e : TypeId} {size : Nat} {v : Value} {n : Nat} {xs : List Value} (h : w.ownsRow base e size v n xs) (hlb : ∀ g, v.ownBlock = some g → g < B) (hb : Below B w w') : w'.ownsRow base e size v n xs := by
  refine ⟨h.1, ?_⟩
  rcases h.2 with h2 | ⟨g, cap, cur, rfl, hg, hh, r⟩
  · exact Or.inl h2
  · exact Or.inr ⟨g, cap, cur, rfl, hg, by rw [hb.block g (hlb g rfl)]; exact hh, r⟩

theorem cur_len {cur : Array Value} {cap m : Nat} (hcs : cur.size = cap * 1) (hmc : m ≤ cap) : m ≤ cur.toList.length := by simp; omega
theorem cur_cell {w : World} {g i m : Nat} {cur : Array Value} {e : TypeId} {xs : List Int} (hg : w.heap[g]? = some (.cells cur e (0, 0))) (htk : cur.toList.take (m * 1) = xs.map (Value.int .i64)) (hx : xs.length = m) (hi : i < m) : w.cell? ⟨g, i, none⟩ = some (.int .i64 (nth xs i)) := by
  rw [cell_of_row w g i cur e (0, 0) hg]
  have e1 : (cur.toList.take (m * 1))[i]? = some (.int .i64 (nth xs i)) := by rw [htk]; exact map_nth (by omega)
  rw [List.getElem?_take] at e1
  split at e1
  · simpa using e1
  · cases e1
theorem add_plain' (g i j : Nat) : (⟨g, i, none⟩ : Addr).add j = ⟨g, i + j, none⟩ := by unfold Addr.add; split <;> simp_all
theorem heap_setRow_same {w : World} {g : Nat} {cur : Array Value} {e : TypeId} {fr : Nat × Nat} (h : w.heap[g]? = some (.cells cur e fr)) (cs : Array Value) : (w.setRow g cs).heap[g]? = some (.cells cs e fr) := by
  simp [World.setRow, Array.getElem?_modify, h]

theorem infoInt1 : (Try.prog.info? 3).map (·.size) = some 1 := by kernel_rfl

set_option maxRecDepth 100000 in
set_option maxHeartbeats 1000000 in
theorem blind_permutation (n k : Nat) (w : World) (hn : n ≤ 12) (hk : k ≤ 479001600) :
    Calls Try.prog 113 #[.int .i64 n, .int .i64 k] w (RetInts w (perm n k)) := by
  go_enter Try.func113, Try.ntmps113
  go_wp2_with fail
  go_loopw [5, 10] (fun v i wr => ∃ j : Nat, j ≤ n ∧ i = .int .i64 j ∧ wr.ownsRow w.heap.size 3 1 v j ((upN j).map (Value.int .i64)) ∧ Below w.heap.size w wr) (fun _ i _ => n - (intOf i).toNat)
  case atStart => exact ⟨0, by omega, rfl, by simpa [upN] using World.ownsRow_nil w w.heap.size 3 1, Below.refl _ _⟩
  case round =>
    obtain ⟨j, hj, rfl, hown, hbel⟩ := hrel
    have hz := hbel.size
    by_cases hlt : j < n
    · go_wp2_with (at_builtin; refine wpList_push rfl _ _ _ rfl elemInt w.heap.size _ j _ rfl wr hown [.int .i64 j] rfl (by simp [Value.oneCell']) rfl _ rfl rfl (by omega) (by unfold maxLen; omega) hz ?_; intro v1 w2 hown3 hb3 _ _)
      go_roundw
      case rel => exact ⟨j + 1, by omega, by go_num, by rw [upN_succ, List.map_append]; exact hown3, by (repeat (with_reducible first | exact Below.refl _ _ | assumption | refine Below.drewN _ ?_ | refine Below.drew ?_ | refine Below_alloc ?_ _ | refine Below.alloc ?_ (by first | (simp; done) | (simp; omega) | omega) _ | refine Below.setCell ?_ (by first | (simp; done) | (simp; omega) | omega) _ | refine Below_call ?_ (by assumption) | refine Below.trans ?_ (by assumption)))⟩
      case measure => simp [intOf]; omega
    · have hjn : j = n := by omega
      subst hjn
      have HBW := hid hbel
      clear hbel
      go_wp2_with fail
      obtain ⟨wo, rfl⟩ : ∃ wo : World, wo = wr := ⟨_, rfl⟩
      go_loopg [1, 5, 6] (j) (fun m key lv ov wr => ∃ (q : Nat) (xs ys : List Int) (go : Nat), q ≤ 479001600 ∧ key = .int .i64 q ∧ xs.length = m ∧ m ≤ j ∧ Hid (perm j k = ys ++ permF m xs q) ∧
        wr.ownsRow w.heap.size 3 1 lv m (xs.map (Value.int .i64)) ∧ ys.length + m = j ∧ wr.ownsRow wo.heap.size 3 1 ov ys.length (ys.map (Value.int .i64)) ∧ (∀ g, lv.ownBlock = some g → g < wo.heap.size) ∧ Below w.heap.size w wr ∧ wo.heap.size ≤ wr.heap.size)
      case atStart => exact ⟨k, upN j, [], 0, hk, rfl, upN_len j, Nat.le_refl _, hid rfl, hown, by simp, World.ownsRow_nil _ _ _ _, fun g hg => (hown.lt g hg).2, HBW.out, Nat.le_refl _⟩
      case round =>
        obtain ⟨m, rfl⟩ : ∃ m, m = gk := ⟨_, rfl⟩
        obtain ⟨q, xs, ys, go, hq, rfl, hxs, hm, HP, hl, hym, ho, hlb, hbel, hwo⟩ := hrel
        by_cases hm0 : 0 < m
        · rcases hl.2 with ⟨_, h0⟩ | ⟨g, cap, cur, rfl, hbg, hgc, hmc, hcm, hcs, htk⟩
          · omega
          have hgw : g < wo.heap.size := hlb g rfl
          obtain ⟨i, hi⟩ : ∃ i, i = q % m := ⟨_, rfl⟩
          obtain ⟨d, hd⟩ : ∃ d, d = q / m := ⟨_, rfl⟩
          have hil : i < m := by rw [hi]; exact Nat.mod_lt _ hm0
          have hdq : d ≤ 479001600 := by rw [hd]; exact Nat.le_trans (Nat.div_le_self _ _) hq
          have hmod : (q : Int) % (m : Int) = (i : Int) := by rw [hi]; exact (Int.natCast_emod q m).symm
          have hdiv : (q : Int) / (m : Int) = (d : Int) := by rw [hd]; exact (Int.natCast_ediv q m).symm
          have HI := hid hi
          have HD := hid hd
          have c0 : wr.cell? ⟨g, i, none⟩ = some (.int .i64 (nth xs i)) := by
            rw [cell_of_row wr g i cur _ (0, 0) hgc]
            have e1 : (cur.toList.take (m * 1))[i]? = some (.int .i64 (nth xs i)) := by rw [htk]; exact map_nth (by omega)
            rw [List.getElem?_take] at e1
            split at e1
            · simpa using e1
            · cases e1
          have hi0 : (0 : Int) ≤ (i : Int) := Int.natCast_nonneg _
          have hi1 : (i : Int) < (m : Int) := by omega
          have hmpos : (0 : Int) < (m : Int) := by omega
          have hic : (i : Int) ≤ (cap : Int) := by omega
          unfold maxLen at hcm
          have hyl : ys.length ≤ 12 := by omega
          have HGC := hid hgc
          have HTK := hid htk
          have HCS := hid hcs
          have HL := hid hl
          have HXS := hid hxs
          have HYM := hid hym
          have HBEL := hid hbel
          clear hi hd hgc htk hcs hl hxs hym hbel hlb
          go_wp2_with (at_builtin; refine wpList_push rfl _ _ _ rfl elemInt wo.heap.size _ ys.length _ rfl wr ho [.int .i64 (nth xs i)] rfl (by simp [Value.oneCell']) rfl _ rfl rfl (by omega) (by unfold maxLen; omega) hwo ?_; intro v1 w2 hown3 hb3 _ _)
          have hi2 : (i : Int) + 1 ≤ (m : Int) := by omega
          have hi3 : (m : Int) ≤ (cap : Int) := by omega
          have hni : ¬ cap = i := by omega
          have hni' : ¬ (cap : Int) = (i : Int) := by omega
          rcases Nat.lt_or_ge (i + 1) cap with hcase | hcase
          all_goals
            ((refine wp_three [] [0, 1, 2, 3, 4, 5, 6] 7 (by kernel_rfl) (by kernel_rfl) ?_); (intro _ _); (simp only [pick, List.drop_succ_cons, List.drop_zero, List.head?_cons, Option.toList_some, List.cons_append, List.nil_append]); (repeat (first | (go_big_quiet_step (fail)) | (quiet_step (fail)))); (try refine wpQuiet_nil ?_); (repeat (first | (go_big_quiet_step (fail)) | (quiet_step (fail)))); (try refine wpQuiet_nil ?_); (intro nq))
            try (have hce : cap = i + 1 := by omega
                 rw [if_pos hce]
                 clear hce)
            have hgc2 : (w2.drewN nq).heap[g]? = some (.cells cur 3 (0, 0)) := (hb3.block g hgw).trans HGC.out
            refine wpList_copy_own rfl _ _ _ _ rfl 3 Try.underlying33 infoInt1 g i (m - i) (cap - i) _ (m - (i + 1)) _ rfl rfl cur _ hgc2 ((xs.drop (i + 1)).map (Value.int .i64)) ?_ ?_ ?_ ?_ ?_
            · have := HXS.out; rw [show Nat.min (m - (i + 1)) (m - i) = m - (i + 1) from Nat.min_eq_left (by omega)]; simp; omega
            · intro jj u hu
              have hjl : jj < (xs.drop (i + 1)).length := by
                have := (List.getElem?_eq_some_iff.1 hu).1; simpa using this
              have hjl2 : i + 1 + jj < m := by have := HXS.out; simp at hjl; omega
              rw [map_nth hjl] at hu
              rw [← Option.some.inj hu]
              first
                | (rw [add_plain', cur_cell hgc2 HTK.out HXS.out hjl2]; simp [nth, List.getD])
                | omega
            · have := HXS.out; have := HCS.out; simp; omega
            · intro u hu
              obtain ⟨z, _, rfl⟩ := List.mem_map.1 hu
              rfl
            · go_wp2
              go_roundg (m - 1)
              case rel =>
                have hlen : (xs.eraseIdx i).length = m - 1 := by rw [List.length_eraseIdx, if_pos (by have := HXS.out; omega), HXS.out]
                have hpf : permF m xs q = nth xs i :: permF (m - 1) (xs.eraseIdx i) d := by
                  obtain ⟨m', rfl⟩ : ∃ m', m = m' + 1 := ⟨m - 1, by omega⟩
                  rw [HI.out, HD.out]; rfl
                refine ⟨d, xs.eraseIdx i, ys ++ [nth xs i], 0, hdq, rfl, hlen, by omega, hid ?_, ?_, by have := HYM.out; simp; omega, ?_, fun g' hg' => by simp [Value.ownBlock] at hg'; omega, ?_, ?_⟩
                · rw [HP.out, hpf]; simp
                · refine ⟨by simp [hlen], Or.inr ⟨g, cap, _, rfl, hbg, heap_setRow_same hgc2 _, by omega, by unfold maxLen; omega, ?_, ?_⟩⟩
                  · have := HXS.out; have := HCS.out; simp; omega
                  · rw [Nat.mul_one]
                    have h7 := splice_erase HXS.out hil (by have := HTK.out; rwa [Nat.mul_one] at this) (cur_len HCS.out hmc)
                    unfold splice at h7
                    simpa [List.map_drop] using h7
                · have h4 := ownsRow_drewN nq hown3
                  rw [List.map_append]
                  rw [show (ys ++ [nth xs i]).length = ys.length + 1 from by simp]
                  refine ⟨h4.1, ?_⟩
                  rcases h4.2 with h5 | ⟨g2, cap2, cur2, e2, hb2, hh2, r2⟩
                  · exact Or.inl h5
                  · exact Or.inr ⟨g2, cap2, cur2, e2, hb2, by rw [setRow_other _ _ _ _ (by omega)]; exact hh2, r2⟩
                · exact below_setRow (Below.drewN nq (HBEL.out.trans (hb3.mono (by omega)))) hbg _
                · have := hb3.size; simp; omega
              case measure => omega
        · have hm00 : m = 0 := by omega
          subst hm00
          have hsh : ∃ ao cp, u5 = .slice ao 0 cp := by
            rcases hl.2 with ⟨e, _⟩ | ⟨g, cap, cur, e, _⟩
            · exact ⟨none, 0, e⟩
            · exact ⟨_, cap, e⟩
          obtain ⟨ao, cp, rfl⟩ := hsh
          go_wp2_with fail
          go_ret
          refine ⟨u6, rfl, ?_, hbel⟩
          have := HP.out
          rw [permF, List.append_nil] at this
          rw [this]
          exact ownsRow_ints ho

end Go.Proofs.Ytllddidjiabegaa
