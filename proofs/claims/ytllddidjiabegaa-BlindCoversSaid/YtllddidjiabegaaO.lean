/- The reference's permutation. -/
import Derived.Test.YtllddidjiabegaaN
import Derived.Test.YtllddidjiabegaaReg2
set_option linter.unusedVariables false
set_option linter.unusedSimpArgs false
namespace Go.Proofs.Ytllddidjiabegaa
open Go.RowKit

/-- a piece of a row of ints, where it lies. -/
theorem seg_cells {W : World} {g m : Nat} {cur : Array Value} {e : TypeId} {xs : List Int} (hg : W.heap[g]? = some (.cells cur e (0, 0))) (htk : cur.toList.take (m * 1) = xs.map (Value.int .i64)) (hx : xs.length = m) (off : Nat) (zs : List Int) (hz : ∀ jj, jj < zs.length → off + jj < m ∧ nth zs jj = nth xs (off + jj)) :
    ∀ jj u, (zs.map (Value.int .i64))[jj]? = some u → W.cell? ((⟨g, off, none⟩ : Addr).add jj) = some u := by
  intro jj u hu
  have hjl : jj < zs.length := by
    have := (List.getElem?_eq_some_iff.1 hu).1; simpa using this
  rw [map_nth hjl] at hu
  rw [← Option.some.inj hu, add_plain', cur_cell hg htk hx (hz jj hjl).1, (hz jj hjl).2]
theorem nth_take {xs : List Int} {i jj : Nat} (h : jj < i) : nth (xs.take i) jj = nth xs jj := by simp [nth, List.getD, h]
theorem nth_drop (xs : List Int) (i jj : Nat) : nth (xs.drop i) jj = nth xs (i + jj) := by simp [nth, List.getD]
theorem ints_oneCell' (zs : List Int) : ∀ u ∈ zs.map (Value.int .i64), u.oneCell' = true := by
  intro u hu
  obtain ⟨z, _, rfl⟩ := List.mem_map.1 hu
  rfl

set_option maxRecDepth 100000 in
set_option maxHeartbeats 1000000 in
theorem ref_Permutation (n k : Nat) (w : World) (hn : n ≤ 12) (hk : k ≤ 479001600) :
    Calls Try.prog 63 #[.int .i64 n, .int .i64 k] w (RetInts w (perm n k)) := by
  go_enter Try.func63, Try.ntmps63
  go_wp2_with fail
  go_loopw [5, 7] (fun v i wr => ∃ j : Nat, j ≤ n ∧ i = .int .i64 j ∧ wr.ownsRow w.heap.size 3 1 v j ((upN j).map (Value.int .i64)) ∧ Below w.heap.size w wr) (fun _ i _ => n - (intOf i).toNat)
  case atStart => exact ⟨0, by omega, rfl, by simpa [upN] using World.ownsRow_nil w w.heap.size 3 1, Below.refl _ _⟩
  case round =>
    obtain ⟨j, hj, rfl, hown, hbel⟩ := hrel
    have hz := hbel.size
    by_cases hlt : j < n
    · go_wp2_with (at_builtin; refine wpList_push rfl _ _ _ rfl elemInt w.heap.size _ j _ rfl wr hown [.int .i64 j] rfl (by simp [Value.oneCell']) rfl _ rfl rfl (by omega) (by unfold maxLen; omega) hz ?_; intro v1 w1 hown3 hb3 _ _)
      go_roundw
      case rel => exact ⟨j + 1, by omega, by go_num, by rw [upN_succ, List.map_append]; exact hown3, by (repeat (with_reducible first | exact Below.refl _ _ | assumption | refine Below.drewN _ ?_ | refine Below.drew ?_ | refine Below_alloc ?_ _ | refine Below.alloc ?_ (by first | (simp; done) | (simp; omega) | omega) _ | refine Below.setCell ?_ (by first | (simp; done) | (simp; omega) | omega) _ | refine Below_call ?_ (by assumption) | refine Below.trans ?_ (by assumption)))⟩
      case measure => simp [intOf]; omega
    · have hjn : j = n := by omega
      subst hjn
      have HBW := hid hbel
      clear hbel
      go_wp2_with fail
      obtain ⟨wo, rfl⟩ : ∃ wo : World, wo = wr := ⟨_, rfl⟩
      go_loopg [1, 5, 6] (j) (fun m key lv ov wr => ∃ (q : Nat) (xs ys : List Int), q ≤ 479001600 ∧ key = .int .i64 q ∧ xs.length = m ∧ m ≤ j ∧ Hid (perm j k = ys ++ permF m xs q) ∧
        wr.ownsRow w.heap.size 3 1 lv m (xs.map (Value.int .i64)) ∧ ys.length + m = j ∧ wr.ownsRow w.heap.size 3 1 ov ys.length (ys.map (Value.int .i64)) ∧ (∀ g, lv.ownBlock = some g → some g ≠ ov.ownBlock) ∧ Below w.heap.size w wr)
      case atStart => exact ⟨k, upN j, [], hk, rfl, upN_len j, Nat.le_refl _, hid rfl, hown, by simp, World.ownsRow_nil _ _ _ _, fun g hg => by simp [Value.ownBlock], HBW.out⟩
      case round =>
        obtain ⟨m, rfl⟩ : ∃ m, m = gk := ⟨_, rfl⟩
        obtain ⟨q, xs, ys, hq, rfl, hxs, hm, HP, hl, hym, ho, hlb, hbel⟩ := hrel
        have hwo := hbel.size
        by_cases hm0 : 0 < m
        · rcases hl.2 with ⟨_, h0⟩ | ⟨g, cap, cur, rfl, hbg, hgc, hmc, hcm, hcs, htk⟩
          · omega
          have hgo : some g ≠ u6.ownBlock := hlb g rfl
          obtain ⟨i, hi⟩ : ∃ i, i = q % m := ⟨_, rfl⟩
          obtain ⟨d, hd⟩ : ∃ d, d = q / m := ⟨_, rfl⟩
          have hil : i < m := by rw [hi]; exact Nat.mod_lt _ hm0
          have hdq : d ≤ 479001600 := by rw [hd]; exact Nat.le_trans (Nat.div_le_self _ _) hq
          have hmod : (q : Int) % (m : Int) = (i : Int) := by rw [hi]; exact (Int.natCast_emod q m).symm
          have hdiv : (q : Int) / (m : Int) = (d : Int) := by rw [hd]; exact (Int.natCast_ediv q m).symm
          have HI := hid hi
          have HD := hid hd
          have c0 := cur_cell hgc htk hxs hil
          have hgw : g < wr.heap.size := (Array.getElem?_eq_some_iff.1 hgc).1
          have hi0 : (0 : Int) ≤ (i : Int) := Int.natCast_nonneg _
          have hi1 : (i : Int) < (m : Int) := by omega
          have hmpos : (0 : Int) < (m : Int) := by omega
          have hic : (i : Int) ≤ (cap : Int) := by omega
          unfold maxLen at hcm
          have hyl : ys.length ≤ 12 := by omega
          have HGC := hid hgc
          have HTK := hid htk
          have HXS := hid hxs
          have HYM := hid hym
          have HBEL := hid hbel
          clear hi hd hgc htk hcs hl hxs hym hbel hlb
          go_wp2_with (at_builtin; refine wpList_push rfl _ _ _ rfl elemInt w.heap.size _ ys.length _ rfl wr ho [.int .i64 (nth xs i)] rfl (by simp [Value.oneCell']) rfl _ rfl rfl (by omega) (by unfold maxLen; omega) hwo ?_; intro v1 w2 hown3 hb3 hoth hlies)
          have hi2 : (i : Int) + 1 ≤ (m : Int) := by omega
          have hi3 : (m : Int) ≤ (cap : Int) := by omega
          have hgc2 := (hoth g hgw hgo).trans HGC.out
          have HG2 := hid hgc2
          have HOTH := hid hoth
          have HLI := hid hlies
          clear hgc2 hoth hlies
          rcases Nat.lt_or_ge (i + 1) cap with hcase | hcase
          all_goals
            ((refine wp_two [1, 2, 3, 5, 6, 7, 8] [0, 4, 9, 10] (by kernel_rfl) (by kernel_rfl) ?_); (intro _ _); (simp only [pick, List.drop_succ_cons, List.drop_zero, List.head?_cons, Option.toList_some, List.cons_append, List.nil_append]); (repeat (first | (go_big_quiet_step (fail)) | (quiet_step (fail)))); (try refine wpQuiet_nil ?_))
            try (have hce : cap = i + 1 := by omega
                 rw [if_pos hce]
                 clear hce)
            have hgw2 : g < w2.heap.size := (Array.getElem?_eq_some_iff.1 HG2.out).1
            have hgA : (w2.drew.alloc (.cells #[] 3)).heap[g]? = some (.cells cur 3 (0, 0)) := (Below.heap_alloc w2.drew _ g hgw2).trans HG2.out
            have hnA := seg_cells hgA HTK.out HXS.out 0 (xs.take i) (fun jj hjj => by
              have h1 : jj < i := by rw [List.length_take] at hjj; omega
              exact ⟨by omega, by rw [nth_take h1, Nat.zero_add]⟩)
            have hlA : ((xs.take i).map (Value.int .i64)).length = i * 1 := by have := HXS.out; simp; omega
            have HE : (w2.drew.alloc (.cells #[] 3)).ownsRow w2.heap.size 3 1 (.slice (some ⟨w2.heap.size, 0, none⟩) 0 0) 0 [] := ownsRow_empty w2.drew elemInt
            have HLA := hid hlA
            have HNA := hid hnA
            clear hgA hnA hlA
            have hB : ∀ w3 v3, Pushed w2.heap.size (w2.alloc (.cells #[] 3)).drew w3 (.slice (some ⟨w2.heap.size, 0, none⟩) 0 0) v3 → ∀ jj u, ((xs.drop (i + 1)).map (Value.int .i64))[jj]? = some u → w3.cell? ((⟨g, i + 1, none⟩ : Addr).add jj) = some u := fun w3 v3 hp => by
              have h1 : w3.heap[g]? = some (.cells cur 3 (0, 0)) := by
                rw [hp.other g (by simp; omega) (by simp [Value.ownBlock]; omega)]
                exact (Below.heap_alloc w2 _ g hgw2).trans HG2.out
              exact seg_cells h1 HTK.out HXS.out (i + 1) _ fun jj hjj => by
                have h2 : jj < m - (i + 1) := by have := HXS.out; rw [List.length_drop] at hjj; omega
                exact ⟨by omega, nth_drop _ _ _⟩
            have hlB : ((xs.drop (i + 1)).map (Value.int .i64)).length = (m - (i + 1)) * 1 := by have := HXS.out; simp; omega
            have HLB := hid hlB
            have HNB := hid hB
            clear hB hlB
            go_wp2_with (first | (at_builtin; refine wpList_append_list rfl (.tmp 36) (.tmp 39) _ rfl elemInt w2.heap.size (.slice (some ⟨w2.heap.size, 0, none⟩) 0 0) 0 [] rfl HE _ i _ ((xs.take i).map (Value.int .i64)) rfl HLA.out (ints_oneCell' _) (Or.inr ⟨_, rfl, HNA.out⟩) (by omega) (by unfold maxLen; omega) (by simp) ?_; intro v3 w3 hown4 hp4 _) | (at_builtin; go_must (refine wpList_append_list rfl (.tmp 40) (.tmp 44) _ rfl elemInt w2.heap.size v3 (0 + i) _ rfl hown4 _ (m - (i + 1)) _ ((xs.drop (i + 1)).map (Value.int .i64)) rfl HLB.out (ints_oneCell' _) (Or.inr ⟨_, rfl, by first | exact HNB.out _ _ hp4 | exact fun jj u hu => absurd (List.getElem?_eq_some_iff.1 hu).1 (by have := HLB.out; omega)⟩) (by omega) (by unfold maxLen; omega) (by have := hp4.below.size; simp at this; omega) ?_); intro v4 w4 hown5 hp5 _))
            go_roundg (m - 1)
            case rel =>
              have hlen : (xs.eraseIdx i).length = m - 1 := by rw [List.length_eraseIdx, if_pos (by have := HXS.out; omega), HXS.out]
              have hpf : permF m xs q = nth xs i :: permF (m - 1) (xs.eraseIdx i) d := by
                obtain ⟨m', rfl⟩ : ∃ m', m = m' + 1 := ⟨m - 1, by omega⟩
                rw [HI.out, HD.out]; rfl
              have hw2 : w.heap.size ≤ w2.heap.size := Nat.le_trans hwo hb3.size
              have hb24 : Below w2.heap.size w2 w4 := (((Below.drewN 1 ((Below.refl _ _).alloc (Nat.le_refl _) (.cells #[] 3)))).trans hp4.below).trans hp5.below
              refine ⟨d, xs.eraseIdx i, ys ++ [nth xs i], hdq, rfl, hlen, by omega, hid ?_, ?_, by have := HYM.out; simp; omega, ?_, fun g' hg' e => ?_, (HBEL.out.trans hb3).trans (hb24.mono hw2)⟩
              · rw [HP.out, hpf]; simp
              · have h5 := ownsRow_base hown5 hw2
                rw [List.eraseIdx_eq_take_drop_succ, List.map_append]
                rw [show m - 1 = 0 + i + (m - (i + 1)) from by omega]
                simpa using h5
              · rw [List.map_append, show (ys ++ [nth xs i]).length = ys.length + 1 from by simp]
                exact ownsRow_keep hown3 (fun g' hg' => (hown3.lt g' hg').2) hb24
              · have h6 := (hown3.lt g' e.symm).2
                have h7 := (hown5.lt g' hg').1
                omega
            case measure => omega
        · have hm00 : m = 0 := by omega
          subst hm00
          have hsh : ∃ ao cp, u5 = .slice ao 0 cp := by
            rcases hl.2 with ⟨e, _⟩ | ⟨g, cap, cur, e, _⟩
            · exact ⟨none, 0, e⟩
            · exact ⟨_, cap, e⟩
          obtain ⟨ao, cp, rfl⟩ := hsh
          go_wp2_with fail
          go_ret
          refine ⟨u6, rfl, ?_, hbel⟩
          have := HP.out
          rw [permF, List.append_nil] at this
          rw [this]
          exact ownsRow_ints ho

end Go.Proofs.Ytllddidjiabegaa
