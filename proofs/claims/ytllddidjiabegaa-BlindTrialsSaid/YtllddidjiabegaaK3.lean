/- The reference's permutation. -/
import Derived.Test.YtllddidjiabegaaK2
import Derived.Test.YtllddidjiabegaaK1
set_option linter.unusedVariables false
set_option linter.unusedSimpArgs false
namespace Go.Proofs.Ytllddidjiabegaa
open Go.RowKit

/-- a piece of a row of ints, where it lies. -/
theorem seg_cells {W : World} {g m : Nat} {cur : Array Value} {e : TypeId} {xs : List Int} (hg : W.heap[g]? = some (.cells cur e (0, 0))) (htk : cur.toList.take (m * 1) = xs.map (Value.int .i64)) (hx : xs.length = m) (off : Nat) (zs : List Int) (hz : ∀ jj, jj < zs.length → off + jj < m ∧ nth zs jj = nth xs (off + jj)) :
    ∀ jj u, (zs.map (Value.int .i64))[jj]? = some u → W.cell? ((⟨g, off, none⟩ : Addr).add jj) = some u := by
  intro jj u hu
  have hjl : jj < zs.length := by
    have := (List.getElem?_eq_some_iff.1 hu).1; simpa using this
  rw [map_nth hjl] at hu
  rw [← Option.some.inj hu, add_plain', cur_cell hg htk hx (hz jj hjl).1, (hz jj hjl).2]
theorem nth_take {xs : List Int} {i jj : Nat} (h : jj < i) : nth (xs.take i) jj = nth xs jj := by simp [nth, List.getD, h]
theorem nth_drop (xs : List Int) (i jj : Nat) : nth (xs.drop i) jj = nth xs (i + jj) := by simp [nth, List.getD]
theorem ints_oneCell' (zs : List Int) : ∀ u ∈ zs.map (Value.int .i64), u.oneCell' = true := by
  intro u hu
  obtain ⟨z, _, rfl⟩ := List.mem_map.1 hu
  rfl

set_option maxRecDepth 100000 in
set_option maxHeartbeats 1000000 in
theorem ref_Permutation (n k : Nat) (w : World) (hn : n ≤ 12) (hk : k ≤ 479001600) :
    Calls Try.prog 63 #[.int .i64 n, .int .i64 k] w (RetInts w (perm n k)) := by
  go_enter Try.func63, Try.ntmps63
  go_wp2_with fail
  go_loopw [5, 7] (fun v i wr => ∃ j : Nat, j ≤ n ∧ i = .int .i64 j ∧ wr.ownsRow w.heap.size 3 1 v j ((upN j).map (Value.int .i64)) ∧ Below w.heap.size w wr) (fun _ i _ => n - (intOf i).toNat)
  case atStart => exact ⟨0, by omega, rfl, by simpa [upN] using World.ownsRow_nil w w.heap.size 3 1, Below.refl _ _⟩
  case round =>
    obtain ⟨j, hj, rfl, hown, hbel⟩ := hrel
    have hz := hbel.size
    by_cases hlt : j < n
    · go_wp2_with (at_builtin; refine wpList_push rfl _ _ _ rfl elemInt w.heap.size _ j _ rfl wr hown [.int .i64 j] rfl (by simp [Value.oneCell']) rfl _ rfl rfl (by omega) (by unfold maxLen; omega) hz ?_; intro v1 w1 hown3 hb3 _ _)
      go_roundw
      case rel => exact ⟨j + 1, by omega, by go_num, by rw [upN_succ, List.map_append]; exact hown3, by (repeat (with_reducible first | exact Below.refl _ _ | assumption | refine Below.drewN _ ?_ | refine Below.drew ?_ | refine Below_alloc ?_ _ | refine Below.alloc ?_ (by first | (simp; done) | (simp; omega) | omega) _ | refine Below.setCell ?_ (by first | (simp; done) | (simp; omega) | omega) _ | refine Below_call ?_ (by assumption) | refine Below.trans ?_ (by assumption)))⟩
      case measure => simp [intOf]; omega
    · have hjn : j = n := by omega
      subst hjn
      have HBW := hid hbel
      clear hbel
      go_wp2_with fail
      obtain ⟨wo, rfl⟩ : ∃ wo : World, wo = wr := ⟨_, rfl⟩
      go_loopg [1, 5, 6] (j) (fun m key lv ov wr => ∃ (q : Nat) (xs ys : List Int), q ≤ 479001600 ∧ key = .int .i64 q ∧ xs.length = m ∧ m ≤ j ∧ Hid (perm j k = ys ++ permF m xs q) ∧
        wr.ownsRow w.heap.size 3 1 lv m (xs.map (Value.int .i64)) ∧ ys.length + m = j ∧ wr.ownsRow w.heap.size 3 1 ov ys.length (ys.map (Value.int .i64)) ∧ (∀ g, lv.ownBlock = some g → some g ≠ ov.ownBlock) ∧ Below w.heap.size w wr)
      case atStart => exact ⟨k, upN j, [], hk, rfl, upN_len j, Nat.le_refl _, hid rfl, hown, by simp, World.ownsRow_nil _ _ _ _, fun g hg => by simp [Value.ownBlock], HBW.out⟩
      case round =>
        obtain ⟨m, rfl⟩ : ∃ m, m = gk := ⟨_, rfl⟩
        obtain ⟨q, xs, ys, hq, rfl, hxs, hm, HP, hl, hym, ho, hlb, hbel⟩ := hrel
        have hwo := hbel.size
        by_cases hm0 : 0 < m
        · rcases hl.2 with ⟨_, h0⟩ | ⟨g, cap, cur, rfl, hbg, hgc, hmc, hcm, hcs, htk⟩
          · omega
          have hgo : some g ≠ u6.ownBlock := hlb g rfl
          obtain ⟨i, hi⟩ : ∃ i, i = q % m := ⟨_, rfl⟩
          obtain ⟨d, hd⟩ : ∃ d, d = q / m := ⟨_, rfl⟩
          have hil : i < m := by rw [hi]; exact Nat.mod_lt _ hm0
          have hdq : d ≤ 479001600 := by rw [hd]; exact Nat.le_trans (Nat.div_le_self _ _) hq
          have hmod : (q : Int) % (m : Int) = (i : Int) := by rw [hi]; exact (Int.natCast_emod q m).symm
          have hdiv : (q : Int) / (m : Int) = (d : Int) := by rw [hd]; exact (Int.natCast_ediv q m).symm
          have HI := hid hi
          have HD := hid hd
          have c0 := cur_cell hgc htk hxs hil
          have hgw : g < wr.heap.size := (Array.getElem?_eq_some_iff.1 hgc).1
          have hi0 : (0 : Int) ≤ (i : Int) := Int.natCast_nonneg _
          have hi1 : (i : Int) < (m : Int) := by omega
          have hmpos : (0 : Int) < (m : Int) := by omega
          have hic : (i : Int) ≤ (cap : Int) := by omega
          unfold maxLen at hcm
          have hyl : ys.length ≤ 12 := by omega
          have HGC := hid hgc
          have HTK := hid htk
          have HXS := hid hxs
          have HYM := hid hym
          have HBEL := hid hbel
          clear hi hd hgc htk hcs hl hxs hym hbel hlb
          go_wp2_with (at_builtin; refine wpList_push rfl _ _ _ rfl elemInt w.heap.size _ ys.length _ rfl wr ho [.int .i64 (nth xs i)] rfl (by simp [Value.oneCell']) rfl _ rfl rfl (by omega) (by unfold maxLen; omega) hwo ?_; intro v1 w2 hown3 hb3 hoth hlies)
          have hi2 : (i : Int) + 1 ≤ (m : Int) := by omega
          have hi3 : (m : Int) ≤ (cap : Int) := by omega
          have hgc2 := (hoth g hgw hgo).trans HGC.out
          have HG2 := hid hgc2
          have HOTH := hid hoth
          have HLI := hid hlies
          clear hgc2 hoth hlies
          rcases Nat.lt_or_ge (i + 1) cap with hcase | hcase
          all_goals
            ((refine wp_two [1, 2, 3, 5, 6, 7, 8] [0, 4, 9, 10] (by kernel_rfl) (by kernel_rfl) ?_); (intro _ _); (simp only [pick, List.drop_succ_cons, List.drop_zero, List.head?_cons, Option.toList_some, List.cons_append, List.nil_append]); (repeat (first | (go_big_quiet_step (fail)) | (quiet_step (fail)))); (try refine wpQuiet_nil ?_))
            try (have hce : cap = i + 1 := by omega
                 rw [if_pos hce]
                 clear hce)
            have hgw2 : g < w2.heap.size := (Array.getElem?_eq_some_iff.1 HG2.out).1
            have hgA : (w2.drew.alloc (.cells #[] 3)).heap[g]? = some (.cells cur 3 (0, 0)) := (Below.heap_alloc w2.drew _ g hgw2).trans HG2.out
            have hnA := seg_cells hgA HTK.out HXS.out 0 (xs.take i) (fun jj hjj => by
              have h1 : jj < i := by rw [List.length_take] at hjj; omega
              exact ⟨by omega, by rw [nth_take h1, Nat.zero_add]⟩)
            have hlA : ((xs.take i).map (Value.int .i64)).length = i * 1 := by have := HXS.out; simp; omega
            have HE : (w2.drew.alloc (.cells #[] 3)).ownsRow w2.heap.size 3 1 (.slice (some ⟨w2.heap.size, 0, none⟩) 0 0) 0 [] := ownsRow_empty w2.drew elemInt
            have HLA := hid hlA
            have HNA := hid hnA
            clear hgA hnA hlA
            have hB : ∀ w3 v3, Pushed w2.heap.size (w2.alloc (.cells #[] 3)).drew w3 (.slice (some ⟨w2.heap.size, 0, none⟩) 0 0) v3 → ∀ jj u, ((xs.drop (i + 1)).map (Value.int .i64))[jj]? = some u → w3.cell? ((⟨g, i + 1, none⟩ : Addr).add jj) = some u := fun w3 v3 hp => by
              have h1 : w3.heap[g]? = some (.cells cur 3 (0, 0)) := by
                rw [hp.other g (by simp; omega) (by simp [Value.ownBlock]; omega)]
                exact (Below.heap_alloc w2 _ g hgw2).trans HG2.out
              exact seg_cells h1 HTK.out HXS.out (i + 1) _ fun jj hjj => by
                have h2 : jj < m - (i + 1) := by have := HXS.out; rw [List.length_drop] at hjj; omega
                exact ⟨by omega, nth_drop _ _ _⟩
            have hlB : ((xs.drop (i + 1)).map (Value.int .i64)).length = (m - (i + 1)) * 1 := by have := HXS.out; simp; omega
            have HLB := hid hlB
            have HNB := hid hB
            clear hB hlB
            go_wp2_with (first | (at_builtin; refine wpList_append_list rfl (.tmp 36) (.tmp 39) _ rfl elemInt w2.heap.size (.slice (some ⟨w2.heap.size, 0, none⟩) 0 0) 0 [] rfl HE _ i _ ((xs.take i).map (Value.int .i64)) rfl HLA.out (ints_oneCell' _) (Or.inr ⟨_, rfl, HNA.out⟩) (by omega) (by unfold maxLen; omega) (by simp) ?_; intro v3 w3 hown4 hp4 _) | (at_builtin; go_must (refine wpList_append_list rfl (.tmp 40) (.tmp 44) _ rfl elemInt w2.heap.size v3 (0 + i) _ rfl hown4 _ (m - (i + 1)) _ ((xs.drop (i + 1)).map (Value.int .i64)) rfl HLB.out (ints_oneCell' _) (Or.inr ⟨_, rfl, by first | exact HNB.out _ _ hp4 | exact fun jj u hu => absurd (List.getElem?_eq_some_iff.1 hu).1 (by have := HLB.out; omega)⟩) (by omega) (by unfold maxLen; omega) (by have := hp4.below.size; simp at this; omega) ?_); intro v4 w4 hown5 hp5 _))
            go_roundg (m - 1)
            case rel =>
              have hlen : (xs.eraseIdx i).length = m - 1 := by rw [List.length_eraseIdx, if_pos (by have := HXS.out; omega), HXS.out]
              have hpf : permF m xs q = nth xs i :: permF (m - 1) (xs.eraseIdx i) d := by
                obtain ⟨m', rfl⟩ : ∃ m', m = m' + 1 := ⟨m - 1, by omega⟩
                rw [HI.out, HD.out]; rfl
              have hw2 : w.heap.size ≤ w2.heap.size := Nat.le_trans hwo hb3.size
              have hb24 : Below w2.heap.size w2 w4 := (((Below.drewN 1 ((Below.refl _ _).alloc (Nat.le_refl _) (.cells #[] 3)))).trans hp4.below).trans hp5.below
              refine ⟨d, xs.eraseIdx i, ys ++ [nth xs i], hdq, rfl, hlen, by omega, hid ?_, ?_, by have := HYM.out; simp; omega, ?_, fun g' hg' e => ?_, (HBEL.out.trans hb3).trans (hb24.mono hw2)⟩
              · rw [HP.out, hpf]; simp
              · have h5 := ownsRow_base hown5 hw2
                rw [List.eraseIdx_eq_take_drop_succ, List.map_append]
                rw [show m - 1 = 0 + i + (m - (i + 1)) from by omega]
                simpa using h5
              · rw [List.map_append, show (ys ++ [nth xs i]).length = ys.length + 1 from by simp]
                exact ownsRow_keep hown3 (fun g' hg' => (hown3.lt g' hg').2) hb24
              · have h6 := (hown3.lt g' e.symm).2
                have h7 := (hown5.lt g' hg').1
                omega
            case measure => omega
        · have hm00 : m = 0 := by omega
          subst hm00
          have hsh : ∃ ao cp, u5 = .slice ao 0 cp := by
            rcases hl.2 with ⟨e, _⟩ | ⟨g, cap, cur, e, _⟩
            · exact ⟨none, 0, e⟩
            · exact ⟨_, cap, e⟩
          obtain ⟨ao, cp, rfl⟩ := hsh
          go_wp2_with fail
          go_ret
          refine ⟨u6, rfl, ?_, hbel⟩
          have := HP.out
          rw [permF, List.append_nil] at this
          rw [this]
          exact ownsRow_ints ho

end Go.Proofs.Ytllddidjiabegaa

/- Permutations and keys, both sides. -/
set_option linter.unusedVariables false
set_option linter.unusedSimpArgs false
namespace Go.Proofs.Ytllddidjiabegaa
open Go.RowKit

/-- all cells of n elements of sz cells. -/
def flat (n sz : Nat) (c : Nat → Nat → Value) : List Value := (List.range (n * sz)).map fun q => c (q / sz) (q % sz)
theorem flat_len (n sz : Nat) (c : Nat → Nat → Value) : (flat n sz c).length = n * sz := by simp [flat]
theorem flat_at {n sz : Nat} {c : Nat → Nat → Value} {q : Nat} {u : Value} (h : (flat n sz c)[q]? = some u) : q < n * sz ∧ u = c (q / sz) (q % sz) := by
  have hq : q < n * sz := by have := (List.getElem?_eq_some_iff.1 h).1; simpa [flat] using this
  refine ⟨hq, ?_⟩
  simp [flat, hq] at h
  exact h.symm
theorem flat_get {n sz : Nat} {c : Nat → Nat → Value} {q : Nat} (h : q < n * sz) : (flat n sz c)[q]? = some (c (q / sz) (q % sz)) := by simp [flat, h]
theorem flat_congr {n sz : Nat} {c d : Nat → Nat → Value} (h : ∀ i j, i < n → j < sz → c i j = d i j) : flat n sz c = flat n sz d := by
  unfold flat
  refine List.map_congr_left fun q hq => ?_
  have hq' : q < n * sz := List.mem_range.1 hq
  have hs : 0 < sz := Nat.pos_of_ne_zero (by rintro rfl; simp at hq')
  exact h _ _ (Nat.div_lt_of_lt_mul (by rwa [Nat.mul_comm])) (Nat.mod_lt _ hs)
theorem flat_ints (l : List Int) : flat l.length 1 (fun i _ => .int .i64 (nth l i)) = l.map (Value.int .i64) := by
  apply List.ext_getElem (by simp [flat])
  intro i h1 h2
  have h3 : i < l.length := by simpa using h2
  simp [flat, nth, List.getD, h3]

/-- is a number in a list: simp does not look into it. -/
def hasI (l : List Int) (x : Int) : Bool := l.contains x
theorem hasI_mem {l : List Int} {x : Int} : hasI l x = true ↔ x ∈ l := by simp [hasI]

/-- the source of an append. -/
theorem SlAt.src {w : World} {v : Value} {n sz : Nat} {c : Nat → Nat → Value} (h : SlAt w v n sz c) : ∃ ao cap, v = .slice ao n cap ∧ n ≤ cap ∧ cap ≤ maxLen ∧
    ∀ W : World, Below w.heap.size w W → ((ao = none ∧ n = 0 ∧ cap = 0) ∨ ∃ ad, ao = some ad ∧ ∀ q u, (flat n sz c)[q]? = some u → W.cell? (ad.add q) = some u) := by
  obtain ⟨ao, cap, rfl, h1, h2, h3, h4⟩ := h
  refine ⟨ao, cap, rfl, h1, h2, fun W hW => ?_⟩
  by_cases hn : 0 < n
  · obtain ⟨b, off, e, hlt, hc⟩ := h3 hn
    refine Or.inr ⟨_, e, fun q u hq => ?_⟩
    obtain ⟨hq1, rfl⟩ := flat_at hq
    have hs : 0 < sz := Nat.pos_of_ne_zero (by rintro rfl; simp at hq1)
    have hi : q / sz < n := Nat.div_lt_of_lt_mul (by rwa [Nat.mul_comm])
    rw [add_plain', ← hc (q / sz) (q % sz) hi (Nat.mod_lt _ hs), show off + q / sz * sz + q % sz = off + q from by rw [Nat.add_assoc, Nat.mul_comm, Nat.div_add_mod]]
    exact hW.cell (p := ⟨b, off + q, none⟩) hlt
  · have hn0 : n = 0 := by omega
    subst hn0
    cases ao with
    | none => exact Or.inl ⟨rfl, rfl, h4 rfl⟩
    | some ad => exact Or.inr ⟨ad, rfl, fun q u hq => absurd (flat_at hq).1 (by omega)⟩

theorem IntsAt.src {w : World} {v : Value} {l : List Int} (h : IntsAt w v l) : ∃ ao cap, v = .slice ao l.length cap ∧ l.length ≤ cap ∧ cap ≤ maxLen ∧
    ∀ W : World, Below w.heap.size w W → ((ao = none ∧ l.length = 0 ∧ cap = 0) ∨ ∃ ad, ao = some ad ∧ ∀ q u, (l.map (Value.int .i64))[q]? = some u → W.cell? (ad.add q) = some u) := by
  have := SlAt.src h
  rwa [show flat l.length 1 (fun i _ => Value.int .i64 (l.getD i 0)) = l.map (Value.int .i64) from flat_ints l] at this

/-- the first part of a slice of ints. -/
theorem intsAt_take {w : World} {l : List Int} {b off cap k : Nat} (hc : ∀ i, i < l.length → w.cell? ⟨b, off + i, none⟩ = some (.int .i64 (nth l i))) (hb : b < w.heap.size) (hk : k ≤ l.length) (h1 : l.length ≤ cap) (h2 : cap ≤ maxLen) :
    IntsAt w (.slice (some ⟨b, off, none⟩) k cap) (l.take k) := by
  have hl : (l.take k).length = k := by simp; omega
  refine ⟨some ⟨b, off, none⟩, cap, by rw [hl], by omega, h2, fun _ => ⟨b, off, rfl, hb, fun i j hi hj => ?_⟩, fun h => by cases h⟩
  rw [hl] at hi
  obtain rfl : j = 0 := by omega
  show w.cell? _ = some (.int .i64 (nth (l.take k) i))
  rw [nth_take hi]
  simpa using hc i (by omega)

theorem contains_take_succ {l : List Int} {k : Nat} (h : k < l.length) (x : Int) : hasI (l.take (k + 1)) x = (hasI (l.take k) x || nth l k == x) := by
  rw [take_nth h, Bool.eq_iff_iff, Bool.or_eq_true, hasI_mem, hasI_mem, List.mem_append, List.mem_singleton, beq_iff_eq, eq_comm (a := x)]

theorem slices_Index (l : List Int) (v : Value) (x : Int) (w : World) (h : IntsAt w v l) :
    Calls Try.prog 146 #[v, .int .i64 x] w fun e w' => ∃ r : Int, e = .returned (.int .i64 r) ∧ decide (0 ≤ r) = hasI l x ∧ w = w' := by
  obtain ⟨ao, cap, rfl, h1, h2, h3⟩ := h.opn
  unfold maxLen at h2
  go_enter Try.func146, Try.ntmps146
  go_wp2_with fail
  go_loop [8] (fun i => ∃ k : Nat, k ≤ l.length ∧ i = .int .i64 k ∧ Hid (hasI (l.take k) x = false)) (fun i => l.length - (intOf i).toNat)
  case atStart => exact ⟨0, Nat.zero_le _, rfl, hid (by simp [hasI])⟩
  case round =>
    obtain ⟨k, hk, rfl, HZ⟩ := hrel
    by_cases hlt : k < l.length
    · obtain ⟨b, off, rfl, hb, hc⟩ := h3 k hlt
      have hck := hc k hlt
      obtain ⟨y, hy⟩ : ∃ y, y = nth l k := ⟨_, rfl⟩
      rw [← hy] at hck
      have HY := hid hy
      clear hc h3 hy
      cases ht : (x == y)
      · have HT := hid ht
        go_wp2_with fail
        go_round
        case rel => exact ⟨k + 1, by omega, by go_num, hid (by rw [contains_take_succ hlt, HZ.out, ← HY.out]; have := HT.out; simp at this ⊢; exact fun h => this h.symm)⟩
        case measure => simp [intOf]; omega
      · have HT := hid ht
        go_wp2_with fail
        go_ret
        refine ⟨k, rfl, ?_, rfl⟩
        have hxy : x = y := by simpa using HT.out
        have : x ∈ l := by rw [hxy, HY.out, nth_lt hlt]; exact List.getElem_mem _
        simp [hasI, this]
    · have hkl : k = l.length := by omega
      subst hkl
      go_wp2_with fail
      go_ret
      refine ⟨-1, rfl, ?_, rfl⟩
      have := HZ.out
      rw [List.take_length] at this
      rw [this]; rfl

theorem slices_Contains (l : List Int) (v : Value) (x : Int) (w : World) (h : IntsAt w v l) :
    Calls Try.prog 114 #[v, .int .i64 x] w fun e w' => e = .returned (.bool (hasI l x)) ∧ w = w' := by
  go_enter Try.func114, Try.ntmps114
  go_wp2_with (go_at_call 146; refine (slices_Index _ _ _ _ h).mono ?_; rintro _ _ ⟨r, rfl, hr, rfl⟩)
  go_ret
  exact ⟨ret_bool (by rw [← hr]), rfl⟩

theorem base_Has (l : List Int) (v : Value) (x : Int) (w : World) (h : IntsAt w v l) :
    Calls Try.prog 115 #[v, .int .i64 x] w fun e w' => e = .returned (.bool (hasI l x)) ∧ w = w' := by
  obtain ⟨ao, cap, rfl, h1, h2, h3⟩ := h.opn
  unfold maxLen at h2
  go_enter Try.func115, Try.ntmps115
  go_wp2_with fail
  go_loop [5] (fun i => ∃ k : Nat, k ≤ l.length ∧ i = .int .i64 k ∧ Hid (hasI (l.take k) x = false)) (fun i => l.length - (intOf i).toNat)
  case atStart => exact ⟨0, Nat.zero_le _, rfl, hid (by simp [hasI])⟩
  case round =>
    obtain ⟨k, hk, rfl, HZ⟩ := hrel
    by_cases hlt : k < l.length
    · obtain ⟨b, off, rfl, hb, hc⟩ := h3 k hlt
      have hck := hc k hlt
      obtain ⟨y, hy⟩ : ∃ y, y = nth l k := ⟨_, rfl⟩
      rw [← hy] at hck
      have HY := hid hy
      clear hc h3 hy
      cases ht : (y == x)
      · have HT := hid ht
        go_wp2_with fail
        go_round
        case rel => exact ⟨k + 1, by omega, by go_num, hid (by rw [contains_take_succ hlt, HZ.out, ← HY.out, HT.out]; rfl)⟩
        case measure => simp [intOf]; omega
      · have HT := hid ht
        go_wp2_with fail
        go_ret
        refine ⟨ret_bool ?_, rfl⟩
        have hxy : y = x := by simpa using HT.out
        have : x ∈ l := by rw [← hxy, HY.out, nth_lt hlt]; exact List.getElem_mem _
        simp [hasI, this]
    · have hkl : k = l.length := by omega
      subst hkl
      go_wp2_with fail
      go_ret
      refine ⟨ret_bool ?_, rfl⟩
      have := HZ.out
      rw [List.take_length] at this
      rw [this]

/-- the same numbers. -/
theorem base_Ints (l m : List Int) (v u : Value) (w : World) (h : IntsAt w v l) (h' : IntsAt w u m) :
    Calls Try.prog 21 #[v, u] w fun e w' => e = .returned (.bool (decide (l = m))) ∧ ∃ k, w' = w.drewN k := by
  obtain ⟨ao, cap, rfl, h1, h2, h3⟩ := h.opn
  obtain ⟨ao', cap', rfl, h1', h2', h3'⟩ := h'.opn
  unfold maxLen at h2 h2'
  by_cases hlen : l.length = m.length
  · rw [← hlen] at h3' h1' ⊢
    have HLEN := hid hlen
    clear hlen h h'
    go_enter Try.func21, Try.ntmps21
    go_wp2_with fail
    go_loopw [5] (fun i wr => ∃ k : Nat, k ≤ l.length ∧ i = .int .i64 k ∧ Hid (l.take k = m.take k) ∧ ∃ q, wr = w.drewN q) (fun i _ => l.length - (intOf i).toNat)
    case atStart => exact ⟨0, Nat.zero_le _, rfl, hid (by simp), 0, rfl⟩
    case round =>
      obtain ⟨k, hk, rfl, HZ, q, rfl⟩ := hrel
      by_cases hlt : k < l.length
      · obtain ⟨b, off, rfl, hb, hc⟩ := h3 k hlt
        obtain ⟨b', off', rfl, hb', hc'⟩ := h3' k hlt
        have hck := hc k hlt
        have hck' := hc' k hlt
        obtain ⟨y, hy⟩ : ∃ y, y = nth l k := ⟨_, rfl⟩
        obtain ⟨y', hy'⟩ : ∃ y', y' = nth m k := ⟨_, rfl⟩
        rw [← hy] at hck
        rw [← hy'] at hck'
        have HY := hid hy
        have HY' := hid hy'
        clear hc h3 hc' h3' hy hy'
        cases ht : (y != y')
        · have HT := hid ht
          go_wp2_with fail
          ((refine wp_three [] [0, 1, 2, 3, 4, 5, 6, 7] 8 (by kernel_rfl) (by kernel_rfl) ?_); (intro _ _); (simp only [pick, List.drop_succ_cons, List.drop_zero, List.head?_cons, Option.toList_some, List.cons_append, List.nil_append]); (repeat (first | (go_big_quiet_step (fail)) | (quiet_step (fail)))); (try refine wpQuiet_nil ?_); (repeat (first | (go_big_quiet_step (fail)) | (quiet_step (fail)))); (try refine wpQuiet_nil ?_); (intro nq))
          go_wp2
          go_roundw
          case rel =>
            refine ⟨k + 1, by omega, by go_num, hid ?_, q + nq, by simp⟩
            have : y = y' := by simpa using HT.out
            rw [take_nth hlt, take_nth (by have := HLEN.out; omega), HZ.out, ← HY.out, ← HY'.out, this]
          case measure => simp [intOf]; omega
        · have HT := hid ht
          go_wp2_with fail
          ((refine wp_three [] [0, 1, 2, 3, 4, 5, 6, 7] 8 (by kernel_rfl) (by kernel_rfl) ?_); (intro _ _); (simp only [pick, List.drop_succ_cons, List.drop_zero, List.head?_cons, Option.toList_some, List.cons_append, List.nil_append]); (repeat (first | (go_big_quiet_step (fail)) | (quiet_step (fail)))); (try refine wpQuiet_nil ?_); (repeat (first | (go_big_quiet_step (fail)) | (quiet_step (fail)))); (try refine wpQuiet_nil ?_); (intro nq))
          go_wp2
          go_ret
          refine ⟨ret_bool ?_, q + nq, by simp⟩
          have hne : y ≠ y' := by simpa using HT.out
          have : l ≠ m := fun e => hne (by rw [HY.out, HY'.out, e])
          simp [this]
      · have hkl : k = l.length := by omega
        subst hkl
        go_wp2_with fail
        go_ret
        refine ⟨ret_bool ?_, q, rfl⟩
        have := HZ.out
        rw [List.take_length, HLEN.out, List.take_length] at this
        simp [this]
  · have hne : ¬ ((l.length : Int) = (m.length : Int)) := by omega
    go_enter Try.func21, Try.ntmps21
    go_wp2_with fail
    go_ret
    refine ⟨ret_bool ?_, 0, rfl⟩
    have : l ≠ m := fun e => hlen (by rw [e])
    simp [this]

set_option maxRecDepth 100000 in
theorem base_CopyInts (l : List Int) (v : Value) (w : World) (h : IntsAt w v l) (hl : l.length ≤ 100) :
    Calls Try.prog 62 #[v] w (RetInts w l) := by
  obtain ⟨ao, cap, rfl, h1, h2, h3⟩ := h.src
  have HE : (w.alloc (.cells #[] 3)).ownsRow w.heap.size 3 1 (.slice (some ⟨w.heap.size, 0, none⟩) 0 0) 0 [] := ownsRow_empty w elemInt
  have HS := h3 (w.alloc (.cells #[] 3)) ((Below.refl _ _).alloc (Nat.le_refl _) _)
  have H3 := hid h3
  clear h3
  go_enter Try.func62, Try.ntmps62
  go_wp2_with (at_builtin; go_must (refine wpList_append_list rfl (.tmp 3) (.tmp 4) _ rfl elemInt w.heap.size (.slice (some ⟨w.heap.size, 0, none⟩) 0 0) 0 [] rfl HE ao l.length cap (l.map (Value.int .i64)) rfl (by simp) (ints_oneCell' _) HS (by omega) (by unfold maxLen; omega) (by simp) ?_); intro v3 w3 hown4 hp4 _)
  go_ret
  refine ⟨v3, rfl, ?_, ((Below.refl _ _).alloc (Nat.le_refl _) _).trans hp4.below⟩
  rw [Nat.zero_add, List.nil_append] at hown4
  exact ownsRow_ints hown4

end Go.Proofs.Ytllddidjiabegaa

/- Plain laws of permutations and keys. No program in sight. -/
set_option linter.unusedVariables false
set_option linter.unusedSimpArgs false
namespace Go.Proofs.Ytllddidjiabegaa
open Go.RowKit

def cntL (x : Int) (r : List Int) : Nat := r.countP (fun y => decide (y < x))
def keyN : List Int → Nat
  | [] => 0
  | x :: r => cntL x r + (r.length + 1) * keyN r

theorem keyN_lt (p : List Int) : keyN p < fac p.length := by
  induction p with
  | nil => decide
  | cons x r ih =>
    have h1 : cntL x r ≤ r.length := List.countP_le_length
    simp only [keyN, List.length_cons, fac]
    have h2 : (r.length + 1) * keyN r + (r.length + 1) ≤ (r.length + 1) * fac r.length := by
      rw [← Nat.mul_succ]; exact Nat.mul_le_mul_left _ ih
    omega

theorem cntL_perm {x : Int} {r s : List Int} (h : r.Perm s) : cntL x r = cntL x s := h.countP_eq _

theorem cntL_erase {xs : List Int} {i : Nat} (hs : xs.Pairwise (· < ·)) (hi : i < xs.length) : cntL (nth xs i) (xs.eraseIdx i) = i := by
  rw [nth_lt hi, List.eraseIdx_eq_take_drop_succ]
  unfold cntL
  rw [List.countP_append]
  have h1 : (xs.take i).countP (fun y => decide (y < xs[i])) = i := by
    have e : (xs.take i).length = i := by simp; omega
    conv => rhs; rw [← e]
    rw [List.countP_eq_length]
    intro y hy
    obtain ⟨k, hk, rfl⟩ := List.mem_iff_getElem.1 hy
    have hk' : k < i := by simp at hk; omega
    rw [List.getElem_take]
    exact decide_eq_true (List.pairwise_iff_getElem.1 hs k i (by omega) hi hk')
  have h2 : (xs.drop (i + 1)).countP (fun y => decide (y < xs[i])) = 0 := by
    rw [List.countP_eq_zero]
    intro y hy
    obtain ⟨k, hk, rfl⟩ := List.mem_iff_getElem.1 hy
    rw [List.getElem_drop]
    have := List.pairwise_iff_getElem.1 hs i (i + 1 + k) hi (by simp at hk; omega) (by omega)
    simp; omega
  omega

theorem erase_perm {xs : List Int} {i : Nat} (hi : i < xs.length) : (nth xs i :: xs.eraseIdx i).Perm xs := by
  rw [List.eraseIdx_eq_take_drop_succ]
  refine List.perm_middle.symm.trans ?_
  rw [← cut_nth hi]

theorem erase_len {xs : List Int} {i m : Nat} (hx : xs.length = m + 1) (hi : i < m + 1) : (xs.eraseIdx i).length = m := by
  rw [List.length_eraseIdx, if_pos (by omega)]; omega

theorem permF_perm : ∀ (m : Nat) (xs : List Int) (q : Nat), xs.length = m → (permF m xs q).Perm xs := by
  intro m
  induction m with
  | zero => intro xs q h; rw [List.eq_nil_of_length_eq_zero h]; exact List.Perm.refl _
  | succ m ih =>
    intro xs q h
    have hi : q % (m + 1) < m + 1 := Nat.mod_lt _ (by omega)
    show (nth xs (q % (m + 1)) :: permF m (xs.eraseIdx (q % (m + 1))) (q / (m + 1))).Perm xs
    exact ((ih _ _ (erase_len h hi)).cons _).trans (erase_perm (by omega))

theorem keyN_permF : ∀ (m : Nat) (xs : List Int) (q : Nat), xs.length = m → xs.Pairwise (· < ·) → q < fac m → keyN (permF m xs q) = q := by
  intro m
  induction m with
  | zero => intro xs q h _ hq; simp [fac] at hq; subst hq; rfl
  | succ m ih =>
    intro xs q h hs hq
    have hi : q % (m + 1) < m + 1 := Nat.mod_lt _ (by omega)
    have hl := erase_len h hi
    show keyN (nth xs (q % (m + 1)) :: permF m (xs.eraseIdx (q % (m + 1))) (q / (m + 1))) = q
    have hp := permF_perm m (xs.eraseIdx (q % (m + 1))) (q / (m + 1)) hl
    have hq' : q / (m + 1) < fac m := Nat.div_lt_of_lt_mul (by simpa [fac] using hq)
    simp only [keyN]
    rw [cntL_perm hp, cntL_erase hs (by omega), hp.length_eq, hl, ih _ _ hl (hs.sublist (List.eraseIdx_sublist ..)) hq']
    exact Nat.mod_add_div _ _

theorem permF_keyN : ∀ (m : Nat) (xs p : List Int), xs.length = m → xs.Pairwise (· < ·) → p.Perm xs → permF m xs (keyN p) = p := by
  intro m
  induction m with
  | zero =>
    intro xs p h _ hp
    obtain rfl : p = [] := List.eq_nil_of_length_eq_zero (by rw [hp.length_eq, h])
    rfl
  | succ m ih =>
    intro xs p h hs hp
    cases p with
    | nil => have := hp.length_eq; simp at this; omega
    | cons x r =>
      have hx : x ∈ xs := hp.subset (by simp)
      obtain ⟨i, hi, hxi⟩ := List.mem_iff_getElem.1 hx
      have hxn : x = nth xs i := by rw [nth_lt hi, hxi]
      have hr : r.Perm (xs.eraseIdx i) := by
        have h1 := hp.trans (erase_perm hi).symm
        rw [← hxn] at h1
        exact h1.cons_inv
      have hl := erase_len h (by omega : i < m + 1)
      have hrl : r.length = m := by rw [hr.length_eq, hl]
      have hk : keyN (x :: r) = i + (m + 1) * keyN r := by
        simp only [keyN]
        rw [cntL_perm hr, hxn, cntL_erase hs hi, hrl]
      have e1 : keyN (x :: r) % (m + 1) = i := by rw [hk, Nat.add_mul_mod_self_left, Nat.mod_eq_of_lt (by omega)]
      have e2 : keyN (x :: r) / (m + 1) = keyN r := by rw [hk, Nat.add_mul_div_left _ _ (by omega), Nat.div_eq_of_lt (by omega), Nat.zero_add]
      show nth xs (keyN (x :: r) % (m + 1)) :: permF m (xs.eraseIdx (keyN (x :: r) % (m + 1))) (keyN (x :: r) / (m + 1)) = x :: r
      rw [e1, e2, ← hxn, ih _ _ hl (hs.sublist (List.eraseIdx_sublist ..)) hr]

theorem upN_sorted (n : Nat) : (upN n).Pairwise (· < ·) := by
  rw [List.pairwise_iff_getElem]
  intro i j hi hj h
  simp [upN]; omega

theorem perm_of_sub : ∀ (p ys : List Int), p.Nodup → (∀ x ∈ p, x ∈ ys) → ys.length ≤ p.length → p.Perm ys := by
  intro p
  induction p with
  | nil => intro ys _ _ h; obtain rfl : ys = [] := List.eq_nil_of_length_eq_zero (by simpa using h); exact List.Perm.refl _
  | cons x r ih =>
    intro ys hn hs hl
    have hx : x ∈ ys := hs x (by simp)
    have h1 : ys.Perm (x :: ys.erase x) := List.perm_cons_erase hx
    obtain ⟨hxr, hnr⟩ := List.nodup_cons.1 hn
    refine List.Perm.trans ((ih (ys.erase x) hnr (fun y hy => ?_) ?_).cons x) h1.symm
    · exact (List.mem_erase_of_ne (fun e => hxr (by rw [← e]; exact hy))).2 (hs y (by simp [hy]))
    · have := h1.length_eq; simp at this hl ⊢; omega

theorem mem_upN {x : Int} {n : Nat} : x ∈ upN n ↔ 0 ≤ x ∧ x < n := by
  simp only [upN, List.mem_map, List.mem_range]
  constructor
  · rintro ⟨a, h, rfl⟩; omega
  · intro h; exact ⟨x.toNat, by omega, by omega⟩

/-- the error at a place of a would-be permutation. -/
def permAt (p : List Int) (i : Nat) : Int := if inB (nth p i) 0 ((p.length : Int) - 1) = true then (if hasI (p.take i) (nth p i) = true then 23 else 0) else 6
def scan (f : Nat → Int) (n : Nat) : Int := firstNZ ((List.range n).map f)
theorem scan_end {f : Nat → Int} {n : Nat} (h : ∀ j, j < n → f j = 0) : scan f n = 0 := by
  unfold scan
  rw [firstNZ_zero]
  intro x hx
  obtain ⟨j, hj, rfl⟩ := List.mem_map.1 hx
  exact h j (List.mem_range.1 hj)
theorem scan_zero {f : Nat → Int} {n : Nat} (h : scan f n = 0) : ∀ j, j < n → f j = 0 := by
  unfold scan at h
  rw [firstNZ_zero] at h
  exact fun j hj => h _ (List.mem_map.2 ⟨j, List.mem_range.2 hj, rfl⟩)
theorem scan_at {f : Nat → Int} {n k : Nat} (h : ∀ j, j < k → f j = 0) (hk : k < n) (hne : f k ≠ 0) : scan f n = f k := by
  unfold scan
  obtain ⟨m, rfl⟩ : ∃ m, n = k + (m + 1) := ⟨n - k - 1, by omega⟩
  rw [List.range_add, List.map_append, firstNZ_append_zero]
  · rw [List.range_succ_eq_map]
    simp [firstNZ, hne]
  · intro x hx
    obtain ⟨j, hj, rfl⟩ := List.mem_map.1 hx
    exact h j (List.mem_range.1 hj)
def permErr (p : List Int) : Int := if 12 < p.length then 8 else scan (permAt p) p.length

theorem permErr_ok {p : List Int} (h : permErr p = 0) : p.length ≤ 12 ∧ p.Perm (upN p.length) := by
  unfold permErr at h
  split at h
  · cases h
  · refine ⟨by omega, ?_⟩
    have hz := scan_zero h
    have hz1 : ∀ j, j < p.length → inB (nth p j) 0 ((p.length : Int) - 1) = true ∧ hasI (p.take j) (nth p j) = false := by
      intro j hj
      have := hz j hj
      unfold permAt at this
      split at this
      · rename_i h1
        split at this
        · cases this
        · rename_i h2; exact ⟨h1, by simpa using h2⟩
      · cases this
    refine perm_of_sub _ _ ?_ ?_ (by simp [upN])
    · unfold List.Nodup
      rw [List.pairwise_iff_getElem]
      intro i j hi hj hij e
      have h2 := (hz1 j hj).2
      rw [nth_lt hj] at h2
      have h3 : p[j] ∈ p.take j := by rw [← e]; exact List.mem_take_iff_getElem.2 ⟨i, by omega, rfl⟩
      rw [hasI_mem.2 h3] at h2
      cases h2
    · intro x hx
      obtain ⟨j, hj, rfl⟩ := List.mem_iff_getElem.1 hx
      have := inB_true.1 (hz1 j hj).1
      rw [nth_lt hj] at this
      exact mem_upN.2 (by omega)

theorem perm_len (n k : Nat) : (perm n k).length = n := by
  have := (permF_perm n (upN n) k (upN_len n)).length_eq
  rw [upN_len] at this
  exact this
theorem perm_perm (n k : Nat) : (perm n k).Perm (upN n) := permF_perm n (upN n) k (upN_len n)
theorem key_perm {n k : Nat} (h : k < fac n) : keyN (perm n k) = k := keyN_permF n (upN n) k (upN_len n) (upN_sorted n) h
theorem perm_key {p : List Int} (h : p.Perm (upN p.length)) : perm p.length (keyN p) = p := permF_keyN _ _ _ (upN_len _) (upN_sorted _) h
theorem permErr_perm {p : List Int} (h12 : p.length ≤ 12) (h : p.Perm (upN p.length)) : permErr p = 0 := by
  unfold permErr
  rw [if_neg (by omega)]
  refine scan_end fun j hj => ?_
  have hm : p[j] ∈ upN p.length := h.subset (List.getElem_mem hj)
  have hb := mem_upN.1 hm
  have h1 : inB (nth p j) 0 ((p.length : Int) - 1) = true := by rw [nth_lt hj, inB_true]; omega
  have hnd : p.Nodup := h.nodup_iff.2 ((upN_sorted _).imp fun {a b} hab e => by omega)
  have h2 : hasI (p.take j) (nth p j) = false := by
    rw [nth_lt hj]
    cases e : hasI (p.take j) p[j] with
    | false => rfl
    | true =>
      have hm2 : p[j] ∈ p.take j := hasI_mem.1 e
      obtain ⟨i, hi, he⟩ := List.mem_take_iff_getElem.1 hm2
      have := List.pairwise_iff_getElem.1 hnd i j (by omega) hj (by omega)
      exact absurd he this
  simp only [permAt, h1, h2]; simp

theorem cntL_take {p : List Int} {x : Int} {k : Nat} (h : k < p.length) : cntL x (p.take (k + 1)) = cntL x (p.take k) + (if nth p k < x then 1 else 0) := by
  rw [take_nth h]
  unfold cntL
  rw [List.countP_append]
  by_cases e : nth p k < x <;> simp [e]

/-- the key so far, and the weight of the next digit. -/
def wgt (n : Nat) : Nat → Nat
  | 0 => 1
  | k + 1 => wgt n k * (n - k)
theorem wgt_fac {n : Nat} : ∀ k, k ≤ n → wgt n k * fac (n - k) = fac n := by
  intro k
  induction k with
  | zero => intro _; simp [wgt]
  | succ k ih =>
    intro h
    have h1 := ih (by omega)
    obtain ⟨m, hm⟩ : ∃ m, n - k = m + 1 := ⟨n - k - 1, by omega⟩
    rw [hm] at h1
    simp only [wgt]
    rw [hm, show n - (k + 1) = m from by omega, Nat.mul_assoc]
    exact h1
theorem wgt_le {n k : Nat} (h : k ≤ n) : wgt n k ≤ fac n := by
  rw [← wgt_fac k h]; exact Nat.le_mul_of_pos_right _ (fac_pos _)
def kUp (p : List Int) : Nat → Nat
  | 0 => 0
  | k + 1 => kUp p k + cntL (nth p k) (p.drop (k + 1)) * wgt p.length k
theorem kUp_keyN {p : List Int} : ∀ k, k ≤ p.length → kUp p k + wgt p.length k * keyN (p.drop k) = keyN p := by
  intro k
  induction k with
  | zero => intro _; simp [kUp, wgt]
  | succ k ih =>
    intro h
    have h1 := ih (by omega)
    have h2 : p.drop k = nth p k :: p.drop (k + 1) := by rw [nth_lt (by omega)]; exact List.drop_eq_getElem_cons (by omega)
    rw [h2] at h1
    simp only [keyN] at h1
    rw [← h1]
    simp only [kUp, wgt]
    rw [show (p.drop (k + 1)).length + 1 = p.length - k from by simp; omega, Nat.mul_add, Nat.mul_assoc, Nat.mul_comm (wgt _ _) (cntL _ _)]
    omega
theorem kUp_end (p : List Int) : kUp p p.length = keyN p := by
  have := kUp_keyN (p := p) p.length (Nat.le_refl _)
  simpa [keyN] using this
theorem kUp_le {p : List Int} {k : Nat} (h : k ≤ p.length) : kUp p k ≤ keyN p := by
  have := kUp_keyN (p := p) k h
  omega
theorem fac_le12 {n : Nat} (h : n ≤ 12) : fac n ≤ 479001600 := by
  have : ∀ m : Fin 13, fac m.val ≤ 479001600 := by decide
  exact this ⟨n, by omega⟩
theorem nth_dropped (p : List Int) (i j : Nat) : nth (p.drop i) j = nth p (i + j) := nth_drop p i j

end Go.Proofs.Ytllddidjiabegaa

/- Contracts of permutations and keys. -/
set_option linter.unusedVariables false
set_option linter.unusedSimpArgs false
namespace Go.Proofs.Ytllddidjiabegaa
open Go.RowKit

/-- the call returns a slice that reads as a list, and an error, and leaves old memory alone. -/
def RetIntsE (w : World) (l : List Int) (n : Int) (e : Ending) (w' : World) : Prop := ∃ v, e = .returned (.tuple #[v, .int .i64 n]) ∧ IntsAt w' v l ∧ Below w.heap.size w w'

def pofErr (c k : Int) : Int := if inB c 0 12 = true then keyErrS c k else 2
def pofList (c k : Int) : List Int := if pofErr c k = 0 then perm c.toNat k.toNat else []

theorem IntsAt.drewN {w : World} {v : Value} {l : List Int} (k : Nat) (h : IntsAt w v l) : IntsAt (w.drewN k) v l := h.below (Below.drewN k (Below.refl _ _))

set_option maxRecDepth 100000 in
theorem blind_PermutationOf (c k : Int) (w : World) :
    Calls Try.prog 60 #[.int .i64 c, .int .i64 k] w (RetIntsE w (pofList c k) (pofErr c k)) := by
  cases hb : inB c 0 12
  · have HB := hid hb
    go_enter Try.func60, Try.ntmps60
    go_wp2_with (go_at_call 77; refine (blind_within _ _ _ _).mono ?_; rintro _ _ ⟨rfl, rfl⟩)
    go_ret2
    have h1 : pofErr c k = 2 := by simp [pofErr, HB.out]
    rw [h1, show pofList c k = [] from by simp [pofList, h1]]
    exact ⟨_, rfl, IntsAt.nil _, Below.refl _ _⟩
  · have hc := inB_true.1 hb
    have HB := hid hb
    obtain ⟨n, rfl⟩ : ∃ n : Nat, c = n := ⟨c.toNat, by omega⟩
    have hl := facI_le (n := (n : Int)) (by omega)
    cases hk : inB k 0 (facI n - 1)
    · have HK := hid hk
      have h1 : keyErrS n k = 2 := by simp [keyErrS, hk, unl]
      have h2 := blind_keyErr (n : Int) k w (by omega)
      rw [h1] at h2
      go_enter Try.func60, Try.ntmps60
      go_wp2_with (first | (go_at_call 77; refine (blind_within _ _ _ _).mono ?_; rintro _ _ ⟨rfl, rfl⟩) | (go_at_call 112; refine (h2).mono ?_; rintro _ _ ⟨rfl, rfl⟩))
      go_ret2
      have h3 : pofErr n k = 2 := by simp [pofErr, HB.out, h1]
      rw [h3, show pofList n k = [] from by simp [pofList, h3]]
      exact ⟨_, rfl, IntsAt.nil _, Below.refl _ _⟩
    · have hk' := inB_true.1 hk
      obtain ⟨m, rfl⟩ : ∃ m : Nat, k = m := ⟨k.toNat, by omega⟩
      have h1 : keyErrS n m = 0 := by simp [keyErrS, hk, unl]
      have h2 := blind_keyErr (n : Int) m w (by omega)
      rw [h1] at h2
      have hn12 : n ≤ 12 := by omega
      have hm12 : m ≤ 479001600 := by omega
      go_enter Try.func60, Try.ntmps60
      go_wp2_with (first | (go_at_call 77; refine (blind_within _ _ _ _).mono ?_; rintro _ _ ⟨rfl, rfl⟩) | (go_at_call 112; refine (h2).mono ?_; rintro _ _ ⟨rfl, rfl⟩) | (go_at_call 113; refine (blind_permutation n m _ hn12 hm12).mono ?_; rintro _ w1 ⟨v, rfl, hints, hb1⟩))
      go_ret2
      have h3 : pofErr n m = 0 := by simp [pofErr, HB.out, h1]
      rw [h3, show pofList n m = perm n m from by simp [pofList, h3]]
      exact ⟨_, rfl, hints, hb1⟩

set_option maxRecDepth 100000 in
theorem ref_PermutationErr (p : List Int) (v : Value) (w : World) (h : IntsAt w v p) :
    Calls Try.prog 64 #[v] w fun e w' => e = .returned (.int .i64 (permErr p)) ∧ ∃ k, w' = w.drewN k := by
  obtain ⟨ao, cap, rfl, h1, h2, h3⟩ := h.opn
  have H2 := hid h2
  unfold maxLen at h2
  by_cases hbig : 12 < p.length
  · go_enter Try.func64, Try.ntmps64
    go_wp2_with fail
    go_ret
    exact ⟨ret_int (by simp only [permErr]; rw [if_pos hbig]), 0, rfl⟩
  · go_enter Try.func64, Try.ntmps64
    go_wp2_with fail
    go_loopw [3] (fun i wr => ∃ k : Nat, k ≤ p.length ∧ i = .int .i64 k ∧ Hid (∀ j, j < k → permAt p j = 0) ∧ ∃ q, wr = w.drewN q) (fun i _ => p.length - (intOf i).toNat)
    case atStart => exact ⟨0, Nat.zero_le _, rfl, hid (fun j hj => by omega), 0, rfl⟩
    case round =>
      obtain ⟨k, hk, rfl, HZ, q, rfl⟩ := hrel
      by_cases hlt : k < p.length
      · obtain ⟨b, off, rfl, hb, hc⟩ := h3 k hlt
        have hck := hc k hlt
        have hT := intsAt_take hc hb hk h1 H2.out
        obtain ⟨y, hy⟩ : ∃ y, y = nth p k := ⟨_, rfl⟩
        obtain ⟨P, hP⟩ : ∃ P, P = p.take k := ⟨_, rfl⟩
        rw [← hy] at hck
        rw [← hP] at hT
        have HY := hid hy
        have HP := hid hP
        have HPA : Hid (permAt p k = if inB y 0 ((p.length : Int) - 1) = true then (if hasI P y = true then 23 else 0) else 6) := hid (by rw [hy, hP]; rfl)
        clear hc h3 hy hP h
        cases hin : inB y 0 ((p.length : Int) - 1)
        · have HIN := hid hin
          go_wp2_with (go_at_call 44; refine (base_Within _ _ _ _).mono ?_; rintro _ _ ⟨rfl, rfl⟩)
          go_ret
          refine ⟨ret_int ?_, q, rfl⟩
          have e : permAt p k = 6 := by rw [HPA.out]; simp [HIN.out]
          simp only [permErr]
          rw [if_neg hbig, scan_at HZ.out hlt (by rw [e]; decide), e]
        · have HIN := hid hin
          cases hh : hasI P y
          · have HH := hid hh
            go_wp2_with (go_at_call 44; refine (base_Within _ _ _ _).mono ?_; rintro _ _ ⟨rfl, rfl⟩)
            ((refine wp_three [] [0, 1, 2, 3, 4, 5, 6] 7 (by kernel_rfl) (by kernel_rfl) ?_); (intro _ _); (simp only [pick, List.drop_succ_cons, List.drop_zero, List.head?_cons, Option.toList_some, List.cons_append, List.nil_append]); (repeat (first | (go_big_quiet_step (fail)) | (quiet_step (fail)))); (try refine wpQuiet_nil ?_); (repeat (first | (go_big_quiet_step (fail)) | (quiet_step (fail)))); (try refine wpQuiet_nil ?_); (intro nq))
            go_wp2_with (go_at_call 115; refine (base_Has P _ _ _ (hT.drewN _)).mono ?_; rintro _ _ ⟨rfl, rfl⟩)
            go_roundw
            case rel =>
              refine ⟨k + 1, by omega, by go_num, hid (fun j hj => ?_), q + nq, by simp⟩
              rcases Nat.lt_or_ge j k with h | h
              · exact HZ.out j h
              · rw [show j = k from by omega, HPA.out]; simp [HIN.out, HH.out]
            case measure => simp [intOf]; omega
          · have HH := hid hh
            go_wp2_with (go_at_call 44; refine (base_Within _ _ _ _).mono ?_; rintro _ _ ⟨rfl, rfl⟩)
            ((refine wp_three [] [0, 1, 2, 3, 4, 5, 6] 7 (by kernel_rfl) (by kernel_rfl) ?_); (intro _ _); (simp only [pick, List.drop_succ_cons, List.drop_zero, List.head?_cons, Option.toList_some, List.cons_append, List.nil_append]); (repeat (first | (go_big_quiet_step (fail)) | (quiet_step (fail)))); (try refine wpQuiet_nil ?_); (repeat (first | (go_big_quiet_step (fail)) | (quiet_step (fail)))); (try refine wpQuiet_nil ?_); (intro nq))
            go_wp2_with (go_at_call 115; refine (base_Has P _ _ _ (hT.drewN _)).mono ?_; rintro _ _ ⟨rfl, rfl⟩)
            go_ret
            refine ⟨ret_int ?_, q + nq, by simp⟩
            have e : permAt p k = 23 := by rw [HPA.out]; simp [HIN.out, HH.out]
            simp only [permErr]
            rw [if_neg hbig, scan_at HZ.out hlt (by rw [e]; decide), e]
      · go_wp2_with fail
        go_ret
        refine ⟨ret_int ?_, q, rfl⟩
        simp only [permErr]
        rw [if_neg hbig, scan_end fun j hj => HZ.out j (by omega)]

set_option maxRecDepth 100000 in
theorem ref_Key (p : List Int) (v : Value) (w : World) (h : IntsAt w v p) (h12 : p.length ≤ 12) :
    Calls Try.prog 65 #[v] w fun e w' => e = .returned (.int .i64 (keyN p : Nat)) ∧ ∃ k, w' = w.drewN k := by
  obtain ⟨ao, cap, rfl, h1, h2, h3⟩ := h.opn
  have H2 := hid h2
  unfold maxLen at h2
  have hf := fac_le12 h12
  have hK := keyN_lt p
  go_enter Try.func65, Try.ntmps65
  go_wp2_with fail
  go_loopw [3, 4, 5] (fun o u i wr => ∃ k : Nat, k ≤ p.length ∧ o = .int .i64 (kUp p k : Nat) ∧ u = .int .i64 (wgt p.length k : Nat) ∧ i = .int .i64 k ∧ ∃ q, wr = w.drewN q) (fun _ _ i _ => p.length - (intOf i).toNat)
  case atStart => exact ⟨0, Nat.zero_le _, rfl, rfl, rfl, 0, rfl⟩
  case round =>
    obtain ⟨k, hk, rfl, rfl, rfl, q, rfl⟩ := hrel
    by_cases hlt : k < p.length
    · obtain ⟨b, off, rfl, hb, hc⟩ := h3 k hlt
      have hck := hc k hlt
      obtain ⟨x, hx⟩ : ∃ x, x = nth p k := ⟨_, rfl⟩
      rw [← hx] at hck
      obtain ⟨l, hl⟩ : ∃ l, l = p.drop (k + 1) := ⟨_, rfl⟩
      have hll : l.length + (k + 1) = p.length := by rw [hl]; simp; omega
      have HLC : Hid (∀ j, j < l.length → w.cell? ⟨b, off + ((k + 1) + j), none⟩ = some (.int .i64 (nth l j))) := hid (fun j hj => by rw [hl, nth_dropped]; exact hc _ (by omega))
      have d1 := kUp_le (p := p) (k := k + 1) (by omega)
      have d2 := wgt_le (n := p.length) (k := k) (by omega)
      have d3 := wgt_le (n := p.length) (k := k + 1) (by omega)
      have HK1 : Hid (kUp p (k + 1) = kUp p k + cntL x l * wgt p.length k) := hid (by rw [hx, hl]; rfl)
      have HW1 : Hid (wgt p.length (k + 1) = wgt p.length k * (p.length - k)) := hid rfl
      have HX := hid hx
      clear hc h3 hx hl h
      go_wp2_with fail
      obtain ⟨wo, rfl⟩ : ∃ wo : World, wo = w.drewN q := ⟨_, rfl⟩
      go_loopw [6, 7] (fun o i wr => ∃ j : Nat, j ≤ l.length ∧ o = .int .i64 (cntL x (l.take j) : Nat) ∧ i = .int .i64 ((k : Int) + 1 + (j : Int)) ∧ ∃ q, wr = w.drewN q) (fun _ i _ => p.length - (intOf i).toNat)
      case atStart => exact ⟨0, Nat.zero_le _, rfl, by simp, q, rfl⟩
      case round =>
        obtain ⟨j, hj, rfl, rfl, q2, rfl⟩ := hrel
        by_cases hl2 : j < l.length
        · have hcj := HLC.out j hl2
          have HCT := hid (cntL_take (x := x) hl2)
          obtain ⟨y, hy⟩ : ∃ y, y = nth l j := ⟨_, rfl⟩
          rw [← hy] at hcj HCT
          have d4 : cntL x (l.take j) ≤ 12 := Nat.le_trans List.countP_le_length (by simp; omega)
          have e1 : ((k : Int) + 1 + (j : Int)).toNat = k + 1 + j := by omega
          clear hy
          by_cases hxy : y < x
          · go_wp2_with fail
            ((refine wp_three [] [0, 1, 2, 3, 4, 5, 6, 7] 8 (by kernel_rfl) (by kernel_rfl) ?_); (intro _ _); (simp only [pick, List.drop_succ_cons, List.drop_zero, List.head?_cons, Option.toList_some, List.cons_append, List.nil_append]); (repeat (first | (go_big_quiet_step (fail)) | (quiet_step (fail)))); (try refine wpQuiet_nil ?_); (repeat (first | (go_big_quiet_step (fail)) | (quiet_step (fail)))); (try refine wpQuiet_nil ?_); (intro nq))
            go_wp2
            go_roundw
            case rel => exact ⟨j + 1, by omega, by rw [HCT.out, if_pos hxy]; go_num, by go_num, q2 + nq, by simp⟩
            case measure => simp [intOf]; omega
          · go_wp2_with fail
            ((refine wp_three [] [0, 1, 2, 3, 4, 5, 6, 7] 8 (by kernel_rfl) (by kernel_rfl) ?_); (intro _ _); (simp only [pick, List.drop_succ_cons, List.drop_zero, List.head?_cons, Option.toList_some, List.cons_append, List.nil_append]); (repeat (first | (go_big_quiet_step (fail)) | (quiet_step (fail)))); (try refine wpQuiet_nil ?_); (repeat (first | (go_big_quiet_step (fail)) | (quiet_step (fail)))); (try refine wpQuiet_nil ?_); (intro nq))
            go_wp2
            go_roundw
            case rel => exact ⟨j + 1, by omega, by rw [HCT.out, if_neg (by omega)]; go_num, by go_num, q2 + nq, by simp⟩
            case measure => simp [intOf]; omega
        · have hjl : j = l.length := by omega
          subst hjl
          rw [List.take_length]
          have d4 : cntL x l ≤ 12 := Nat.le_trans List.countP_le_length (by omega)
          obtain ⟨C, hC⟩ : ∃ C, C = cntL x l := ⟨_, rfl⟩
          obtain ⟨W, hW⟩ : ∃ W, W = wgt p.length k := ⟨_, rfl⟩
          rw [HW1.out] at d3
          rw [HK1.out] at d1
          rw [← hC, ← hW] at d1 
          rw [← hC] at d4 ⊢
          rw [← hW] at d2 d3 ⊢
          have hm1 : C * W ≤ 479001600 := by omega
          have hm2 : W * (p.length - k) ≤ 479001600 := by omega
          have hm1' : (W : Int) * (C : Int) ≤ 479001600 := by rw [← Int.natCast_mul, Nat.mul_comm]; omega
          have hm2' : (W : Int) * ((p.length : Int) - (k : Int)) ≤ 479001600 := by rw [← Int.ofNat_sub (by omega), ← Int.natCast_mul]; omega
          have hm3' : 0 ≤ (W : Int) * (C : Int) := Int.mul_nonneg (by omega) (by omega)
          have hm4' : 0 ≤ (W : Int) * ((p.length : Int) - (k : Int)) := Int.mul_nonneg (by omega) (by omega)
          have hm5 : (kUp p k : Int) ≤ 479001600 := by omega
          have HC := hid hC
          have HW := hid hW
          clear hC hW hm1 hm2 d1
          go_wp2_with fail
          go_roundw
          case rel =>
            refine ⟨k + 1, by omega, ?_, ?_, by go_num, q2, rfl⟩
            · rw [HK1.out, ← HC.out, ← HW.out]; push_cast; rw [Int.mul_comm (C : Int)]
            · rw [HW1.out, ← HW.out, Int.natCast_mul, Int.ofNat_sub (by omega)]
          case measure => simp [intOf]; omega
    · have hkl : k = p.length := by omega
      go_wp2_with fail
      go_ret
      exact ⟨ret_int (by rw [hkl, kUp_end]), q, rfl⟩

end Go.Proofs.Ytllddidjiabegaa

/- Contract of the program's key. -/
set_option linter.unusedVariables false
set_option linter.unusedSimpArgs false
namespace Go.Proofs.Ytllddidjiabegaa
open Go.RowKit

def kofN (p : List Int) : Int := if permErr p = 0 then (keyN p : Int) else 0

set_option maxRecDepth 100000 in
set_option maxHeartbeats 1000000 in
theorem blind_KeyOf (p : List Int) (v : Value) (w : World) (h : IntsAt w v p) :
    Calls Try.prog 61 #[v] w fun e w' => e = .returned (.tuple #[.int .i64 (kofN p), .int .i64 (permErr p)]) ∧ Below w.heap.size w w' := by
  obtain ⟨ao, cap, rfl, h1, h2, h3⟩ := h.opn
  have H2 := hid h2
  unfold maxLen at h2
  by_cases hbig : 12 < p.length
  · have e : permErr p = 8 := by simp only [permErr]; rw [if_pos hbig]
    go_enter Try.func61, Try.ntmps61
    go_wp2_with fail
    go_ret2
    exact ⟨by simp [kofN, e], Below.refl _ _⟩
  · have h12 : p.length ≤ 12 := by omega
    go_enter Try.func61, Try.ntmps61
    go_wp2_with fail
    go_loopw [19] (fun i wr => ∃ k : Nat, k ≤ p.length ∧ i = .int .i64 k ∧ Hid (∀ j, j < k → permAt p j = 0) ∧ Below w.heap.size w wr) (fun i _ => p.length - (intOf i).toNat)
    case atStart => exact ⟨0, Nat.zero_le _, rfl, hid (fun j hj => by omega), Below.refl _ _⟩
    case round =>
      obtain ⟨k, hk, rfl, HZ, hbel⟩ := hrel
      have hzw := hbel.size
      by_cases hlt : k < p.length
      · obtain ⟨b, off, rfl, hb, hc⟩ := h3 k hlt
        have hck := (hbel.cell (p := ⟨b, off + k, none⟩) hb).trans (hc k hlt)
        have hT := (intsAt_take hc hb hk h1 H2.out).below hbel
        obtain ⟨y, hy⟩ : ∃ y, y = nth p k := ⟨_, rfl⟩
        obtain ⟨P, hP⟩ : ∃ P, P = p.take k := ⟨_, rfl⟩
        rw [← hy] at hck
        rw [← hP] at hT
        have HY := hid hy
        have HP := hid hP
        have HPA : Hid (permAt p k = firstNZ [unl (inB y 0 ((p.length : Int) - 1)) 6, unl (!hasI P y) 23]) := hid (by
          show (if inB (nth p k) 0 ((p.length : Int) - 1) = true then (if hasI (p.take k) (nth p k) = true then 23 else 0) else 6) = _
          rw [← hy, ← hP]
          cases inB y 0 ((p.length : Int) - 1) <;> cases hasI P y <;> simp [unl, firstNZ])
        have hbw : b < wr.heap.size := by omega
        clear hc h3 hy hP h
        cases he : (firstNZ [unl (inB y 0 ((p.length : Int) - 1)) 6, unl (!hasI P y) 23] != 0)
        · have HE := hid he
          go_wp2_with fail
          ((refine wp_three [] [0, 1, 2, 3, 4, 5, 6, 7, 8, 9, 10, 11, 12] 13 (by kernel_rfl) (by kernel_rfl) ?_); (intro _ _); (simp only [pick, List.drop_succ_cons, List.drop_zero, List.head?_cons, Option.toList_some, List.cons_append, List.nil_append]); (repeat (first | (go_big_quiet_step (first|(go_at_call 77; exact quiet_same (blind_within _ _ _ _) ⟨_, rfl⟩)|(go_at_call 78; exact quiet_same (blind_unless _ _ _) ⟨_, rfl⟩)|(go_at_call 114; exact quiet_same (slices_Contains P _ _ _ (hT.drewN _)) ⟨_, rfl⟩))) | (quiet_step (first|(go_at_call 77; exact quiet_same (blind_within _ _ _ _) ⟨_, rfl⟩)|(go_at_call 78; exact quiet_same (blind_unless _ _ _) ⟨_, rfl⟩)|(go_at_call 114; exact quiet_same (slices_Contains P _ _ _ (hT.drewN _)) ⟨_, rfl⟩))))); (try refine wpQuiet_nil ?_); (repeat (first | (go_big_quiet_step (first|(go_at_call 77; exact quiet_same (blind_within _ _ _ _) ⟨_, rfl⟩)|(go_at_call 78; exact quiet_same (blind_unless _ _ _) ⟨_, rfl⟩)|(go_at_call 114; exact quiet_same (slices_Contains P _ _ _ (hT.drewN _)) ⟨_, rfl⟩))) | (quiet_step (first|(go_at_call 77; exact quiet_same (blind_within _ _ _ _) ⟨_, rfl⟩)|(go_at_call 78; exact quiet_same (blind_unless _ _ _) ⟨_, rfl⟩)|(go_at_call 114; exact quiet_same (slices_Contains P _ _ _ (hT.drewN _)) ⟨_, rfl⟩))))); (try refine wpQuiet_nil ?_); (intro nq))
          go_wp2_with (go_at_call 75; refine (blind_first [unl (inB y 0 ((p.length : Int) - 1)) 6, unl (!hasI P y) 23] _ _ (intsAt_new _ _ _ _ _ rfl (by simp) (by simp))).mono ?_; rintro _ _ ⟨rfl, rfl⟩)
          go_roundw
          case rel =>
            refine ⟨k + 1, by omega, by go_num, hid (fun j hj => ?_), by (repeat (with_reducible first | exact Below.refl _ _ | assumption | refine Below.drewN _ ?_ | refine Below.drew ?_ | refine Below_alloc ?_ _ | refine Below.alloc ?_ (by first | (simp; done) | (simp; omega) | omega) _ | refine Below.setCell ?_ (by first | (simp; done) | (simp; omega) | omega) _ | refine Below_call ?_ (by assumption) | refine Below.trans ?_ (by assumption)))⟩
            rcases Nat.lt_or_ge j k with h | h
            · exact HZ.out j h
            · rw [show j = k from by omega, HPA.out]; simpa using HE.out
          case measure => simp [intOf]; omega
        · have HE := hid he
          go_wp2_with fail
          ((refine wp_three [] [0, 1, 2, 3, 4, 5, 6, 7, 8, 9, 10, 11, 12] 13 (by kernel_rfl) (by kernel_rfl) ?_); (intro _ _); (simp only [pick, List.drop_succ_cons, List.drop_zero, List.head?_cons, Option.toList_some, List.cons_append, List.nil_append]); (repeat (first | (go_big_quiet_step (first|(go_at_call 77; exact quiet_same (blind_within _ _ _ _) ⟨_, rfl⟩)|(go_at_call 78; exact quiet_same (blind_unless _ _ _) ⟨_, rfl⟩)|(go_at_call 114; exact quiet_same (slices_Contains P _ _ _ (hT.drewN _)) ⟨_, rfl⟩))) | (quiet_step (first|(go_at_call 77; exact quiet_same (blind_within _ _ _ _) ⟨_, rfl⟩)|(go_at_call 78; exact quiet_same (blind_unless _ _ _) ⟨_, rfl⟩)|(go_at_call 114; exact quiet_same (slices_Contains P _ _ _ (hT.drewN _)) ⟨_, rfl⟩))))); (try refine wpQuiet_nil ?_); (repeat (first | (go_big_quiet_step (first|(go_at_call 77; exact quiet_same (blind_within _ _ _ _) ⟨_, rfl⟩)|(go_at_call 78; exact quiet_same (blind_unless _ _ _) ⟨_, rfl⟩)|(go_at_call 114; exact quiet_same (slices_Contains P _ _ _ (hT.drewN _)) ⟨_, rfl⟩))) | (quiet_step (first|(go_at_call 77; exact quiet_same (blind_within _ _ _ _) ⟨_, rfl⟩)|(go_at_call 78; exact quiet_same (blind_unless _ _ _) ⟨_, rfl⟩)|(go_at_call 114; exact quiet_same (slices_Contains P _ _ _ (hT.drewN _)) ⟨_, rfl⟩))))); (try refine wpQuiet_nil ?_); (intro nq))
          go_wp2_with (go_at_call 75; refine (blind_first [unl (inB y 0 ((p.length : Int) - 1)) 6, unl (!hasI P y) 23] _ _ (intsAt_new _ _ _ _ _ rfl (by simp) (by simp))).mono ?_; rintro _ _ ⟨rfl, rfl⟩)
          go_ret2
          have hne : permAt p k ≠ 0 := by rw [HPA.out]; simpa using HE.out
          have e : permErr p = permAt p k := by simp only [permErr]; rw [if_neg hbig, scan_at HZ.out hlt hne]
          exact ⟨by simp [kofN, e, hne]; exact HPA.out.symm, by (repeat (with_reducible first | exact Below.refl _ _ | assumption | refine Below.drewN _ ?_ | refine Below.drew ?_ | refine Below_alloc ?_ _ | refine Below.alloc ?_ (by first | (simp; done) | (simp; omega) | omega) _ | refine Below.setCell ?_ (by first | (simp; done) | (simp; omega) | omega) _ | refine Below_call ?_ (by assumption) | refine Below.trans ?_ (by assumption)))⟩
      · have he : permErr p = 0 := by simp only [permErr]; rw [if_neg hbig, scan_end fun j hj => HZ.out j (by omega)]
        have HERR := hid he
        have hf := fac_le12 h12
        have hK := keyN_lt p
        clear he HZ
        go_wp2_with fail
        obtain ⟨wo, rfl⟩ : ∃ wo : World, wo = wr := ⟨_, rfl⟩
        go_loop [7, 8, 45] (fun o u i => ∃ k : Nat, k ≤ p.length ∧ o = .int .i64 (kUp p k : Nat) ∧ u = .int .i64 (wgt p.length k : Nat) ∧ i = .int .i64 k) (fun _ _ i => p.length - (intOf i).toNat)
        case atStart => exact ⟨0, Nat.zero_le _, rfl, rfl, rfl⟩
        case round =>
          obtain ⟨k, hk, rfl, rfl, rfl⟩ := hrel
          by_cases hlt : k < p.length
          · obtain ⟨b, off, rfl, hb, hc⟩ := h3 k hlt
            have hck := (hbel.cell (p := ⟨b, off + k, none⟩) hb).trans (hc k hlt)
            obtain ⟨x, hx⟩ : ∃ x, x = nth p k := ⟨_, rfl⟩
            rw [← hx] at hck
            obtain ⟨l, hl⟩ : ∃ l, l = p.drop (k + 1) := ⟨_, rfl⟩
            have hll : l.length + (k + 1) = p.length := by rw [hl]; simp; omega
            have HLC : Hid (∀ j, j < l.length → wo.cell? ⟨b, off + (k + 1) + j, none⟩ = some (.int .i64 (nth l j))) := hid (fun j hj => by rw [hl, nth_dropped, Nat.add_assoc]; exact (hbel.cell (p := ⟨b, _, none⟩) hb).trans (hc _ (by omega)))
            have d1 := kUp_le (p := p) (k := k + 1) (by omega)
            have d2 := wgt_le (n := p.length) (k := k) (by omega)
            have d3 := wgt_le (n := p.length) (k := k + 1) (by omega)
            have HK1 : Hid (kUp p (k + 1) = kUp p k + cntL x l * wgt p.length k) := hid (by rw [hx, hl]; rfl)
            have HW1 : Hid (wgt p.length (k + 1) = wgt p.length k * (p.length - k)) := hid rfl
            have HX := hid hx
            have hp1 : (k : Int) + 1 ≤ (p.length : Int) := by omega
            have hp2 : (p.length : Int) ≤ (cap : Int) := by omega
            have hlen : p.length - (k + 1) = l.length := by omega
            clear hc h3 hx hl h
            rcases Nat.lt_or_ge (k + 1) cap with hcase | hcase
            · go_wp2_with fail
              go_loop [11, 55] (fun o i => ∃ j : Nat, j ≤ l.length ∧ o = .int .i64 (cntL x (l.take j) : Nat) ∧ i = .int .i64 j) (fun _ i => l.length - (intOf i).toNat)
              case atStart => exact ⟨0, Nat.zero_le _, rfl, rfl⟩
              case round =>
                obtain ⟨j, hj, rfl, rfl⟩ := hrel
                by_cases hl2 : j < l.length
                · have hcj := HLC.out j hl2
                  have HCT := hid (cntL_take (x := x) hl2)
                  obtain ⟨y, hy⟩ : ∃ y, y = nth l j := ⟨_, rfl⟩
                  rw [← hy] at hcj HCT
                  have d4 : cntL x (l.take j) ≤ 12 := Nat.le_trans List.countP_le_length (by simp; omega)
                  clear hy
                  by_cases hxy : y < x
                  · go_wp2_with fail
                    go_round
                    case rel => exact ⟨j + 1, by omega, by rw [HCT.out, if_pos hxy]; go_num, by go_num⟩
                    case measure => simp [intOf]; omega
                  · go_wp2_with fail
                    go_round
                    case rel => exact ⟨j + 1, by omega, by rw [HCT.out, if_neg (by omega)]; go_num, by go_num⟩
                    case measure => simp [intOf]; omega
                · have hjl : j = l.length := by omega
                  subst hjl
                  rw [List.take_length]
                  have d4 : cntL x l ≤ 12 := Nat.le_trans List.countP_le_length (by omega)
                  obtain ⟨C, hC⟩ : ∃ C, C = cntL x l := ⟨_, rfl⟩
                  obtain ⟨W, hW⟩ : ∃ W, W = wgt p.length k := ⟨_, rfl⟩
                  rw [HW1.out] at d3
                  rw [HK1.out] at d1
                  rw [← hC, ← hW] at d1
                  rw [← hC] at d4 ⊢
                  rw [← hW] at d2 d3 ⊢
                  have hm1 : C * W ≤ 479001600 := by omega
                  have hm2 : W * (p.length - k) ≤ 479001600 := by omega
                  have hm1' : (C : Int) * (W : Int) ≤ 479001600 := by rw [← Int.natCast_mul]; omega
                  have hm2' : (W : Int) * ((p.length : Int) - (k : Int)) ≤ 479001600 := by rw [← Int.ofNat_sub (by omega), ← Int.natCast_mul]; omega
                  have hm3' : 0 ≤ (C : Int) * (W : Int) := Int.mul_nonneg (by omega) (by omega)
                  have hm4' : 0 ≤ (W : Int) * ((p.length : Int) - (k : Int)) := Int.mul_nonneg (by omega) (by omega)
                  have hm5 : (kUp p k : Int) ≤ 479001600 := by omega
                  have HC := hid hC
                  have HW := hid hW
                  clear hC hW hm1 hm2 d1
                  go_wp2_with fail
                  go_round
                  case rel =>
                    refine ⟨k + 1, by omega, ?_, ?_, by go_num⟩
                    · rw [HK1.out, ← HC.out, ← HW.out]; push_cast; rfl
                    · rw [HW1.out, ← HW.out, Int.natCast_mul, Int.ofNat_sub (by omega)]
                  case measure => simp [intOf]; omega
            · have hck0 : cap = k + 1 := by omega
              subst hck0
              have hl0 : l = [] := List.eq_nil_of_length_eq_zero (by omega)
              have HL0 := hid hl0
              have hlz : p.length - (k + 1) = 0 := by omega
              clear hl0 hlen
              go_wp2_with fail
              go_loop [11, 55] (fun o i => o = .int .i64 (cntL x l : Nat) ∧ i = .int .i64 0) (fun _ i => 0)
              case atStart => exact ⟨by rw [HL0.out]; rfl, rfl⟩
              case round =>
                obtain ⟨rfl, rfl⟩ := hrel
                have d4 : cntL x l ≤ 12 := Nat.le_trans List.countP_le_length (by omega)
                obtain ⟨C, hC⟩ : ∃ C, C = cntL x l := ⟨_, rfl⟩
                obtain ⟨W, hW⟩ : ∃ W, W = wgt p.length k := ⟨_, rfl⟩
                rw [HW1.out] at d3
                rw [HK1.out] at d1
                rw [← hC, ← hW] at d1
                rw [← hC] at d4 ⊢
                rw [← hW] at d2 d3 ⊢
                have hm1 : C * W ≤ 479001600 := by omega
                have hm2 : W * (p.length - k) ≤ 479001600 := by omega
                have hm1' : (C : Int) * (W : Int) ≤ 479001600 := by rw [← Int.natCast_mul]; omega
                have hm2' : (W : Int) * ((p.length : Int) - (k : Int)) ≤ 479001600 := by rw [← Int.ofNat_sub (by omega), ← Int.natCast_mul]; omega
                have hm3' : 0 ≤ (C : Int) * (W : Int) := Int.mul_nonneg (by omega) (by omega)
                have hm4' : 0 ≤ (W : Int) * ((p.length : Int) - (k : Int)) := Int.mul_nonneg (by omega) (by omega)
                have hm5 : (kUp p k : Int) ≤ 479001600 := by omega
                have HC := hid hC
                have HW := hid hW
                clear hC hW hm1 hm2 d1
                go_wp2_with fail
                go_round
                case rel =>
                  refine ⟨k + 1, by omega, ?_, ?_, by go_num⟩
                  · rw [HK1.out, ← HC.out, ← HW.out]; push_cast; rfl
                  · rw [HW1.out, ← HW.out, Int.natCast_mul, Int.ofNat_sub (by omega)]
                case measure => simp [intOf]; omega
          · have hkl : k = p.length := by omega
            go_wp2_with fail
            go_ret2
            exact ⟨by simp [kofN, HERR.out, kUp_end], hbel⟩

end Go.Proofs.Ytllddidjiabegaa

/- Events: rows of structs, and their errors. -/
set_option linter.unusedVariables false
set_option linter.unusedSimpArgs false
namespace Go.Proofs.Ytllddidjiabegaa
open Go.RowKit

structure Ev where
  t : Int
  en : Int
  ze : Int
  hi : Int
deriving DecidableEq
def Ev.zero : Ev := ⟨0, 0, 0, 0⟩
def Ev.cell (x : Ev) : Nat → Value
  | 0 => .int .i64 x.t
  | 1 => .int .i64 x.en
  | 2 => .int .i64 x.ze
  | _ => .int .i64 x.hi
def evV (x : Ev) : Value := .agg #[.int .i64 x.t, .int .i64 x.en, .int .i64 x.ze, .int .i64 x.hi]
def evAt (l : List Ev) (i : Nat) : Ev := l.getD i Ev.zero
theorem evAt_lt {l : List Ev} {i : Nat} (h : i < l.length) : evAt l i = l[i] := by simp [evAt, List.getD, h]
theorem evAt_take {l : List Ev} {k : Nat} (h : k < l.length) : l.take (k + 1) = l.take k ++ [evAt l k] := by
  rw [List.take_succ_eq_append_getElem h, evAt_lt h]

def EventsAt (w : World) (v : Value) (l : List Ev) : Prop := SlAt w v l.length 4 (fun i j => (evAt l i).cell j)
theorem EventsAt.below {w w' : World} {v : Value} {l : List Ev} (h : EventsAt w v l) (hb : Below w.heap.size w w') : EventsAt w' v l := SlAt.below h hb
theorem EventsAt.opn {w : World} {v : Value} {l : List Ev} (h : EventsAt w v l) : ∃ ao cap, v = .slice ao l.length cap ∧ l.length ≤ cap ∧ cap ≤ maxLen ∧
    ∀ k, k < l.length → ∃ b off, ao = some ⟨b, off, none⟩ ∧ b < w.heap.size ∧ ∀ i, i < l.length →
      w.cell? ⟨b, off + i * 4, none⟩ = some (.int .i64 (evAt l i).t) ∧ w.cell? ⟨b, off + i * 4 + 1, none⟩ = some (.int .i64 (evAt l i).en) ∧ w.cell? ⟨b, off + i * 4 + 2, none⟩ = some (.int .i64 (evAt l i).ze) ∧ w.cell? ⟨b, off + i * 4 + 3, none⟩ = some (.int .i64 (evAt l i).hi) := by
  obtain ⟨ao, cap, rfl, h1, h2, h3, _⟩ := h
  refine ⟨ao, cap, rfl, h1, h2, fun k hk => ?_⟩
  obtain ⟨b, off, e, hlt, hc⟩ := h3 (by omega)
  exact ⟨b, off, e, hlt, fun i hi => ⟨hc i 0 hi (by omega), hc i 1 hi (by omega), hc i 2 hi (by omega), hc i 3 hi (by omega)⟩⟩
theorem EventsAt.nil (w : World) : EventsAt w (.slice none 0 0) [] := ⟨none, 0, rfl, by simp, by simp, fun h => by simp at h, fun _ => rfl⟩

def evB (x : Ev) : Bool := inB x.t 0 1000000000000 && inB x.en 0 100000 && inB x.ze 0 100000 && inB x.hi 0 100000
def evErr (x : Ev) : Int := unl (evB x) 2

set_option maxHeartbeats 1000000 in
theorem blind_eventErr (t en ze hi : Int) (w : World) :
    Calls Try.prog 116 #[.agg #[.int .i64 t, .int .i64 en, .int .i64 ze, .int .i64 hi]] w fun e w' => e = .returned (.int .i64 (evErr ⟨t, en, ze, hi⟩)) ∧ Below w.heap.size w w' := by
  go_enter Try.func116, Try.ntmps116
  go_wp2_with (first | (go_at_call 77; refine (blind_within _ _ _ _).mono ?_; rintro _ _ ⟨rfl, rfl⟩) | (go_at_call 117; refine (blind_isField _ _).mono ?_; rintro _ _ ⟨rfl, rfl⟩) | (go_at_call 78; refine (blind_unless _ _ _).mono ?_; rintro _ _ ⟨rfl, rfl⟩))
  all_goals (try simp only [Bool.not_eq_true', Bool.not_eq_false', Bool.not_eq_true, Bool.not_eq_false] at *)
  all_goals go_ret
  all_goals exact ⟨ret_int (by simp [evErr, evB, *]), by (repeat (with_reducible first | exact Below.refl _ _ | assumption | refine Below.drewN _ ?_ | refine Below.drew ?_ | refine Below_alloc ?_ _ | refine Below.alloc ?_ (by first | (simp; done) | (simp; omega) | omega) _ | refine Below.setCell ?_ (by first | (simp; done) | (simp; omega) | omega) _ | refine Below_call ?_ (by assumption) | refine Below.trans ?_ (by assumption)))⟩

set_option maxHeartbeats 1000000 in
theorem ref_eventErr (t en ze hi : Int) (w : World) :
    Calls Try.prog 84 #[.agg #[.int .i64 t, .int .i64 en, .int .i64 ze, .int .i64 hi]] w fun e w' => e = .returned (.int .i64 (evErr ⟨t, en, ze, hi⟩)) ∧ Below w.heap.size w w' := by
  go_enter Try.func84, Try.ntmps84
  go_wp2_with (first | (go_at_call 128; refine (base_IsTick _ _).mono ?_; rintro _ _ ⟨rfl, rfl⟩) | (go_at_call 83; refine (ref_isField _ _).mono ?_; rintro _ _ ⟨rfl, rfl⟩))
  all_goals (try simp only [Bool.not_eq_true', Bool.not_eq_false', Bool.not_eq_true, Bool.not_eq_false] at *)
  all_goals go_ret
  all_goals exact ⟨ret_int (by simp [evErr, evB, unl, *]), by (repeat (with_reducible first | exact Below.refl _ _ | assumption | refine Below.drewN _ ?_ | refine Below.drew ?_ | refine Below_alloc ?_ _ | refine Below.alloc ?_ (by first | (simp; done) | (simp; omega) | omega) _ | refine Below.setCell ?_ (by first | (simp; done) | (simp; omega) | omega) _ | refine Below_call ?_ (by assumption) | refine Below.trans ?_ (by assumption)))⟩

def anyI {α : Type} (f : α → Bool) (l : List α) : Bool := l.any f
theorem anyI_take {f : Ev → Bool} {l : List Ev} {k : Nat} (h : k < l.length) : anyI f (l.take (k + 1)) = (anyI f (l.take k) || f (evAt l k)) := by
  rw [evAt_take h]; simp [anyI]
theorem anyI_at {f : Ev → Bool} {l : List Ev} {k : Nat} (h : k < l.length) (hf : f (evAt l k) = true) : anyI f l = true := by
  rw [evAt_lt h] at hf; simp only [anyI, List.any_eq_true]; exact ⟨_, List.getElem_mem h, hf⟩

theorem blind_looseErr1 (t en ze hi : Int) (w : World) :
    Calls Try.prog 119 #[.agg #[.int .i64 t, .int .i64 en, .int .i64 ze, .int .i64 hi]] w fun e w' => e = .returned (.bool (evErr ⟨t, en, ze, hi⟩ != 0)) ∧ Below w.heap.size w w' := by
  go_enter Try.func119, Try.ntmps119
  go_wp2_with (go_at_call 116; refine (blind_eventErr t en ze hi _).mono ?_; rintro _ w1 ⟨rfl, hb1⟩; obtain ⟨hc1, hf1⟩ := bcell hb1; have hz1 := hb1.size; (try simp only [World.size_alloc, World.heap_drewN] at hz1))
  go_ret
  exact ⟨rfl, by (repeat (with_reducible first | exact Below.refl _ _ | assumption | refine Below.drewN _ ?_ | refine Below.drew ?_ | refine Below_alloc ?_ _ | refine Below.alloc ?_ (by first | (simp; done) | (simp; omega) | omega) _ | refine Below.setCell ?_ (by first | (simp; done) | (simp; omega) | omega) _ | refine Below_call ?_ (by assumption) | refine Below.trans ?_ (by assumption)))⟩

set_option maxRecDepth 100000 in
theorem ev_IndexFunc (l : List Ev) (v : Value) (w : World) (h : EventsAt w v l) :
    Calls Try.prog 147 #[v, .func (.func 119) #[] #[]] w fun e w' => ∃ r : Int, e = .returned (.int .i64 r) ∧ decide (0 ≤ r) = anyI (fun x => evErr x != 0) l ∧ Below w.heap.size w w' := by
  obtain ⟨ao, cap, rfl, h1, h2, h3⟩ := h.opn
  unfold maxLen at h2
  go_enter Try.func147, Try.ntmps147
  go_wp2_with fail
  go_loopw [8] (fun i wr => ∃ k : Nat, k ≤ l.length ∧ i = .int .i64 k ∧ Hid (anyI (fun x => evErr x != 0) (l.take k) = false) ∧ Below w.heap.size w wr) (fun i _ => l.length - (intOf i).toNat)
  case atStart => exact ⟨0, Nat.zero_le _, rfl, hid (by simp [anyI]), Below.refl _ _⟩
  case round =>
    obtain ⟨k, hk, rfl, HZ, hbel⟩ := hrel
    have hzw := hbel.size
    by_cases hlt : k < l.length
    · obtain ⟨b, off, rfl, hb, hc⟩ := h3 k hlt
      obtain ⟨c0, c1, c2, c3⟩ := hc k hlt
      obtain ⟨hcb, hfb⟩ := bcell hbel
      rw [← hcb b _ hb] at c0 c1 c2 c3
      have HAT := hid (anyI_take (f := fun x => evErr x != 0) hlt)
      have HAA := hid (anyI_at (f := fun x => evErr x != 0) hlt)
      obtain ⟨x, hx⟩ : ∃ x, x = evAt l k := ⟨_, rfl⟩
      rw [← hx] at c0 c1 c2 c3 HAT HAA
      obtain ⟨t, en, ze, hi⟩ := x
      simp only at c0 c1 c2 c3
      clear hc h3 hcb hfb hx h
      cases ht : (evErr ⟨t, en, ze, hi⟩ != 0)
      · have HT := hid ht
        go_wp2_with (go_at_call 119; refine (blind_looseErr1 t en ze hi _).mono ?_; rintro _ w1 ⟨rfl, hb1⟩; obtain ⟨hc1, hf1⟩ := bcell hb1; have hz1 := hb1.size; (try simp only [World.size_alloc, World.heap_drewN] at hz1))
        go_roundw
        case rel => exact ⟨k + 1, by omega, by go_num, hid (by rw [HAT.out, HZ.out, HT.out]; rfl), by (repeat (with_reducible first | exact Below.refl _ _ | assumption | refine Below.drewN _ ?_ | refine Below.drew ?_ | refine Below_alloc ?_ _ | refine Below.alloc ?_ (by first | (simp; done) | (simp; omega) | omega) _ | refine Below.setCell ?_ (by first | (simp; done) | (simp; omega) | omega) _ | refine Below_call ?_ (by assumption) | refine Below.trans ?_ (by assumption)))⟩
        case measure => simp [intOf]; omega
      · have HT := hid ht
        go_wp2_with (go_at_call 119; refine (blind_looseErr1 t en ze hi _).mono ?_; rintro _ w1 ⟨rfl, hb1⟩; obtain ⟨hc1, hf1⟩ := bcell hb1; have hz1 := hb1.size; (try simp only [World.size_alloc, World.heap_drewN] at hz1))
        go_ret
        exact ⟨k, rfl, by rw [HAA.out HT.out]; simp, by (repeat (with_reducible first | exact Below.refl _ _ | assumption | refine Below.drewN _ ?_ | refine Below.drew ?_ | refine Below_alloc ?_ _ | refine Below.alloc ?_ (by first | (simp; done) | (simp; omega) | omega) _ | refine Below.setCell ?_ (by first | (simp; done) | (simp; omega) | omega) _ | refine Below_call ?_ (by assumption) | refine Below.trans ?_ (by assumption)))⟩
    · have hkl : k = l.length := by omega
      subst hkl
      go_wp2_with fail
      go_ret
      refine ⟨-1, rfl, ?_, hbel⟩
      have := HZ.out
      rw [List.take_length] at this
      rw [this]; rfl

theorem ev_ContainsFunc (l : List Ev) (v : Value) (w : World) (h : EventsAt w v l) :
    Calls Try.prog 118 #[v, .func (.func 119) #[] #[]] w fun e w' => e = .returned (.bool (anyI (fun x => evErr x != 0) l)) ∧ Below w.heap.size w w' := by
  go_enter Try.func118, Try.ntmps118
  go_wp2_with (go_at_call 147; refine (ev_IndexFunc _ _ _ h).mono ?_; rintro _ w1 ⟨r, rfl, hr, hb1⟩)
  go_ret
  exact ⟨ret_bool (by rw [← hr]), hb1⟩

/-- the error of events in any order. -/
def anyErr (l : List Ev) : Int := if 12 < l.length then 8 else scan (fun i => evErr (evAt l i)) l.length

end Go.Proofs.Ytllddidjiabegaa

/- Events in any order: their error, and copies. -/
set_option linter.unusedVariables false
set_option linter.unusedSimpArgs false
namespace Go.Proofs.Ytllddidjiabegaa
open Go.RowKit

theorem evErr_two (x : Ev) : evErr x = 0 ∨ evErr x = 2 := by
  unfold evErr unl; split <;> simp

theorem scan_any (l : List Ev) : scan (fun i => evErr (evAt l i)) l.length = unl (!anyI (fun x => evErr x != 0) l) 2 := by
  cases h : anyI (fun x => evErr x != 0) l
  · have h' : ∀ x ∈ l, evErr x = 0 := by
      intro x hx
      rcases evErr_two x with e | e
      · exact e
      · have : anyI (fun x => evErr x != 0) l = true := by
          simp only [anyI, List.any_eq_true]; exact ⟨x, hx, by rw [e]; rfl⟩
        rw [h] at this; cases this
    rw [scan_end fun j hj => by rw [evAt_lt hj]; exact h' _ (List.getElem_mem hj)]
    rfl
  · have h2 : scan (fun i => evErr (evAt l i)) l.length ≠ 0 := by
      intro e
      have hz := scan_zero e
      simp only [anyI, List.any_eq_true] at h
      obtain ⟨x, hx, hne⟩ := h
      obtain ⟨j, hj, rfl⟩ := List.mem_iff_getElem.1 hx
      have := hz j hj
      rw [evAt_lt hj] at this
      rw [this] at hne
      cases hne
    have h3 : ∀ y ∈ (List.range l.length).map (fun i => evErr (evAt l i)), y = 0 ∨ y = 2 := by
      intro y hy
      obtain ⟨j, _, rfl⟩ := List.mem_map.1 hy
      exact evErr_two _
    have h4 : ∀ m : List Int, (∀ y ∈ m, y = 0 ∨ y = 2) → firstNZ m ≠ 0 → firstNZ m = 2 := by
      intro m
      induction m with
      | nil => intro _ h; exact absurd rfl h
      | cons a m ih =>
        intro h1 h5
        simp only [firstNZ] at h5 ⊢
        split
        · rename_i ha; rw [if_pos ha] at h5; exact ih (fun y hy => h1 y (by simp [hy])) h5
        · rename_i ha; exact (h1 a (by simp)).resolve_left ha
    exact h4 _ h3 h2

theorem anyErr_first (l : List Ev) : anyErr l = firstNZ [unl (decide ((l.length : Int) ≤ 12)) 8, unl (!anyI (fun x => evErr x != 0) l) 2] := by
  unfold anyErr
  rw [scan_any]
  by_cases h : 12 < l.length
  · have h' : ¬ (l.length : Int) ≤ 12 := by omega
    rw [if_pos h]; simp [h', unl, firstNZ]
  · have h' : (l.length : Int) ≤ 12 := by omega
    rw [if_neg h]; simp [h', unl, firstNZ]

theorem anyErr_ok {l : List Ev} (h : anyErr l = 0) : l.length ≤ 12 ∧ ∀ x ∈ l, evB x = true := by
  unfold anyErr at h
  split at h
  · cases h
  · refine ⟨by omega, fun x hx => ?_⟩
    obtain ⟨j, hj, rfl⟩ := List.mem_iff_getElem.1 hx
    have := scan_zero h j hj
    rw [evAt_lt hj] at this
    unfold evErr unl at this
    split at this
    · assumption
    · cases this

theorem blind_looseErr (l : List Ev) (v : Value) (w : World) (h : EventsAt w v l) :
    Calls Try.prog 80 #[v] w fun e w' => e = .returned (.int .i64 (anyErr l)) ∧ Below w.heap.size w w' := by
  obtain ⟨ao, cap, rfl, h1, h2, h3⟩ := h.opn
  unfold maxLen at h2
  have HA := hid (anyErr_first l)
  clear h3
  go_enter Try.func80, Try.ntmps80
  go_wp2_with (first | (go_at_call 118; refine (ev_ContainsFunc l _ _ h).mono ?_; rintro _ w1 ⟨rfl, hb1⟩; obtain ⟨hc1, hf1⟩ := bcell hb1; have hz1 := hb1.size; (try simp only [World.size_alloc, World.heap_drewN] at hz1)) | (go_at_call 78; refine (blind_unless _ _ _).mono ?_; rintro _ _ ⟨rfl, rfl⟩) | (go_at_call 75; refine (blind_first [unl (decide ((l.length : Int) ≤ 12)) 8, unl (!anyI (fun x => evErr x != 0) l) 2] _ _ (intsAt_new _ _ _ _ _ rfl (by simp) (by simp))).mono ?_; rintro _ _ ⟨rfl, rfl⟩))
  go_ret
  exact ⟨ret_int HA.out.symm, by (repeat (with_reducible first | exact Below.refl _ _ | assumption | refine Below.drewN _ ?_ | refine Below.drew ?_ | refine Below_alloc ?_ _ | refine Below.alloc ?_ (by first | (simp; done) | (simp; omega) | omega) _ | refine Below.setCell ?_ (by first | (simp; done) | (simp; omega) | omega) _ | refine Below_call ?_ (by assumption) | refine Below.trans ?_ (by assumption)))⟩

set_option maxRecDepth 100000 in
theorem ref_AnyErr (l : List Ev) (v : Value) (w : World) (h : EventsAt w v l) :
    Calls Try.prog 20 #[v] w fun e w' => e = .returned (.int .i64 (anyErr l)) ∧ Below w.heap.size w w' := by
  obtain ⟨ao, cap, rfl, h1, h2, h3⟩ := h.opn
  unfold maxLen at h2
  by_cases hbig : 12 < l.length
  · go_enter Try.func20, Try.ntmps20
    go_wp2_with fail
    go_ret
    exact ⟨ret_int (by simp only [anyErr]; rw [if_pos hbig]), Below.refl _ _⟩
  · go_enter Try.func20, Try.ntmps20
    go_wp2_with fail
    go_loopw [3] (fun i wr => ∃ k : Nat, k ≤ l.length ∧ i = .int .i64 k ∧ Hid (∀ j, j < k → evErr (evAt l j) = 0) ∧ Below w.heap.size w wr) (fun i _ => l.length - (intOf i).toNat)
    case atStart => exact ⟨0, Nat.zero_le _, rfl, hid (fun j hj => by omega), Below.refl _ _⟩
    case round =>
      obtain ⟨k, hk, rfl, HZ, hbel⟩ := hrel
      have hzw := hbel.size
      by_cases hlt : k < l.length
      · obtain ⟨b, off, rfl, hb, hc⟩ := h3 k hlt
        obtain ⟨c0, c1, c2, c3⟩ := hc k hlt
        obtain ⟨hcb, hfb⟩ := bcell hbel
        rw [← hcb b _ hb] at c0 c1 c2 c3
        obtain ⟨x, hx⟩ : ∃ x, x = evAt l k := ⟨_, rfl⟩
        rw [← hx] at c0 c1 c2 c3
        have HX := hid hx
        obtain ⟨t, en, ze, hi⟩ := x
        simp only at c0 c1 c2 c3
        clear hc h3 hcb hfb hx h
        cases ht : (evErr ⟨t, en, ze, hi⟩ != 0)
        · have HT := hid ht
          go_wp2_with (go_at_call 84; refine (ref_eventErr t en ze hi _).mono ?_; rintro _ w1 ⟨rfl, hb1⟩; obtain ⟨hc1, hf1⟩ := bcell hb1; have hz1 := hb1.size; (try simp only [World.size_alloc, World.heap_drewN] at hz1))
          go_roundw
          case rel =>
            refine ⟨k + 1, by omega, by go_num, hid (fun j hj => ?_), by (repeat (with_reducible first | exact Below.refl _ _ | assumption | refine Below.drewN _ ?_ | refine Below.drew ?_ | refine Below_alloc ?_ _ | refine Below.alloc ?_ (by first | (simp; done) | (simp; omega) | omega) _ | refine Below.setCell ?_ (by first | (simp; done) | (simp; omega) | omega) _ | refine Below_call ?_ (by assumption) | refine Below.trans ?_ (by assumption)))⟩
            rcases Nat.lt_or_ge j k with h | h
            · exact HZ.out j h
            · rw [show j = k from by omega, ← HX.out]; simpa using HT.out
          case measure => simp [intOf]; omega
        · have HT := hid ht
          go_wp2_with (go_at_call 84; refine (ref_eventErr t en ze hi _).mono ?_; rintro _ w1 ⟨rfl, hb1⟩; obtain ⟨hc1, hf1⟩ := bcell hb1; have hz1 := hb1.size; (try simp only [World.size_alloc, World.heap_drewN] at hz1))
          go_ret
          refine ⟨ret_int ?_, by (repeat (with_reducible first | exact Below.refl _ _ | assumption | refine Below.drewN _ ?_ | refine Below.drew ?_ | refine Below_alloc ?_ _ | refine Below.alloc ?_ (by first | (simp; done) | (simp; omega) | omega) _ | refine Below.setCell ?_ (by first | (simp; done) | (simp; omega) | omega) _ | refine Below_call ?_ (by assumption) | refine Below.trans ?_ (by assumption)))⟩
          have hne : evErr (evAt l k) ≠ 0 := by rw [← HX.out]; simpa using HT.out
          simp only [anyErr]
          rw [if_neg hbig, scan_at (f := fun i => evErr (evAt l i)) HZ.out hlt hne, ← HX.out]
      · go_wp2_with fail
        go_ret
        exact ⟨ret_int (by simp only [anyErr]; rw [if_neg hbig, scan_end fun j hj => HZ.out j (by omega)]), hbel⟩

theorem law_few (l : List Ev) (v : Value) (w : World) (h : EventsAt w v l) :
    Calls Try.prog 12 #[v] w fun e w' => e = .returned (.bool (decide ((l.length : Int) ≤ 14))) ∧ w = w' := by
  obtain ⟨ao, cap, rfl, h1, h2, h3⟩ := h.opn
  unfold maxLen at h2
  go_enter Try.func12, Try.ntmps12
  go_wp2_with fail
  go_ret
  exact ⟨ret_bool rfl, rfl⟩

theorem elemEv : Elem Try.prog 25 89 4 32 := Elem.mk (z := .agg #[.int .i64 0, .int .i64 0, .int .i64 0, .int .i64 0]) Try.underlying25 (by kernel_rfl) rfl (by decide)

/-- the call's own row, opened. -/
theorem ownsRow_sl {w : World} {base : Nat} {e : TypeId} {v : Value} {n sz : Nat} {c : Nat → Nat → Value} (h : w.ownsRow base e sz v n (flat n sz c)) : SlAt w v n sz c := by
  obtain ⟨h1, h2⟩ := h
  rcases h2 with ⟨rfl, h0⟩ | ⟨g, cap, cur, rfl, hb, hg, hn, hm, hs, ht⟩
  · subst h0
    exact ⟨none, 0, rfl, by simp, by simp, fun h => by omega, fun _ => rfl⟩
  · refine ⟨some ⟨g, 0, none⟩, cap, rfl, hn, hm, fun h0 => ⟨g, 0, rfl, (Array.getElem?_eq_some_iff.1 hg).1, fun i j hi hj => ?_⟩, fun h => by cases h⟩
    rw [cell_of_row w g _ cur e (0, 0) hg]
    have hq : i * sz + j < n * sz := by
      have : (i + 1) * sz ≤ n * sz := Nat.mul_le_mul_right _ hi
      rw [Nat.add_mul] at this; omega
    have e1 : (cur.toList.take (n * sz))[i * sz + j]? = some (c i j) := by
      rw [ht, flat_get hq]
      rw [Nat.mul_comm i sz, Nat.mul_add_div (by omega), Nat.div_eq_of_lt hj, Nat.mul_add_mod, Nat.mod_eq_of_lt hj, Nat.add_zero]
    rw [List.getElem?_take, if_pos hq] at e1
    simpa using e1

def RetEvents (w : World) (l : List Ev) (e : Ending) (w' : World) : Prop := ∃ v, e = .returned v ∧ EventsAt w' v l ∧ Below w.heap.size w w'

theorem flat_one {n sz : Nat} {c : Nat → Nat → Value} (h : ∀ i j, i < n → j < sz → (c i j).oneCell' = true) : ∀ u ∈ flat n sz c, u.oneCell' = true := by
  intro u hu
  obtain ⟨q, hq, rfl⟩ := List.mem_map.1 hu
  have hq' : q < n * sz := List.mem_range.1 hq
  have hs : 0 < sz := Nat.pos_of_ne_zero (by rintro rfl; simp at hq')
  exact h _ _ (Nat.div_lt_of_lt_mul (by rwa [Nat.mul_comm])) (Nat.mod_lt _ hs)
theorem cell_one (x : Ev) (j : Nat) : (x.cell j).oneCell' = true := by
  unfold Ev.cell; split <;> rfl

set_option maxRecDepth 100000 in
theorem ref_CopyEvents (l : List Ev) (v : Value) (w : World) (h : EventsAt w v l) (hl : l.length ≤ 100) :
    Calls Try.prog 17 #[v] w (RetEvents w l) := by
  obtain ⟨ao, cap, rfl, h1, h2, h3⟩ := SlAt.src h
  have HE : (w.alloc (.cells #[] 89)).ownsRow w.heap.size 89 4 (.slice (some ⟨w.heap.size, 0, none⟩) 0 0) 0 [] := ownsRow_empty w elemEv
  have HS := h3 (w.alloc (.cells #[] 89)) ((Below.refl _ _).alloc (Nat.le_refl _) _)
  clear h3
  go_enter Try.func17, Try.ntmps17
  go_wp2_with (at_builtin; go_must (refine wpList_append_list rfl (.tmp 3) (.tmp 4) _ rfl elemEv w.heap.size (.slice (some ⟨w.heap.size, 0, none⟩) 0 0) 0 [] rfl HE ao l.length cap _ rfl (flat_len _ _ _) (flat_one fun i j _ _ => cell_one _ j) HS (by omega) (by unfold maxLen; omega) (by simp) ?_); intro v3 w3 hown4 hp4 _)
  go_ret
  refine ⟨v3, rfl, ?_, ((Below.refl _ _).alloc (Nat.le_refl _) _).trans hp4.below⟩
  rw [Nat.zero_add, List.nil_append] at hown4
  exact ownsRow_sl hown4

end Go.Proofs.Ytllddidjiabegaa

/- Cuts and clauses: rows of structs, rows of rows, and their errors. -/
set_option linter.unusedVariables false
set_option linter.unusedSimpArgs false
namespace Go.Proofs.Ytllddidjiabegaa
open Go.RowKit

structure Cut where
  f : Int
  lo : Int
  hi : Int
deriving DecidableEq
def Cut.zero : Cut := ⟨0, 0, 0⟩
def Cut.cell (x : Cut) : Nat → Value
  | 0 => .int .i64 x.f
  | 1 => .int .i64 x.lo
  | _ => .int .i64 x.hi
def cutAt (l : List Cut) (i : Nat) : Cut := l.getD i Cut.zero
theorem cutAt_lt {l : List Cut} {i : Nat} (h : i < l.length) : cutAt l i = l[i] := by simp [cutAt, List.getD, h]
theorem cutAt_take {l : List Cut} {k : Nat} (h : k < l.length) : l.take (k + 1) = l.take k ++ [cutAt l k] := by
  rw [List.take_succ_eq_append_getElem h, cutAt_lt h]
def CutsAt (w : World) (v : Value) (l : List Cut) : Prop := SlAt w v l.length 3 (fun i j => (cutAt l i).cell j)
theorem CutsAt.below {w w' : World} {v : Value} {l : List Cut} (h : CutsAt w v l) (hb : Below w.heap.size w w') : CutsAt w' v l := SlAt.below h hb
theorem CutsAt.opn {w : World} {v : Value} {l : List Cut} (h : CutsAt w v l) : ∃ ao cap, v = .slice ao l.length cap ∧ l.length ≤ cap ∧ cap ≤ maxLen ∧
    ∀ k, k < l.length → ∃ b off, ao = some ⟨b, off, none⟩ ∧ b < w.heap.size ∧ ∀ i, i < l.length →
      w.cell? ⟨b, off + i * 3, none⟩ = some (.int .i64 (cutAt l i).f) ∧ w.cell? ⟨b, off + i * 3 + 1, none⟩ = some (.int .i64 (cutAt l i).lo) ∧ w.cell? ⟨b, off + i * 3 + 2, none⟩ = some (.int .i64 (cutAt l i).hi) := by
  obtain ⟨ao, cap, rfl, h1, h2, h3, _⟩ := h
  refine ⟨ao, cap, rfl, h1, h2, fun k hk => ?_⟩
  obtain ⟨b, off, e, hlt, hc⟩ := h3 (by omega)
  exact ⟨b, off, e, hlt, fun i hi => ⟨hc i 0 hi (by omega), hc i 1 hi (by omega), hc i 2 hi (by omega)⟩⟩

def clAt (cs : List (List Cut)) (i : Nat) : List Cut := cs.getD i []
theorem clAt_lt {l : List (List Cut)} {i : Nat} (h : i < l.length) : clAt l i = l[i] := by simp [clAt, List.getD, h]
def ClausesAt (w : World) (v : Value) (cs : List (List Cut)) : Prop := ∃ us : Nat → Value, SlAt w v cs.length 1 (fun i _ => us i) ∧ ∀ i, i < cs.length → CutsAt w (us i) (clAt cs i)
theorem ClausesAt.below {w w' : World} {v : Value} {l : List (List Cut)} (h : ClausesAt w v l) (hb : Below w.heap.size w w') : ClausesAt w' v l := by
  obtain ⟨us, h1, h2⟩ := h
  exact ⟨us, h1.below hb, fun i hi => (h2 i hi).below hb⟩
theorem ClausesAt.opn {w : World} {v : Value} {l : List (List Cut)} (h : ClausesAt w v l) : ∃ ao cap, ∃ us : Nat → Value, v = .slice ao l.length cap ∧ l.length ≤ cap ∧ cap ≤ maxLen ∧
    ∀ k, k < l.length → ∃ b off, ao = some ⟨b, off, none⟩ ∧ b < w.heap.size ∧ ∀ i, i < l.length → w.cell? ⟨b, off + i, none⟩ = some (us i) ∧ CutsAt w (us i) (clAt l i) := by
  obtain ⟨us, ⟨ao, cap, rfl, h1, h2, h3, _⟩, hu⟩ := h
  refine ⟨ao, cap, us, rfl, h1, h2, fun k hk => ?_⟩
  obtain ⟨b, off, e, hlt, hc⟩ := h3 (by omega)
  exact ⟨b, off, e, hlt, fun i hi => ⟨by have := hc i 0 hi (by omega); simpa using this, hu i hi⟩⟩

structure Meth where
  cs : List (List Cut)
  p : Int
  fr : Int
  to : Int
def methV (cv : Value) (p fr to : Int) : Value := .agg #[cv, .int .i64 p, .int .i64 fr, .int .i64 to]

def cutErr (c : Cut) : Int := firstNZ [unl (inB c.f 0 2) 15, unl (inB c.lo 0 100000 && inB c.hi 0 100000) 2, unl (decide (c.lo ≤ c.hi)) 9]
def cntErr (n : Int) : Int := firstNZ [unl (decide (0 < n)) 10, unl (decide (n ≤ 4)) 8]
def clErr (l : List Cut) : Int := firstNZ (cntErr l.length :: l.map cutErr)

theorem blind_countErr (n : Int) (w : World) : Calls Try.prog 74 #[.int .i64 n] w fun e w' => e = .returned (.int .i64 (cntErr n)) ∧ Below w.heap.size w w' := by
  go_enter Try.func74, Try.ntmps74
  go_wp2_with (first | (go_at_call 78; refine (blind_unless _ _ _).mono ?_; rintro _ _ ⟨rfl, rfl⟩) | (go_at_call 75; refine (blind_first [unl (decide (0 < n)) 10, unl (decide (n ≤ 4)) 8] _ _ (intsAt_new _ _ _ _ _ rfl (by simp) (by simp))).mono ?_; rintro _ _ ⟨rfl, rfl⟩))
  go_ret
  exact ⟨ret_int rfl, by (repeat (with_reducible first | exact Below.refl _ _ | assumption | refine Below.drewN _ ?_ | refine Below.drew ?_ | refine Below_alloc ?_ _ | refine Below.alloc ?_ (by first | (simp; done) | (simp; omega) | omega) _ | refine Below.setCell ?_ (by first | (simp; done) | (simp; omega) | omega) _ | refine Below_call ?_ (by assumption) | refine Below.trans ?_ (by assumption)))⟩

set_option maxRecDepth 100000 in
theorem blind_cutErr (f lo hi : Int) (w : World) : Calls Try.prog 76 #[.agg #[.int .i64 f, .int .i64 lo, .int .i64 hi]] w fun e w' => e = .returned (.int .i64 (cutErr ⟨f, lo, hi⟩)) ∧ Below w.heap.size w w' := by
  cases hb : inB lo 0 100000
  · have HB := hid hb
    have HE : Hid (cutErr ⟨f, lo, hi⟩ = firstNZ [unl (inB f 0 2) 15, unl false 2, unl (decide (lo ≤ hi)) 9]) := hid (by simp [cutErr, hb])
    go_enter Try.func76, Try.ntmps76
    go_wp2_with fail
    ((refine wp_three [] [0, 1, 2, 3, 4, 5, 6, 7, 8, 9, 10, 11, 12, 13, 14, 15, 16, 17, 18] 19 (by kernel_rfl) (by kernel_rfl) ?_); (intro _ _); (simp only [pick, List.drop_succ_cons, List.drop_zero, List.head?_cons, Option.toList_some, List.cons_append, List.nil_append]); (repeat (first | (go_big_quiet_step (first|(go_at_call 77; exact quiet_same (blind_within _ _ _ _) ⟨_, rfl⟩)|(go_at_call 78; exact quiet_same (blind_unless _ _ _) ⟨_, rfl⟩)|(go_at_call 117; exact quiet_same (blind_isField _ _) ⟨_, rfl⟩))) | (quiet_step (first|(go_at_call 77; exact quiet_same (blind_within _ _ _ _) ⟨_, rfl⟩)|(go_at_call 78; exact quiet_same (blind_unless _ _ _) ⟨_, rfl⟩)|(go_at_call 117; exact quiet_same (blind_isField _ _) ⟨_, rfl⟩))))); (try refine wpQuiet_nil ?_); (repeat (first | (go_big_quiet_step (first|(go_at_call 77; exact quiet_same (blind_within _ _ _ _) ⟨_, rfl⟩)|(go_at_call 78; exact quiet_same (blind_unless _ _ _) ⟨_, rfl⟩)|(go_at_call 117; exact quiet_same (blind_isField _ _) ⟨_, rfl⟩))) | (quiet_step (first|(go_at_call 77; exact quiet_same (blind_within _ _ _ _) ⟨_, rfl⟩)|(go_at_call 78; exact quiet_same (blind_unless _ _ _) ⟨_, rfl⟩)|(go_at_call 117; exact quiet_same (blind_isField _ _) ⟨_, rfl⟩))))); (try refine wpQuiet_nil ?_); (intro nq))
    go_wp2_with (go_at_call 75; refine (blind_first [unl (inB f 0 2) 15, unl false 2, unl (decide (lo ≤ hi)) 9] _ _ (intsAt_new _ _ _ _ _ rfl (by simp) (by simp))).mono ?_; rintro _ _ ⟨rfl, rfl⟩)
    go_ret
    exact ⟨ret_int HE.out.symm, by (repeat (with_reducible first | exact Below.refl _ _ | assumption | refine Below.drewN _ ?_ | refine Below.drew ?_ | refine Below_alloc ?_ _ | refine Below.alloc ?_ (by first | (simp; done) | (simp; omega) | omega) _ | refine Below.setCell ?_ (by first | (simp; done) | (simp; omega) | omega) _ | refine Below_call ?_ (by assumption) | refine Below.trans ?_ (by assumption)))⟩
  · have HB := hid hb
    have HE : Hid (cutErr ⟨f, lo, hi⟩ = firstNZ [unl (inB f 0 2) 15, unl (inB hi 0 100000) 2, unl (decide (lo ≤ hi)) 9]) := hid (by simp [cutErr, hb])
    go_enter Try.func76, Try.ntmps76
    go_wp2_with fail
    ((refine wp_three [] [0, 1, 2, 3, 4, 5, 6, 7, 8, 9, 10, 11, 12, 13, 14, 15, 16, 17, 18] 19 (by kernel_rfl) (by kernel_rfl) ?_); (intro _ _); (simp only [pick, List.drop_succ_cons, List.drop_zero, List.head?_cons, Option.toList_some, List.cons_append, List.nil_append]); (repeat (first | (go_big_quiet_step (first|(go_at_call 77; exact quiet_same (blind_within _ _ _ _) ⟨_, rfl⟩)|(go_at_call 78; exact quiet_same (blind_unless _ _ _) ⟨_, rfl⟩)|(go_at_call 117; exact quiet_same (blind_isField _ _) ⟨_, rfl⟩))) | (quiet_step (first|(go_at_call 77; exact quiet_same (blind_within _ _ _ _) ⟨_, rfl⟩)|(go_at_call 78; exact quiet_same (blind_unless _ _ _) ⟨_, rfl⟩)|(go_at_call 117; exact quiet_same (blind_isField _ _) ⟨_, rfl⟩))))); (try refine wpQuiet_nil ?_); (repeat (first | (go_big_quiet_step (first|(go_at_call 77; exact quiet_same (blind_within _ _ _ _) ⟨_, rfl⟩)|(go_at_call 78; exact quiet_same (blind_unless _ _ _) ⟨_, rfl⟩)|(go_at_call 117; exact quiet_same (blind_isField _ _) ⟨_, rfl⟩))) | (quiet_step (first|(go_at_call 77; exact quiet_same (blind_within _ _ _ _) ⟨_, rfl⟩)|(go_at_call 78; exact quiet_same (blind_unless _ _ _) ⟨_, rfl⟩)|(go_at_call 117; exact quiet_same (blind_isField _ _) ⟨_, rfl⟩))))); (try refine wpQuiet_nil ?_); (intro nq))
    go_wp2_with (go_at_call 75; refine (blind_first [unl (inB f 0 2) 15, unl (inB hi 0 100000) 2, unl (decide (lo ≤ hi)) 9] _ _ (intsAt_new _ _ _ _ _ rfl (by simp) (by simp))).mono ?_; rintro _ _ ⟨rfl, rfl⟩)
    go_ret
    exact ⟨ret_int HE.out.symm, by (repeat (with_reducible first | exact Below.refl _ _ | assumption | refine Below.drewN _ ?_ | refine Below.drew ?_ | refine Below_alloc ?_ _ | refine Below.alloc ?_ (by first | (simp; done) | (simp; omega) | omega) _ | refine Below.setCell ?_ (by first | (simp; done) | (simp; omega) | omega) _ | refine Below_call ?_ (by assumption) | refine Below.trans ?_ (by assumption)))⟩

end Go.Proofs.Ytllddidjiabegaa

/- The checks of methods. -/
set_option linter.unusedVariables false
set_option linter.unusedSimpArgs false
namespace Go.Proofs.Ytllddidjiabegaa
open Go.RowKit

theorem firstNZ_snoc (l : List Int) (x : Int) : firstNZ (l ++ [x]) = firstNZ [firstNZ l, x] := by
  induction l with
  | nil => simp [firstNZ]
  | cons a l ih =>
    simp only [List.cons_append, firstNZ]
    split
    · rw [ih]; simp only [firstNZ]
    · rename_i h; simp [h]
def clUp (l : List Cut) (j : Nat) : Int := firstNZ (cntErr l.length :: (l.take j).map cutErr)
theorem clUp_succ {l : List Cut} {j : Nat} (h : j < l.length) : clUp l (j + 1) = firstNZ [clUp l j, cutErr (cutAt l j)] := by
  unfold clUp
  rw [cutAt_take h, List.map_append, ← List.cons_append]
  exact firstNZ_snoc _ _
theorem clUp_end (l : List Cut) : clUp l l.length = clErr l := by unfold clUp clErr; rw [List.take_length]
theorem clUp_zero (l : List Cut) : clUp l 0 = cntErr l.length := by
  unfold clUp; simp only [List.take_zero, List.map_nil, firstNZ]; split
  · rename_i h; exact h.symm
  · rfl

/-- the place of the first error, 0 if there is none. -/
def scanI (f : Nat → Int) (n : Nat) : Int := (((List.range n).find? (fun i => f i != 0)).getD 0 : Nat)
theorem scanI_end {f : Nat → Int} {n : Nat} (h : ∀ j, j < n → f j = 0) : scanI f n = 0 := by
  unfold scanI
  rw [List.find?_eq_none.2]
  · rfl
  · intro x hx; rw [h x (List.mem_range.1 hx)]; simp
theorem scanI_at {f : Nat → Int} {n k : Nat} (h : ∀ j, j < k → f j = 0) (hk : k < n) (hne : f k ≠ 0) : scanI f n = k := by
  unfold scanI
  obtain ⟨m, rfl⟩ : ∃ m, n = k + (m + 1) := ⟨n - k - 1, by omega⟩
  rw [List.range_add, List.find?_append, List.find?_eq_none.2, List.range_succ_eq_map]
  · simp [hne]
  · intro x hx; rw [h x (List.mem_range.1 hx)]; simp

def winB (p fr to : Int) : Bool := inB p 1 100000 && inB fr 0 p && inB to 0 p
def winErr (p fr to : Int) : Int := firstNZ [unl (winB p fr to) 2, unl (decide (fr ≤ to)) 9]
def methErr (m : Meth) : Int := firstNZ [cntErr m.cs.length, scan (fun i => clErr (clAt m.cs i)) m.cs.length, winErr m.p m.fr m.to]
def methIdx (m : Meth) : Int := if cntErr m.cs.length = 0 then scanI (fun i => clErr (clAt m.cs i)) m.cs.length else 0
def methChk (m : Meth) : Value := .tuple #[.int .i64 (methIdx m), .int .i64 (methErr m)]

set_option maxRecDepth 100000 in
set_option maxHeartbeats 2000000 in
theorem blind_CheckMethod (m : Meth) (cv : Value) (w : World) (h : ClausesAt w cv m.cs) :
    Calls Try.prog 14 #[methV cv m.p m.fr m.to] w fun e w' => e = .returned (methChk m) ∧ Below w.heap.size w w' := by
  obtain ⟨cs, p, fr, to⟩ := m
  simp only at h ⊢
  obtain ⟨ao, cap, us, rfl, h1, h2, h3⟩ := h.opn
  unfold maxLen at h2
  unfold methV
  by_cases he : cntErr cs.length = 0
  · have HE := hid he
    have he' : (cntErr cs.length != 0) = false := by simpa using he
    clear he
    go_enter Try.func14, Try.ntmps14
    go_wp2_with (go_at_call 74; refine (blind_countErr _ _).mono ?_; rintro _ w1 ⟨rfl, hb1⟩; obtain ⟨hc1, hf1⟩ := bcell hb1; have hz1 := hb1.size; (try simp only [World.size_alloc, World.heap_drewN] at hz1); have hk1_0 : w.heap.size < w1.heap.size := (by omega); have q1_0_0 := hc1 (w.heap.size) 0 (by first | assumption | (simp; done) | (simp; omega)); (try simp at q1_0_0); have p1_0_0 := hf1 (w.heap.size) 0 (by first | assumption | (simp; done) | (simp; omega)); (try simp at p1_0_0); have q1_0_1 := hc1 (w.heap.size) 1 (by first | assumption | (simp; done) | (simp; omega)); (try simp at q1_0_1); have p1_0_1 := hf1 (w.heap.size) 1 (by first | assumption | (simp; done) | (simp; omega)); (try simp at p1_0_1); have q1_0_2 := hc1 (w.heap.size) 2 (by first | assumption | (simp; done) | (simp; omega)); (try simp at q1_0_2); have p1_0_2 := hf1 (w.heap.size) 2 (by first | assumption | (simp; done) | (simp; omega)); (try simp at p1_0_2); have q1_0_3 := hc1 (w.heap.size) 3 (by first | assumption | (simp; done) | (simp; omega)); (try simp at q1_0_3); have p1_0_3 := hf1 (w.heap.size) 3 (by first | assumption | (simp; done) | (simp; omega)); (try simp at p1_0_3))
    have hB1 : Below w.heap.size w w1 := by (repeat (with_reducible first | exact Below.refl _ _ | assumption | refine Below.drewN _ ?_ | refine Below.drew ?_ | refine Below_alloc ?_ _ | refine Below.alloc ?_ (by first | (simp; done) | (simp; omega) | omega) _ | refine Below.setCell ?_ (by first | (simp; done) | (simp; omega) | omega) _ | refine Below_call ?_ (by assumption) | refine Below.trans ?_ (by assumption)))
    have hz01 := hB1.size
    clear hc1 hf1 hb1
    go_loopw [21] (fun i wr => ∃ k : Nat, k ≤ cs.length ∧ i = .int .i64 k ∧ Hid (∀ j, j < k → clErr (clAt cs j) = 0) ∧ Below w1.heap.size w1 wr) (fun i _ => cs.length - (intOf i).toNat)
    case atStart => exact ⟨0, Nat.zero_le _, rfl, hid (fun j hj => by omega), Below.refl _ _⟩
    case round =>
      obtain ⟨k, hk, rfl, HZ, hbel⟩ := hrel
      have hzw := hbel.size
      by_cases hlt : k < cs.length
      · obtain ⟨b, off, rfl, hb, hc⟩ := h3 k hlt
        obtain ⟨c0, hcu⟩ := hc k hlt
        have hB : Below w.heap.size w wr := hB1.trans (hbel.mono hz01)
        rw [← hB.cell (p := ⟨b, off + k, none⟩) hb] at c0
        replace hcu := hcu.below hB
        obtain ⟨cl, hcl⟩ : ∃ cl, cl = clAt cs k := ⟨_, rfl⟩
        rw [← hcl] at hcu
        have HCL := hid hcl
        obtain ⟨ao2, cap2, hus, g1, g2, g3⟩ := hcu.opn
        unfold maxLen at g2
        rw [hus] at c0
        have hbw : b < wr.heap.size := by omega
        clear hc h3 hcl h hcu
        have HU0 := hid (clUp_zero cl)
        have HUE := hid (clUp_end cl)
        go_wp2_with (go_at_call 74; refine (blind_countErr _ _).mono ?_; rintro _ w2 ⟨rfl, hb2⟩; obtain ⟨hc2, hf2⟩ := bcell hb2; have hz2 := hb2.size; (try simp only [World.size_alloc, World.heap_drewN] at hz2))
        rw [← HU0.out]
        have hB2 : Below w1.heap.size w1 w2 := hbel.trans (hb2.mono hzw)
        have hB2' : Below wr.heap.size wr w2 := hb2
        clear hc2 hf2 hb2
        obtain ⟨wo, rfl⟩ : ∃ wo : World, wo = wr := ⟨_, rfl⟩
        go_loopw [7, 31] (fun e i wr => ∃ j : Nat, j ≤ cl.length ∧ e = .int .i64 (clUp cl j) ∧ i = .int .i64 j ∧ Below w2.heap.size w2 wr) (fun _ i _ => cl.length - (intOf i).toNat)
        case atStart => exact ⟨0, Nat.zero_le _, rfl, rfl, Below.refl _ _⟩
        case round =>
          obtain ⟨j, hj, rfl, rfl, hbt⟩ := hrel
          have hzt := hbt.size
          by_cases hl2 : j < cl.length
          · obtain ⟨b2, off2, rfl, hbb, hcc⟩ := g3 j hl2
            obtain ⟨d0, d1, d2⟩ := hcc j hl2
            have hB3 : Below wo.heap.size wo wr := hB2'.trans (hbt.mono hB2'.size)
            obtain ⟨hcb, hfb⟩ := bcell hB3
            rw [← hcb b2 _ hbb] at d0 d1 d2
            have HUS := hid (clUp_succ hl2)
            obtain ⟨x, hx⟩ : ∃ x, x = cutAt cl j := ⟨_, rfl⟩
            rw [← hx] at d0 d1 d2 HUS
            obtain ⟨f, lo, hi⟩ := x
            simp only at d0 d1 d2
            clear hcc g3 hcb hfb hx hB3
            go_wp2_with (first | (go_at_call 76; refine (blind_cutErr f lo hi _).mono ?_; rintro _ w4 ⟨rfl, hb4⟩; obtain ⟨hc4, hf4⟩ := bcell hb4; have hz4 := hb4.size; (try simp only [World.size_alloc, World.heap_drewN] at hz4)) | (go_at_call 75; refine (blind_first [clUp cl j, cutErr ⟨f, lo, hi⟩] _ _ (intsAt_new _ _ _ _ _ rfl (by simp) (by simp))).mono ?_; rintro _ _ ⟨rfl, rfl⟩))
            go_roundw
            case rel => exact ⟨j + 1, by omega, by rw [HUS.out], by go_num, by (repeat (with_reducible first | exact Below.refl _ _ | assumption | refine Below.drewN _ ?_ | refine Below.drew ?_ | refine Below_alloc ?_ _ | refine Below.alloc ?_ (by first | (simp; done) | (simp; omega) | omega) _ | refine Below.setCell ?_ (by first | (simp; done) | (simp; omega) | omega) _ | refine Below_call ?_ (by assumption) | refine Below.trans ?_ (by assumption)))⟩
            case measure => simp [intOf]; omega
          · have hjl : j = cl.length := by omega
            subst hjl
            rw [HUE.out]
            have hB4 : Below w1.heap.size w1 wr := hB2.trans (hbt.mono hB2.size)
            cases ht : (clErr cl != 0)
            · have HT := hid ht
              go_wp2_with fail
              go_roundw
              case rel =>
                refine ⟨k + 1, by omega, by go_num, hid (fun j hj => ?_), hB4⟩
                rcases Nat.lt_or_ge j k with h | h
                · exact HZ.out j h
                · rw [show j = k from by omega, ← HCL.out]; simpa using HT.out
              case measure => simp [intOf]; omega
            · have HT := hid ht
              go_wp2_with fail
              go_ret2
              have hne : clErr (clAt cs k) ≠ 0 := by rw [← HCL.out]; simpa using HT.out
              have e1 := scan_at (f := fun i => clErr (clAt cs i)) HZ.out hlt hne
              have e2 := scanI_at (f := fun i => clErr (clAt cs i)) HZ.out hlt hne
              refine ⟨?_, hB1.trans (hB4.mono hz01)⟩
              simp only [methChk, methIdx, methErr, HE.out, e1, e2, if_true]
              simp [firstNZ, HCL.out, hne]
      · obtain ⟨hcb, hfb⟩ := bcell hbel
        have hB : Below w.heap.size w wr := hB1.trans (hbel.mono hz01)
        have r0 := (hcb w.heap.size 0 hk1_0).trans q1_0_0
        have r1 := (hcb w.heap.size 1 hk1_0).trans q1_0_1
        have r2 := (hcb w.heap.size 2 hk1_0).trans q1_0_2
        have r3 := (hcb w.heap.size 3 hk1_0).trans q1_0_3
        have hNw : w.heap.size < wr.heap.size := by omega
        have e1 := scan_end (f := fun i => clErr (clAt cs i)) (n := cs.length) fun j hj => HZ.out j (by omega)
        have e2 := scanI_end (f := fun i => clErr (clAt cs i)) (n := cs.length) fun j hj => HZ.out j (by omega)
        have HM : Hid (methChk ⟨cs, p, fr, to⟩ = .tuple #[.int .i64 0, .int .i64 (winErr p fr to)]) := hid (by
          simp only [methChk, methIdx, methErr, HE.out, e1, e2, if_true]
          simp only [firstNZ, if_true]
          congr 4
          split
          · rename_i h; rw [h]
          · rfl)
        have HW : Hid (winErr p fr to = firstNZ [unl (winB p fr to) 2, unl (decide (fr ≤ to)) 9]) := hid rfl
        clear e1 e2 hcb hfb h3 h
        go_wp2_with (go_at_call 77; refine (blind_within _ _ _ _).mono ?_; rintro _ _ ⟨rfl, rfl⟩)
        all_goals (try simp only [Bool.not_eq_true', Bool.not_eq_false', Bool.not_eq_true, Bool.not_eq_false] at *)
        all_goals
          ((refine wp_three [] [0, 1, 2, 3, 4, 5, 6, 7] 8 (by kernel_rfl) (by kernel_rfl) ?_); (intro _ _); (simp only [pick, List.drop_succ_cons, List.drop_zero, List.head?_cons, Option.toList_some, List.cons_append, List.nil_append]); (repeat (first | (go_big_quiet_step ((go_at_call 78; exact quiet_same (blind_unless _ _ _) ⟨_, rfl⟩))) | (quiet_step ((go_at_call 78; exact quiet_same (blind_unless _ _ _) ⟨_, rfl⟩))))); (try refine wpQuiet_nil ?_); (repeat (first | (go_big_quiet_step ((go_at_call 78; exact quiet_same (blind_unless _ _ _) ⟨_, rfl⟩))) | (quiet_step ((go_at_call 78; exact quiet_same (blind_unless _ _ _) ⟨_, rfl⟩))))); (try refine wpQuiet_nil ?_); (intro nq))
          go_wp2_with (first | (go_at_call 75; refine (blind_first [unl false 2, unl (decide (fr ≤ to)) 9] _ _ (intsAt_new _ _ _ _ _ rfl (by simp) (by simp))).mono ?_; rintro _ _ ⟨rfl, rfl⟩) | (go_at_call 75; refine (blind_first [unl (inB to 0 p) 2, unl (decide (fr ≤ to)) 9] _ _ (intsAt_new _ _ _ _ _ rfl (by simp) (by simp))).mono ?_; rintro _ _ ⟨rfl, rfl⟩))
          go_ret2
          refine ⟨?_, by (repeat (with_reducible first | exact Below.refl _ _ | assumption | refine Below.drewN _ ?_ | refine Below.drew ?_ | refine Below_alloc ?_ _ | refine Below.alloc ?_ (by first | (simp; done) | (simp; omega) | omega) _ | refine Below.setCell ?_ (by first | (simp; done) | (simp; omega) | omega) _ | refine Below_call ?_ (by assumption) | refine Below.trans ?_ (by assumption)))⟩
          rw [HM.out, HW.out]
          simp [winB, *]
  · have he' : (cntErr cs.length != 0) = true := by simpa using he
    have HE := hid he
    clear he
    go_enter Try.func14, Try.ntmps14
    go_wp2_with (go_at_call 74; refine (blind_countErr _ _).mono ?_; rintro _ w1 ⟨rfl, hb1⟩; obtain ⟨hc1, hf1⟩ := bcell hb1; have hz1 := hb1.size; (try simp only [World.size_alloc, World.heap_drewN] at hz1))
    go_ret2
    refine ⟨?_, by (repeat (with_reducible first | exact Below.refl _ _ | assumption | refine Below.drewN _ ?_ | refine Below.drew ?_ | refine Below_alloc ?_ _ | refine Below.alloc ?_ (by first | (simp; done) | (simp; omega) | omega) _ | refine Below.setCell ?_ (by first | (simp; done) | (simp; omega) | omega) _ | refine Below_call ?_ (by assumption) | refine Below.trans ?_ (by assumption)))⟩
    simp [methChk, methIdx, methErr, HE.out, firstNZ]

end Go.Proofs.Ytllddidjiabegaa

/- The reference's check of methods, and the errors alone. -/
set_option linter.unusedVariables false
set_option linter.unusedSimpArgs false
namespace Go.Proofs.Ytllddidjiabegaa
open Go.RowKit

theorem cntErr_zero {n : Int} (h : n ≤ 0) : cntErr n = 10 := by
  have : ¬ 0 < n := by omega
  simp [cntErr, unl, firstNZ, this]
theorem cntErr_big {n : Int} (h : 4 < n) : cntErr n = 8 := by
  have h1 : 0 < n := by omega
  have h2 : ¬ n ≤ 4 := by omega
  simp [cntErr, unl, firstNZ, h1, h2]
theorem cntErr_ok {n : Int} (h : 0 < n) (h' : n ≤ 4) : cntErr n = 0 := by simp [cntErr, unl, firstNZ, h, h']
theorem clErr_cnt {l : List Cut} (h : cntErr l.length ≠ 0) : clErr l = cntErr l.length := by simp [clErr, firstNZ, h]
theorem clErr_scan {l : List Cut} (h : cntErr l.length = 0) : clErr l = scan (fun j => cutErr (cutAt l j)) l.length := by
  unfold clErr scan
  simp only [firstNZ, h, if_true]
  congr 1
  apply List.ext_getElem (by simp)
  intro i h1 h2
  have h3 : i < l.length := by simpa using h1
  simp [cutAt_lt h3]

set_option maxRecDepth 100000 in
set_option maxHeartbeats 4000000 in
theorem ref_CheckMethod (m : Meth) (cv : Value) (w : World) (h : ClausesAt w cv m.cs) :
    Calls Try.prog 19 #[methV cv m.p m.fr m.to] w fun e w' => e = .returned (methChk m) ∧ Below w.heap.size w w' := by
  obtain ⟨cs, p, fr, to⟩ := m
  simp only at h ⊢
  obtain ⟨ao, cap, us, rfl, h1, h2, h3⟩ := h.opn
  unfold maxLen at h2
  unfold methV
  by_cases hn0 : cs.length = 0
  · have HM : Hid (methChk ⟨cs, p, fr, to⟩ = .tuple #[.int .i64 0, .int .i64 10]) := hid (by
      have e := cntErr_zero (n := cs.length) (by omega)
      simp only [methChk, methIdx, methErr, e]; simp [firstNZ])
    go_enter Try.func19, Try.ntmps19
    go_wp2_with fail
    go_ret2
    exact ⟨by simp [HM.out], by (repeat (with_reducible first | exact Below.refl _ _ | assumption | refine Below.drewN _ ?_ | refine Below.drew ?_ | refine Below_alloc ?_ _ | refine Below.alloc ?_ (by first | (simp; done) | (simp; omega) | omega) _ | refine Below.setCell ?_ (by first | (simp; done) | (simp; omega) | omega) _ | refine Below_call ?_ (by assumption) | refine Below.trans ?_ (by assumption)))⟩
  by_cases hn4 : 4 < cs.length
  · have HM : Hid (methChk ⟨cs, p, fr, to⟩ = .tuple #[.int .i64 0, .int .i64 8]) := hid (by
      have e := cntErr_big (n := cs.length) (by omega)
      simp only [methChk, methIdx, methErr, e]; simp [firstNZ])
    go_enter Try.func19, Try.ntmps19
    go_wp2_with fail
    go_ret2
    exact ⟨by simp [HM.out], by (repeat (with_reducible first | exact Below.refl _ _ | assumption | refine Below.drewN _ ?_ | refine Below.drew ?_ | refine Below_alloc ?_ _ | refine Below.alloc ?_ (by first | (simp; done) | (simp; omega) | omega) _ | refine Below.setCell ?_ (by first | (simp; done) | (simp; omega) | omega) _ | refine Below_call ?_ (by assumption) | refine Below.trans ?_ (by assumption)))⟩
  have HE : Hid (cntErr cs.length = 0) := hid (cntErr_ok (by omega) (by omega))
  have hn0' : ((cs.length : Int) == 0) = false := by rw [beq_eq_false_iff_ne]; omega
  go_enter Try.func19, Try.ntmps19
  go_wp2_with fail
  obtain ⟨W0, hW0⟩ : ∃ W0, W0 = w.alloc (.cells #[.slice ao cs.length cap, .int .i64 p, .int .i64 fr, .int .i64 to] 24) := ⟨_, rfl⟩
  have r0 : W0.cell? ⟨w.heap.size, 0, none⟩ = some (.slice ao cs.length cap) := by rw [hW0]; simp
  have r1 : W0.cell? ⟨w.heap.size, 1, none⟩ = some (.int .i64 p) := by rw [hW0]; simp
  have r2 : W0.cell? ⟨w.heap.size, 2, none⟩ = some (.int .i64 fr) := by rw [hW0]; simp
  have r3 : W0.cell? ⟨w.heap.size, 3, none⟩ = some (.int .i64 to) := by rw [hW0]; simp
  have hz0 : w.heap.size + 1 ≤ W0.heap.size := by rw [hW0]; simp
  have hBW : Below w.heap.size w W0 := by rw [hW0]; (repeat (with_reducible first | exact Below.refl _ _ | assumption | refine Below.drewN _ ?_ | refine Below.drew ?_ | refine Below_alloc ?_ _ | refine Below.alloc ?_ (by first | (simp; done) | (simp; omega) | omega) _ | refine Below.setCell ?_ (by first | (simp; done) | (simp; omega) | omega) _ | refine Below_call ?_ (by assumption) | refine Below.trans ?_ (by assumption)))
  rw [← hW0]
  clear hW0
  go_loopw [4] (fun i wr => ∃ k : Nat, k ≤ cs.length ∧ i = .int .i64 k ∧ Hid (∀ j, j < k → clErr (clAt cs j) = 0) ∧ Below W0.heap.size W0 wr) (fun i _ => cs.length - (intOf i).toNat)
  case atStart => exact ⟨0, Nat.zero_le _, rfl, hid (fun j hj => by omega), Below.refl _ _⟩
  case round =>
    obtain ⟨k, hk, rfl, HZ, hbel⟩ := hrel
    have hzw := hbel.size
    obtain ⟨hcb, hfb⟩ := bcell hbel
    have s0 := (hcb w.heap.size 0 (by omega)).trans r0
    have s1 := (hcb w.heap.size 1 (by omega)).trans r1
    have s2 := (hcb w.heap.size 2 (by omega)).trans r2
    have s3 := (hcb w.heap.size 3 (by omega)).trans r3
    have hNw : w.heap.size < wr.heap.size := by omega
    by_cases hlt : k < cs.length
    · obtain ⟨b, off, rfl, hb, hc⟩ := h3 k hlt
      obtain ⟨c0, hcu⟩ := hc k hlt
      have hB : Below w.heap.size w wr := hBW.trans (hbel.mono (by omega))
      rw [← hB.cell (p := ⟨b, off + k, none⟩) hb] at c0
      replace hcu := hcu.below hB
      obtain ⟨cl, hcl⟩ : ∃ cl, cl = clAt cs k := ⟨_, rfl⟩
      rw [← hcl] at hcu
      have HCL := hid hcl
      obtain ⟨ao2, cap2, hus, g1, g2, g3⟩ := hcu.opn
      unfold maxLen at g2
      rw [hus] at c0
      have hbw : b < wr.heap.size := by omega
      have HBAD : Hid (∀ e : Int, clErr cl = e → e ≠ 0 → methChk ⟨cs, p, fr, to⟩ = .tuple #[.int .i64 k, .int .i64 e]) := hid (by
        intro e he hne
        have hne' : clErr (clAt cs k) ≠ 0 := by rw [← hcl, he]; exact hne
        have e1 := scan_at (f := fun i => clErr (clAt cs i)) HZ.out hlt hne'
        have e2 := scanI_at (f := fun i => clErr (clAt cs i)) HZ.out hlt hne'
        simp only [methChk, methIdx, methErr, HE.out, e1, e2, if_true]
        rw [← hcl, he]
        simp [firstNZ, hne])
      clear hc h3 hcl h hcu hcb hfb
      by_cases hl0 : cl.length = 0
      · have hb0 := HBAD.out 10 (by rw [clErr_cnt (by rw [cntErr_zero (by omega)]; decide), cntErr_zero (by omega)]) (by decide)
        have HB0 := hid hb0
        clear hb0
        go_wp2_with fail
        go_ret2
        exact ⟨by simp [HB0.out], by (repeat (with_reducible first | exact Below.refl _ _ | assumption | refine Below.drewN _ ?_ | refine Below.drew ?_ | refine Below_alloc ?_ _ | refine Below.alloc ?_ (by first | (simp; done) | (simp; omega) | omega) _ | refine Below.setCell ?_ (by first | (simp; done) | (simp; omega) | omega) _ | refine Below_call ?_ (by assumption) | refine Below.trans ?_ (by assumption)))⟩
      by_cases hl4 : 4 < cl.length
      · have hb0 := HBAD.out 8 (by rw [clErr_cnt (by rw [cntErr_big (by omega)]; decide), cntErr_big (by omega)]) (by decide)
        have HB0 := hid hb0
        clear hb0
        have hl0' : ((cl.length : Int) == 0) = false := by rw [beq_eq_false_iff_ne]; omega
        go_wp2_with fail
        go_ret2
        exact ⟨by simp [HB0.out], by (repeat (with_reducible first | exact Below.refl _ _ | assumption | refine Below.drewN _ ?_ | refine Below.drew ?_ | refine Below_alloc ?_ _ | refine Below.alloc ?_ (by first | (simp; done) | (simp; omega) | omega) _ | refine Below.setCell ?_ (by first | (simp; done) | (simp; omega) | omega) _ | refine Below_call ?_ (by assumption) | refine Below.trans ?_ (by assumption)))⟩
      have hl0' : ((cl.length : Int) == 0) = false := by rw [beq_eq_false_iff_ne]; omega
      have HSC : Hid (clErr cl = scan (fun j => cutErr (cutAt cl j)) cl.length) := hid (clErr_scan (cntErr_ok (by omega) (by omega)))
      go_wp2_with fail
      obtain ⟨wo, rfl⟩ : ∃ wo : World, wo = wr := ⟨_, rfl⟩
      go_loopw [5] (fun i wr => ∃ j : Nat, j ≤ cl.length ∧ i = .int .i64 j ∧ Hid (∀ q, q < j → cutErr (cutAt cl q) = 0) ∧ Below wo.heap.size wo wr) (fun i _ => cl.length - (intOf i).toNat)
      case atStart => exact ⟨0, Nat.zero_le _, rfl, hid (fun j hj => by omega), Below.refl _ _⟩
      case round =>
        obtain ⟨j, hj, rfl, HZ2, hbt⟩ := hrel
        have hzt := hbt.size
        obtain ⟨hcb, hfb⟩ := bcell hbt
        have t0 := (hcb w.heap.size 0 hNw).trans s0
        have t1 := (hcb b (off + k) hbw).trans c0
        have hNw' : w.heap.size < wr.heap.size := by omega
        have hbw' : b < wr.heap.size := by omega
        have hBX : Below w.heap.size w wr := hB.trans (hbt.mono hB.size)
        by_cases hl2 : j < cl.length
        · obtain ⟨b2, off2, rfl, hbb, hcc⟩ := g3 j hl2
          obtain ⟨d0, d1, d2⟩ := hcc j hl2
          rw [← hcb b2 _ hbb] at d0 d1 d2
          have hbb' : b2 < wr.heap.size := by omega
          obtain ⟨x, hx⟩ : ∃ x, x = cutAt cl j := ⟨_, rfl⟩
          rw [← hx] at d0 d1 d2
          have HX := hid hx
          obtain ⟨f, lo, hi⟩ := x
          simp only at d0 d1 d2
          have HBAD2 : Hid (∀ e : Int, cutErr ⟨f, lo, hi⟩ = e → e ≠ 0 → methChk ⟨cs, p, fr, to⟩ = .tuple #[.int .i64 k, .int .i64 e]) := hid (by
            intro e he hne
            refine HBAD.out e ?_ hne
            rw [HSC.out, scan_at (f := fun j => cutErr (cutAt cl j)) HZ2.out hl2 (by rw [← hx, he]; exact hne), ← hx, he])
          have HOK : Hid (cutErr ⟨f, lo, hi⟩ = 0 → ∀ q, q < j + 1 → cutErr (cutAt cl q) = 0) := hid (by
            intro he q hq
            rcases Nat.lt_or_ge q j with h | h
            · exact HZ2.out q h
            · rw [show q = j from by omega, ← hx]; exact he)
          clear hcc g3 hcb hfb hx
          go_wp2_with (first | (go_at_call 44; refine (base_Within _ _ _ _).mono ?_; rintro _ _ ⟨rfl, rfl⟩) | (go_at_call 83; refine (ref_isField _ _).mono ?_; rintro _ _ ⟨rfl, rfl⟩))
          all_goals (try simp only [Bool.not_eq_true', Bool.not_eq_false', Bool.not_eq_true, Bool.not_eq_false] at *)
          all_goals first
            | (have HQ : cutErr ⟨f, lo, hi⟩ = 15 := (by simp [cutErr, firstNZ, unl, *]; done)
               go_ret2; refine ⟨?_, by (repeat (with_reducible first | exact Below.refl _ _ | assumption | refine Below.drewN _ ?_ | refine Below.drew ?_ | refine Below_alloc ?_ _ | refine Below.alloc ?_ (by first | (simp; done) | (simp; omega) | omega) _ | refine Below.setCell ?_ (by first | (simp; done) | (simp; omega) | omega) _ | refine Below_call ?_ (by assumption) | refine Below.trans ?_ (by assumption)))⟩; simp [HBAD2.out 15 HQ (by decide)]; done)
            | (have HQ : cutErr ⟨f, lo, hi⟩ = 2 := (by simp [cutErr, firstNZ, unl, *]; done)
               go_ret2; refine ⟨?_, by (repeat (with_reducible first | exact Below.refl _ _ | assumption | refine Below.drewN _ ?_ | refine Below.drew ?_ | refine Below_alloc ?_ _ | refine Below.alloc ?_ (by first | (simp; done) | (simp; omega) | omega) _ | refine Below.setCell ?_ (by first | (simp; done) | (simp; omega) | omega) _ | refine Below_call ?_ (by assumption) | refine Below.trans ?_ (by assumption)))⟩; simp [HBAD2.out 2 HQ (by decide)]; done)
            | (have hlh : ¬ lo ≤ hi := (by omega)
               have HQ : cutErr ⟨f, lo, hi⟩ = 9 := (by simp [cutErr, firstNZ, unl, *]; done)
               go_ret2; refine ⟨?_, by (repeat (with_reducible first | exact Below.refl _ _ | assumption | refine Below.drewN _ ?_ | refine Below.drew ?_ | refine Below_alloc ?_ _ | refine Below.alloc ?_ (by first | (simp; done) | (simp; omega) | omega) _ | refine Below.setCell ?_ (by first | (simp; done) | (simp; omega) | omega) _ | refine Below_call ?_ (by assumption) | refine Below.trans ?_ (by assumption)))⟩; simp [HBAD2.out 9 HQ (by decide)]; done)
            | skip
          go_roundw
          case rel => exact ⟨j + 1, by omega, by go_num, hid (HOK.out (by simp [cutErr, firstNZ, unl, *])), by (repeat (with_reducible first | exact Below.refl _ _ | assumption | refine Below.drewN _ ?_ | refine Below.drew ?_ | refine Below_alloc ?_ _ | refine Below.alloc ?_ (by first | (simp; done) | (simp; omega) | omega) _ | refine Below.setCell ?_ (by first | (simp; done) | (simp; omega) | omega) _ | refine Below_call ?_ (by assumption) | refine Below.trans ?_ (by assumption)))⟩
          case measure => simp [intOf]; omega
        · have hjl : j = cl.length := by omega
          subst hjl
          go_wp2_with fail
          go_roundw
          case rel =>
            refine ⟨k + 1, by omega, by go_num, hid (fun q hq => ?_), hbel.trans (hbt.mono hzw)⟩
            rcases Nat.lt_or_ge q k with h | h
            · exact HZ.out q h
            · rw [show q = k from by omega, ← HCL.out, HSC.out, scan_end (f := fun j => cutErr (cutAt cl j)) fun j hj => HZ2.out j hj]
          case measure => simp [intOf]; omega
    · have e1 := scan_end (f := fun i => clErr (clAt cs i)) (n := cs.length) fun j hj => HZ.out j (by omega)
      have e2 := scanI_end (f := fun i => clErr (clAt cs i)) (n := cs.length) fun j hj => HZ.out j (by omega)
      have HM : Hid (methChk ⟨cs, p, fr, to⟩ = .tuple #[.int .i64 0, .int .i64 (winErr p fr to)]) := hid (by
        simp only [methChk, methIdx, methErr, HE.out, e1, e2, if_true]
        simp only [firstNZ, if_true]
        congr 4
        split
        · rename_i h; rw [h]
        · rfl)
      clear e1 e2 hcb hfb h3 h
      go_wp2_with (go_at_call 44; refine (base_Within _ _ _ _).mono ?_; rintro _ _ ⟨rfl, rfl⟩)
      all_goals (try simp only [Bool.not_eq_true', Bool.not_eq_false', Bool.not_eq_true, Bool.not_eq_false] at *)
      all_goals go_ret2
      all_goals refine ⟨?_, by (repeat (with_reducible first | exact Below.refl _ _ | assumption | refine Below.drewN _ ?_ | refine Below.drew ?_ | refine Below_alloc ?_ _ | refine Below.alloc ?_ (by first | (simp; done) | (simp; omega) | omega) _ | refine Below.setCell ?_ (by first | (simp; done) | (simp; omega) | omega) _ | refine Below_call ?_ (by assumption) | refine Below.trans ?_ (by assumption)))⟩
      all_goals rw [HM.out]
      all_goals first
        | (simp [winErr, winB, unl, firstNZ, *]; done)
        | (simp [winErr, winB, unl, firstNZ, *]; omega)

end Go.Proofs.Ytllddidjiabegaa

