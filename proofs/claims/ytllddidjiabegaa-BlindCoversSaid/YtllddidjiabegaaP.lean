/- Permutations and keys, both sides. -/
import Derived.Test.YtllddidjiabegaaO
set_option linter.unusedVariables false
set_option linter.unusedSimpArgs false
namespace Go.Proofs.Ytllddidjiabegaa
open Go.RowKit

/-- all cells of n elements of sz cells. -/
def flat (n sz : Nat) (c : Nat → Nat → Value) : List Value := (List.range (n * sz)).map fun q => c (q / sz) (q % sz)
theorem flat_len (n sz : Nat) (c : Nat → Nat → Value) : (flat n sz c).length = n * sz := by simp [flat]
theorem flat_at {n sz : Nat} {c : Nat → Nat → Value} {q : Nat} {u : Value} (h : (flat n sz c)[q]? = some u) : q < n * sz ∧ u = c (q / sz) (q % sz) := by
  have hq : q < n * sz := by have := (List.getElem?_eq_some_iff.1 h).1; simpa [flat] using this
  refine ⟨hq, ?_⟩
  simp [flat, hq] at h
  exact h.symm
theorem flat_get {n sz : Nat} {c : Nat → Nat → Value} {q : Nat} (h : q < n * sz) : (flat n sz c)[q]? = some (c (q / sz) (q % sz)) := by simp [flat, h]
theorem flat_congr {n sz : Nat} {c d : Nat → Nat → Value} (h : ∀ i j, i < n → j < sz → c i j = d i j) : flat n sz c = flat n sz d := by
  unfold flat
  refine List.map_congr_left fun q hq => ?_
  have hq' : q < n * sz := List.mem_range.1 hq
  have hs : 0 < sz := Nat.pos_of_ne_zero (by rintro rfl; simp at hq')
  exact h _ _ (Nat.div_lt_of_lt_mul (by rwa [Nat.mul_comm])) (Nat.mod_lt _ hs)
theorem flat_ints (l : List Int) : flat l.length 1 (fun i _ => .int .i64 (nth l i)) = l.map (Value.int .i64) := by
  apply List.ext_getElem (by simp [flat])
  intro i h1 h2
  have h3 : i < l.length := by simpa using h2
  simp [flat, nth, List.getD, h3]

/-- is a number in a list: simp does not look into it. -/
def hasI (l : List Int) (x : Int) : Bool := l.contains x
theorem hasI_mem {l : List Int} {x : Int} : hasI l x = true ↔ x ∈ l := by simp [hasI]

/-- the source of an append. -/
theorem SlAt.src {w : World} {v : Value} {n sz : Nat} {c : Nat → Nat → Value} (h : SlAt w v n sz c) : ∃ ao cap, v = .slice ao n cap ∧ n ≤ cap ∧ cap ≤ maxLen ∧
    ∀ W : World, Below w.heap.size w W → ((ao = none ∧ n = 0 ∧ cap = 0) ∨ ∃ ad, ao = some ad ∧ ∀ q u, (flat n sz c)[q]? = some u → W.cell? (ad.add q) = some u) := by
  obtain ⟨ao, cap, rfl, h1, h2, h3, h4⟩ := h
  refine ⟨ao, cap, rfl, h1, h2, fun W hW => ?_⟩
  by_cases hn : 0 < n
  · obtain ⟨b, off, e, hlt, hc⟩ := h3 hn
    refine Or.inr ⟨_, e, fun q u hq => ?_⟩
    obtain ⟨hq1, rfl⟩ := flat_at hq
    have hs : 0 < sz := Nat.pos_of_ne_zero (by rintro rfl; simp at hq1)
    have hi : q / sz < n := Nat.div_lt_of_lt_mul (by rwa [Nat.mul_comm])
    rw [add_plain', ← hc (q / sz) (q % sz) hi (Nat.mod_lt _ hs), show off + q / sz * sz + q % sz = off + q from by rw [Nat.add_assoc, Nat.mul_comm, Nat.div_add_mod]]
    exact hW.cell (p := ⟨b, off + q, none⟩) hlt
  · have hn0 : n = 0 := by omega
    subst hn0
    cases ao with
    | none => exact Or.inl ⟨rfl, rfl, h4 rfl⟩
    | some ad => exact Or.inr ⟨ad, rfl, fun q u hq => absurd (flat_at hq).1 (by omega)⟩

theorem IntsAt.src {w : World} {v : Value} {l : List Int} (h : IntsAt w v l) : ∃ ao cap, v = .slice ao l.length cap ∧ l.length ≤ cap ∧ cap ≤ maxLen ∧
    ∀ W : World, Below w.heap.size w W → ((ao = none ∧ l.length = 0 ∧ cap = 0) ∨ ∃ ad, ao = some ad ∧ ∀ q u, (l.map (Value.int .i64))[q]? = some u → W.cell? (ad.add q) = some u) := by
  have := SlAt.src h
  rwa [show flat l.length 1 (fun i _ => Value.int .i64 (l.getD i 0)) = l.map (Value.int .i64) from flat_ints l] at this

/-- the first part of a slice of ints. -/
theorem intsAt_take {w : World} {l : List Int} {b off cap k : Nat} (hc : ∀ i, i < l.length → w.cell? ⟨b, off + i, none⟩ = some (.int .i64 (nth l i))) (hb : b < w.heap.size) (hk : k ≤ l.length) (h1 : l.length ≤ cap) (h2 : cap ≤ maxLen) :
    IntsAt w (.slice (some ⟨b, off, none⟩) k cap) (l.take k) := by
  have hl : (l.take k).length = k := by simp; omega
  refine ⟨some ⟨b, off, none⟩, cap, by rw [hl], by omega, h2, fun _ => ⟨b, off, rfl, hb, fun i j hi hj => ?_⟩, fun h => by cases h⟩
  rw [hl] at hi
  obtain rfl : j = 0 := by omega
  show w.cell? _ = some (.int .i64 (nth (l.take k) i))
  rw [nth_take hi]
  simpa using hc i (by omega)

theorem contains_take_succ {l : List Int} {k : Nat} (h : k < l.length) (x : Int) : hasI (l.take (k + 1)) x = (hasI (l.take k) x || nth l k == x) := by
  rw [take_nth h, Bool.eq_iff_iff, Bool.or_eq_true, hasI_mem, hasI_mem, List.mem_append, List.mem_singleton, beq_iff_eq, eq_comm (a := x)]

theorem slices_Index (l : List Int) (v : Value) (x : Int) (w : World) (h : IntsAt w v l) :
    Calls Try.prog 146 #[v, .int .i64 x] w fun e w' => ∃ r : Int, e = .returned (.int .i64 r) ∧ decide (0 ≤ r) = hasI l x ∧ w = w' := by
  obtain ⟨ao, cap, rfl, h1, h2, h3⟩ := h.opn
  unfold maxLen at h2
  go_enter Try.func146, Try.ntmps146
  go_wp2_with fail
  go_loop [8] (fun i => ∃ k : Nat, k ≤ l.length ∧ i = .int .i64 k ∧ Hid (hasI (l.take k) x = false)) (fun i => l.length - (intOf i).toNat)
  case atStart => exact ⟨0, Nat.zero_le _, rfl, hid (by simp [hasI])⟩
  case round =>
    obtain ⟨k, hk, rfl, HZ⟩ := hrel
    by_cases hlt : k < l.length
    · obtain ⟨b, off, rfl, hb, hc⟩ := h3 k hlt
      have hck := hc k hlt
      obtain ⟨y, hy⟩ : ∃ y, y = nth l k := ⟨_, rfl⟩
      rw [← hy] at hck
      have HY := hid hy
      clear hc h3 hy
      cases ht : (x == y)
      · have HT := hid ht
        go_wp2_with fail
        go_round
        case rel => exact ⟨k + 1, by omega, by go_num, hid (by rw [contains_take_succ hlt, HZ.out, ← HY.out]; have := HT.out; simp at this ⊢; exact fun h => this h.symm)⟩
        case measure => simp [intOf]; omega
      · have HT := hid ht
        go_wp2_with fail
        go_ret
        refine ⟨k, rfl, ?_, rfl⟩
        have hxy : x = y := by simpa using HT.out
        have : x ∈ l := by rw [hxy, HY.out, nth_lt hlt]; exact List.getElem_mem _
        simp [hasI, this]
    · have hkl : k = l.length := by omega
      subst hkl
      go_wp2_with fail
      go_ret
      refine ⟨-1, rfl, ?_, rfl⟩
      have := HZ.out
      rw [List.take_length] at this
      rw [this]; rfl

theorem slices_Contains (l : List Int) (v : Value) (x : Int) (w : World) (h : IntsAt w v l) :
    Calls Try.prog 114 #[v, .int .i64 x] w fun e w' => e = .returned (.bool (hasI l x)) ∧ w = w' := by
  go_enter Try.func114, Try.ntmps114
  go_wp2_with (go_at_call 146; refine (slices_Index _ _ _ _ h).mono ?_; rintro _ _ ⟨r, rfl, hr, rfl⟩)
  go_ret
  exact ⟨ret_bool (by rw [← hr]), rfl⟩

theorem base_Has (l : List Int) (v : Value) (x : Int) (w : World) (h : IntsAt w v l) :
    Calls Try.prog 115 #[v, .int .i64 x] w fun e w' => e = .returned (.bool (hasI l x)) ∧ w = w' := by
  obtain ⟨ao, cap, rfl, h1, h2, h3⟩ := h.opn
  unfold maxLen at h2
  go_enter Try.func115, Try.ntmps115
  go_wp2_with fail
  go_loop [5] (fun i => ∃ k : Nat, k ≤ l.length ∧ i = .int .i64 k ∧ Hid (hasI (l.take k) x = false)) (fun i => l.length - (intOf i).toNat)
  case atStart => exact ⟨0, Nat.zero_le _, rfl, hid (by simp [hasI])⟩
  case round =>
    obtain ⟨k, hk, rfl, HZ⟩ := hrel
    by_cases hlt : k < l.length
    · obtain ⟨b, off, rfl, hb, hc⟩ := h3 k hlt
      have hck := hc k hlt
      obtain ⟨y, hy⟩ : ∃ y, y = nth l k := ⟨_, rfl⟩
      rw [← hy] at hck
      have HY := hid hy
      clear hc h3 hy
      cases ht : (y == x)
      · have HT := hid ht
        go_wp2_with fail
        go_round
        case rel => exact ⟨k + 1, by omega, by go_num, hid (by rw [contains_take_succ hlt, HZ.out, ← HY.out, HT.out]; rfl)⟩
        case measure => simp [intOf]; omega
      · have HT := hid ht
        go_wp2_with fail
        go_ret
        refine ⟨ret_bool ?_, rfl⟩
        have hxy : y = x := by simpa using HT.out
        have : x ∈ l := by rw [← hxy, HY.out, nth_lt hlt]; exact List.getElem_mem _
        simp [hasI, this]
    · have hkl : k = l.length := by omega
      subst hkl
      go_wp2_with fail
      go_ret
      refine ⟨ret_bool ?_, rfl⟩
      have := HZ.out
      rw [List.take_length] at this
      rw [this]

/-- the same numbers. -/
theorem base_Ints (l m : List Int) (v u : Value) (w : World) (h : IntsAt w v l) (h' : IntsAt w u m) :
    Calls Try.prog 21 #[v, u] w fun e w' => e = .returned (.bool (decide (l = m))) ∧ ∃ k, w' = w.drewN k := by
  obtain ⟨ao, cap, rfl, h1, h2, h3⟩ := h.opn
  obtain ⟨ao', cap', rfl, h1', h2', h3'⟩ := h'.opn
  unfold maxLen at h2 h2'
  by_cases hlen : l.length = m.length
  · rw [← hlen] at h3' h1' ⊢
    have HLEN := hid hlen
    clear hlen h h'
    go_enter Try.func21, Try.ntmps21
    go_wp2_with fail
    go_loopw [5] (fun i wr => ∃ k : Nat, k ≤ l.length ∧ i = .int .i64 k ∧ Hid (l.take k = m.take k) ∧ ∃ q, wr = w.drewN q) (fun i _ => l.length - (intOf i).toNat)
    case atStart => exact ⟨0, Nat.zero_le _, rfl, hid (by simp), 0, rfl⟩
    case round =>
      obtain ⟨k, hk, rfl, HZ, q, rfl⟩ := hrel
      by_cases hlt : k < l.length
      · obtain ⟨b, off, rfl, hb, hc⟩ := h3 k hlt
        obtain ⟨b', off', rfl, hb', hc'⟩ := h3' k hlt
        have hck := hc k hlt
        have hck' := hc' k hlt
        obtain ⟨y, hy⟩ : ∃ y, y = nth l k := ⟨_, rfl⟩
        obtain ⟨y', hy'⟩ : ∃ y', y' = nth m k := ⟨_, rfl⟩
        rw [← hy] at hck
        rw [← hy'] at hck'
        have HY := hid hy
        have HY' := hid hy'
        clear hc h3 hc' h3' hy hy'
        cases ht : (y != y')
        · have HT := hid ht
          go_wp2_with fail
          ((refine wp_three [] [0, 1, 2, 3, 4, 5, 6, 7] 8 (by kernel_rfl) (by kernel_rfl) ?_); (intro _ _); (simp only [pick, List.drop_succ_cons, List.drop_zero, List.head?_cons, Option.toList_some, List.cons_append, List.nil_append]); (repeat (first | (go_big_quiet_step (fail)) | (quiet_step (fail)))); (try refine wpQuiet_nil ?_); (repeat (first | (go_big_quiet_step (fail)) | (quiet_step (fail)))); (try refine wpQuiet_nil ?_); (intro nq))
          go_wp2
          go_roundw
          case rel =>
            refine ⟨k + 1, by omega, by go_num, hid ?_, q + nq, by simp⟩
            have : y = y' := by simpa using HT.out
            rw [take_nth hlt, take_nth (by have := HLEN.out; omega), HZ.out, ← HY.out, ← HY'.out, this]
          case measure => simp [intOf]; omega
        · have HT := hid ht
          go_wp2_with fail
          ((refine wp_three [] [0, 1, 2, 3, 4, 5, 6, 7] 8 (by kernel_rfl) (by kernel_rfl) ?_); (intro _ _); (simp only [pick, List.drop_succ_cons, List.drop_zero, List.head?_cons, Option.toList_some, List.cons_append, List.nil_append]); (repeat (first | (go_big_quiet_step (fail)) | (quiet_step (fail)))); (try refine wpQuiet_nil ?_); (repeat (first | (go_big_quiet_step (fail)) | (quiet_step (fail)))); (try refine wpQuiet_nil ?_); (intro nq))
          go_wp2
          go_ret
          refine ⟨ret_bool ?_, q + nq, by simp⟩
          have hne : y ≠ y' := by simpa using HT.out
          have : l ≠ m := fun e => hne (by rw [HY.out, HY'.out, e])
          simp [this]
      · have hkl : k = l.length := by omega
        subst hkl
        go_wp2_with fail
        go_ret
        refine ⟨ret_bool ?_, q, rfl⟩
        have := HZ.out
        rw [List.take_length, HLEN.out, List.take_length] at this
        simp [this]
  · have hne : ¬ ((l.length : Int) = (m.length : Int)) := by omega
    go_enter Try.func21, Try.ntmps21
    go_wp2_with fail
    go_ret
    refine ⟨ret_bool ?_, 0, rfl⟩
    have : l ≠ m := fun e => hlen (by rw [e])
    simp [this]

set_option maxRecDepth 100000 in
theorem base_CopyInts (l : List Int) (v : Value) (w : World) (h : IntsAt w v l) (hl : l.length ≤ 100) :
    Calls Try.prog 62 #[v] w (RetInts w l) := by
  obtain ⟨ao, cap, rfl, h1, h2, h3⟩ := h.src
  have HE : (w.alloc (.cells #[] 3)).ownsRow w.heap.size 3 1 (.slice (some ⟨w.heap.size, 0, none⟩) 0 0) 0 [] := ownsRow_empty w elemInt
  have HS := h3 (w.alloc (.cells #[] 3)) ((Below.refl _ _).alloc (Nat.le_refl _) _)
  have H3 := hid h3
  clear h3
  go_enter Try.func62, Try.ntmps62
  go_wp2_with (at_builtin; go_must (refine wpList_append_list rfl (.tmp 3) (.tmp 4) _ rfl elemInt w.heap.size (.slice (some ⟨w.heap.size, 0, none⟩) 0 0) 0 [] rfl HE ao l.length cap (l.map (Value.int .i64)) rfl (by simp) (ints_oneCell' _) HS (by omega) (by unfold maxLen; omega) (by simp) ?_); intro v3 w3 hown4 hp4 _)
  go_ret
  refine ⟨v3, rfl, ?_, ((Below.refl _ _).alloc (Nat.le_refl _) _).trans hp4.below⟩
  rw [Nat.zero_add, List.nil_append] at hown4
  exact ownsRow_ints hown4

end Go.Proofs.Ytllddidjiabegaa
