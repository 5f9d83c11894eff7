/- Wide numbers: made of digits, digits added and subtracted. -/
import Derived.Test.YtlmdmpjfehpjeaaL14
set_option linter.unusedVariables false
set_option linter.unusedSimpArgs false
namespace Go.Proofs.Ytlmdmpjfehpjeaa
open Go.RowKit

theorem dlen {n k : Nat} (h : (n : Int) < dpw k) : (dig n).length ≤ k := by
  rcases Nat.lt_or_ge k (dig n).length with h1 | h1
  · obtain ⟨m, hm⟩ : ∃ m, (dig n).length = m + 1 := ⟨(dig n).length - 1, by omega⟩
    have h2 := dig_low hm
    have h3 := dpw_mono (show k ≤ m from by omega)
    omega
  · exact h1

/-- the sign of a number of a sign and digits. -/
def sg0 (d s : Int) : Int := if d = 0 then 0 else s

set_option maxRecDepth 100000 in
set_option maxHeartbeats 1000000 in
theorem base_wideOf (s : Int) (l : List Int) (ao : Option Addr) (cap : Nat) (w : World) (h : IntsAt w (.slice ao l.length cap) l) (hd : isD l) :
    Calls Try.prog 140 #[.int .i64 s, .slice ao l.length cap] w fun e w' => e = .returned (.agg #[.int .i64 (sg0 (dval l) s), .slice ao (tri l).length cap]) ∧ Below w.heap.size w w' := by
  obtain ⟨ao', cap', e, h1, h2, h3⟩ := h.opn
  cases e
  have HI := hid h
  have hr := dval_range hd
  have HL := hid (dig_nil (n := (dval l).toNat))
  have HT : Hid (∀ W, Below w.heap.size w W → Calls Try.prog 152 #[.slice ao l.length cap] W fun e w' => e = .returned (.slice ao (tri l).length cap) ∧ W = w') := hid (fun W hW => base_trimmed l _ _ _ (HI.out.below hW) hd)
  obtain ⟨r, hrr⟩ : ∃ r, r = tri l := ⟨_, rfl⟩
  rw [show dig (dval l).toNat = r from hrr.symm] at HL
  rw [← hrr] at HT ⊢
  clear h3 h h2 hrr
  by_cases hz : dval l = 0
  · have hl0 : r.length = 0 := HL.out.2 (by omega)
    have HZ : Hid (sg0 (dval l) s = 0) := hid (by unfold sg0; rw [if_pos hz])
    clear hz hr
    rw [HZ.out]
    go_enter Try.func140, Try.ntmps140
    go_wp2_with (go_at_call 152; refine (HT.out _ (by (repeat (with_reducible first | exact Below.refl _ _ | assumption | refine Below.drewN _ ?_ | refine Below.drew ?_ | refine Below_alloc ?_ _ | refine Below.alloc ?_ (by first | (simp; done) | (simp; omega) | omega) _ | refine Below.setCell ?_ (by first | (simp; done) | (simp; omega) | omega) _ | refine Below_call ?_ (by assumption) | refine Below.trans ?_ (by assumption))))).mono ?_; rintro _ _ ⟨rfl, rfl⟩)
    ((try simp only [Exit.inBlock, Exit.then]); refine bodyPost_ret (v := .agg #[.int .i64 0, .slice ao 0 cap]) ?_ rfl ?_; (next => simp [results, Try.results140, go_sem]); refine ⟨?_, ?_⟩; (next => simp [hl0]); (next => (repeat (with_reducible first | exact Below.refl _ _ | assumption | refine Below.drewN _ ?_ | refine Below.drew ?_ | refine Below_alloc ?_ _ | refine Below.alloc ?_ (by first | (simp; done) | (simp; omega) | omega) _ | refine Below.setCell ?_ (by first | (simp; done) | (simp; omega) | omega) _ | refine Below_call ?_ (by assumption) | refine Below.trans ?_ (by assumption)))))
  · have hl0 : 0 < r.length := Nat.pos_of_ne_zero (fun h => hz (by have := HL.out.1 h; omega))
    have HZ : Hid (sg0 (dval l) s = s) := hid (by unfold sg0; rw [if_neg hz])
    clear hz hr
    rw [HZ.out]
    go_enter Try.func140, Try.ntmps140
    go_wp2_with (go_at_call 152; refine (HT.out _ (by (repeat (with_reducible first | exact Below.refl _ _ | assumption | refine Below.drewN _ ?_ | refine Below.drew ?_ | refine Below_alloc ?_ _ | refine Below.alloc ?_ (by first | (simp; done) | (simp; omega) | omega) _ | refine Below.setCell ?_ (by first | (simp; done) | (simp; omega) | omega) _ | refine Below_call ?_ (by assumption) | refine Below.trans ?_ (by assumption))))).mono ?_; rintro _ _ ⟨rfl, rfl⟩)
    ((try simp only [Exit.inBlock, Exit.then]); refine bodyPost_ret (v := .agg #[.int .i64 s, .slice ao r.length cap]) ?_ rfl ?_; (next => simp [results, Try.results140, go_sem]); refine ⟨?_, ?_⟩; (next => rfl); (next => (repeat (with_reducible first | exact Below.refl _ _ | assumption | refine Below.drewN _ ?_ | refine Below.drew ?_ | refine Below_alloc ?_ _ | refine Below.alloc ?_ (by first | (simp; done) | (simp; omega) | omega) _ | refine Below.setCell ?_ (by first | (simp; done) | (simp; omega) | omega) _ | refine Below_call ?_ (by assumption) | refine Below.trans ?_ (by assumption)))))

set_option maxRecDepth 100000 in
set_option maxHeartbeats 1000000 in
theorem base_addDigits (la lb : List Int) (u v : Value) (w : World) (h : IntsAt w u la) (g : IntsAt w v lb) (ha : isD la) (hb : isD lb) (M : Nat) (hM : M ≤ 1000000) (hal : la.length ≤ M) (hbl : lb.length ≤ M) :
    Calls Try.prog 149 #[u, v] w fun e w' => ∃ r, e = .returned r ∧ ∃ xs, DigIn w' r xs (fun b => w.heap.size ≤ b) ∧ isD xs ∧ dval xs = dval la + dval lb ∧ xs.length ≤ M + 1 ∧ Below w.heap.size w w' := by
  obtain ⟨ao, cap, rfl, h1, h2, h3⟩ := h.opn
  obtain ⟨bo, cap2, rfl, g1, g2, g3⟩ := g.opn
  have HA := hid h
  have HB := hid g
  have HDA := hid ha
  have HDB := hid hb
  unfold maxLen at h2 g2
  clear h g h3 g3 ha hb
  go_enter Try.func149, Try.ntmps149
  go_wp2_with fail
  go_loopw [5, 6, 7] (fun o c i wr => ∃ (k : Nat) (cc : Int) (xs : List Int), k ≤ M + 1 ∧ c = .int .i64 cc ∧ 0 ≤ cc ∧ cc ≤ 1 ∧ (M < k → cc = 0) ∧ i = .int .i64 k ∧ xs.length = k ∧ Hid (isD xs ∧ dval xs + cc * dpw k = dval (la.take k) + dval (lb.take k)) ∧ wr.ownsRow w.heap.size 3 1 o k (xs.map (Value.int .i64)) ∧ Below w.heap.size w wr) (fun _ _ i _ => M + 1 - (intOf i).toNat)
  case atStart => exact ⟨0, 0, [], by omega, rfl, by omega, by omega, fun _ => rfl, rfl, rfl, hid ⟨isD_nil, by simp [dval]⟩, World.ownsRow_nil _ _ _ _, Below.refl _ _⟩
  case round =>
    obtain ⟨k, cc, xs, hk, rfl, hc0, hc1, hc2, rfl, hxl, HX, hown, hbel⟩ := hrel
    obtain ⟨oo, on, oc, rfl⟩ := ownsRow_shape hown
    have hzw := hbel.size
    have hIa := HA.out.below hbel
    have hIb := HB.out.below hbel
    by_cases hdone : la.length ≤ k ∧ lb.length ≤ k ∧ cc = 0
    · obtain ⟨d1, d2, rfl⟩ := hdone
      have HE := HX.out.2
      rw [List.take_of_length_le d1, List.take_of_length_le d2, Int.zero_mul, Int.add_zero] at HE
      have HE := hid HE
      have HO := hid hown
      clear hown hIa hIb
      go_wp2_with fail
      go_ret
      exact ⟨_, rfl, xs, ownsRow_dig (by rw [hxl]; exact HO.out), HX.out.1, HE.out, by omega, hbel⟩
    · have hcase : k < la.length ∨ (¬ k < la.length ∧ k < lb.length) ∨ (¬ k < la.length ∧ ¬ k < lb.length ∧ 0 < cc) := by omega
      obtain ⟨x, hx⟩ : ∃ x, x = nth la k := ⟨_, rfl⟩
      obtain ⟨y, hy⟩ : ∃ y, y = nth lb k := ⟨_, rfl⟩
      have hxb := isD_nth HDA.out k
      have hyb := isD_nth HDB.out k
      have HCa : Hid (∀ W, Below w.heap.size w W → Calls Try.prog 156 #[.slice ao la.length cap, .int .i64 k] W fun e w' => e = .returned (.int .i64 x) ∧ W = w') := hid (fun W hW => by rw [hx]; exact base_digit la _ _ (HA.out.below hW) k (by omega))
      have HCb : Hid (∀ W, Below w.heap.size w W → Calls Try.prog 156 #[.slice bo lb.length cap2, .int .i64 k] W fun e w' => e = .returned (.int .i64 y) ∧ W = w') := hid (fun W hW => by rw [hy]; exact base_digit lb _ _ (HB.out.below hW) k (by omega))
      rw [← hx] at hxb
      rw [← hy] at hyb
      have hzero : la.length ≤ k → x = 0 := fun h => by rw [hx]; exact dnth_ge h
      have hzero2 : lb.length ≤ k → y = 0 := fun h => by rw [hy]; exact dnth_ge h
      obtain ⟨q, hq⟩ : ∃ q, q = (x + y + cc) / 1000000000 := ⟨_, rfl⟩
      obtain ⟨r, hr⟩ : ∃ r, r = (x + y + cc) % 1000000000 := ⟨_, rfl⟩
      have hdiv : (x + y + cc).tdiv 1000000000 = q := by rw [Int.tdiv_eq_ediv_of_nonneg (by omega), hq]
      have hmod : (x + y + cc).tmod 1000000000 = r := by rw [Int.tmod_eq_emod_of_nonneg (by omega), hr]
      have HQ : Hid (x + y + cc = r + 1000000000 * q ∧ 0 ≤ r ∧ r < 1000000000 ∧ 0 ≤ q ∧ q ≤ 1 ∧ (M < k + 1 → q = 0)) := hid (by omega)
      have HN : Hid (isD (xs ++ [r]) ∧ dval (xs ++ [r]) + q * dpw (k + 1) = dval (la.take (k + 1)) + dval (lb.take (k + 1))) := hid (by
        refine ⟨isD_app.2 ⟨HX.out.1, by intro d hd; rw [List.mem_singleton.1 hd]; exact ⟨HQ.out.2.1, HQ.out.2.2.1⟩⟩, ?_⟩
        rw [dval_app, hxl, dval_take, dval_take, ← hx, ← hy]
        have e1 := HX.out.2
        have e2 : (x + y + cc) * dpw k = (r + 1000000000 * q) * dpw k := by rw [HQ.out.1]
        rw [Int.add_mul, Int.add_mul, Int.add_mul] at e2
        have e3 : q * dpw (k + 1) = 1000000000 * q * dpw k := by simp only [dpw]; rw [← Int.mul_assoc, Int.mul_comm q]
        have e4 : dpw k * dval [r] = r * dpw k := by simp [dval, Int.mul_comm]
        omega)
      have hrq := HQ.out.2
      have tok1 : True := trivial
      clear hq hr hx hy hIa hIb hdone HQ
      rcases hcase with hcs | ⟨hcs, hcs2⟩ | ⟨hcs, hcs2, hcs3⟩
      all_goals
        go_wp2_with (first | (go_at_call 156; clear tok1; refine (HCa.out _ hbel).mono ?_; rintro _ _ ⟨rfl, rfl⟩) | (go_at_call 156; refine (HCb.out _ hbel).mono ?_; rintro _ _ ⟨rfl, rfl⟩) | (at_builtin; refine wpList_push rfl _ _ _ rfl elemInt w.heap.size _ k _ rfl wr hown [.int .i64 r] rfl (by simp [Value.oneCell']) rfl _ rfl rfl (by omega) (by unfold maxLen; omega) hzw ?_; intro v1 w2 hown3 hb3 _ _))
        go_roundw
        case rel => exact ⟨k + 1, q, xs ++ [r], by omega, rfl, by omega, by omega, by omega, by go_num, by simp [hxl], HN, by rw [List.map_append]; exact hown3, by (repeat (with_reducible first | exact Below.refl _ _ | assumption | refine Below.drewN _ ?_ | refine Below.drew ?_ | refine Below_alloc ?_ _ | refine Below.alloc ?_ (by first | (simp; done) | (simp; omega) | omega) _ | refine Below.setCell ?_ (by first | (simp; done) | (simp; omega) | omega) _ | refine Below_call ?_ (by assumption) | refine Below.trans ?_ (by assumption)))⟩
        case measure => simp [intOf]; omega

set_option maxRecDepth 100000 in
theorem base_WideSign (x : Int) (s : Value) (w : World) : Calls Try.prog 141 #[.agg #[.int .i64 x, s]] w fun e w' => e = .returned (.int .i64 x) ∧ Below w.heap.size w w' := by
  go_enter Try.func141, Try.ntmps141
  go_wp2_with fail
  go_ret
  exact ⟨rfl, by (repeat (with_reducible first | exact Below.refl _ _ | assumption | refine Below.drewN _ ?_ | refine Below.drew ?_ | refine Below_alloc ?_ _ | refine Below.alloc ?_ (by first | (simp; done) | (simp; omega) | omega) _ | refine Below.setCell ?_ (by first | (simp; done) | (simp; omega) | omega) _ | refine Below_call ?_ (by assumption) | refine Below.trans ?_ (by assumption)))⟩

end Go.Proofs.Ytlmdmpjfehpjeaa

/- Wide numbers: digits subtracted, opposite numbers, numbers made. -/
set_option linter.unusedVariables false
set_option linter.unusedSimpArgs false
namespace Go.Proofs.Ytlmdmpjfehpjeaa
open Go.RowKit

set_option maxRecDepth 100000 in
set_option maxHeartbeats 1000000 in
theorem base_subDigits (a b : Nat) (u v : Value) (w : World) (h : IntsAt w u (dig a)) (g : IntsAt w v (dig b)) (hle : b ≤ a) (hal : (dig a).length ≤ 1000000) :
    Calls Try.prog 151 #[u, v] w fun e w' => ∃ r, e = .returned r ∧ DigIn w' r (dig (a - b)) (fun b => w.heap.size ≤ b) ∧ Below w.heap.size w w' := by
  obtain ⟨ao, cap, rfl, h1, h2, h3⟩ := h.opn
  obtain ⟨bo, cap2, rfl, g1, g2, g3⟩ := g.opn
  have HA := hid h
  have HB := hid g
  have hlb := dig_len_mono hle
  obtain ⟨la, hla⟩ : ∃ la, la = dig a := ⟨_, rfl⟩
  obtain ⟨lb, hlbb⟩ : ∃ lb, lb = dig b := ⟨_, rfl⟩
  have HAE := hid hla
  have HBE := hid hlbb
  rw [← hla] at h1 h3 hal hlb HA ⊢
  rw [← hlbb] at g1 hlb HB ⊢
  have HDA : Hid (isD la) := hid (by rw [hla]; exact isD_dig a)
  have HDB : Hid (isD lb) := hid (by rw [hlbb]; exact isD_dig b)
  unfold maxLen at h2 g2
  clear h g g3 hla hlbb
  go_enter Try.func151, Try.ntmps151
  go_wp2_with fail
  go_loopw [5, 6, 7] (fun o c i wr => ∃ (k : Nat) (cc : Int) (xs : List Int), k ≤ la.length ∧ c = .int .i64 cc ∧ 0 ≤ cc ∧ cc ≤ 1 ∧ i = .int .i64 k ∧ xs.length = k ∧ Hid (isD xs ∧ dval xs - cc * dpw k = dval (la.take k) - dval (lb.take k)) ∧ wr.ownsRow w.heap.size 3 1 o k (xs.map (Value.int .i64)) ∧ Below w.heap.size w wr) (fun _ _ i _ => la.length - (intOf i).toNat)
  case atStart => exact ⟨0, 0, [], by omega, rfl, by omega, by omega, rfl, rfl, hid ⟨isD_nil, by simp [dval]⟩, World.ownsRow_nil _ _ _ _, Below.refl _ _⟩
  case round =>
    obtain ⟨k, cc, xs, hk, rfl, hc0, hc1, rfl, hxl, HX, hown, hbel⟩ := hrel
    obtain ⟨oo, on, oc, rfl⟩ := ownsRow_shape hown
    have hzw := hbel.size
    by_cases hlt : k < la.length
    · obtain ⟨b1, off1, rfl, hb1, hcell1⟩ := h3 k hlt
      have c0 := (hbel.cell (p := ⟨b1, off1 + k, none⟩) hb1).trans (hcell1 k hlt)
      have hbw : b1 < wr.heap.size := by omega
      obtain ⟨x, hx⟩ : ∃ x, x = nth la k := ⟨_, rfl⟩
      obtain ⟨y, hy⟩ : ∃ y, y = nth lb k := ⟨_, rfl⟩
      have hxb := isD_nth HDA.out k
      have hyb := isD_nth HDB.out k
      have HCb : Hid (∀ W, Below w.heap.size w W → Calls Try.prog 156 #[.slice bo lb.length cap2, .int .i64 k] W fun e w' => e = .returned (.int .i64 y) ∧ W = w') := hid (fun W hW => by rw [hy]; exact base_digit lb _ _ (HB.out.below hW) k (by omega))
      rw [← hx] at hxb c0
      rw [← hy] at hyb
      have HXY : Hid (x = nth la k ∧ y = nth lb k) := hid ⟨hx, hy⟩
      clear h3 hcell1 hx hy
      have hownd : wr.drew.ownsRow w.heap.size 3 1 (.slice oo on oc) k (xs.map (Value.int .i64)) := hown
      have hzd : w.heap.size ≤ wr.drew.heap.size := hzw
      have key : ∀ (r q : Int), x - y - cc = r - 1000000000 * q → 0 ≤ r → r < 1000000000 → isD (xs ++ [r]) ∧ dval (xs ++ [r]) - q * dpw (k + 1) = dval (la.take (k + 1)) - dval (lb.take (k + 1)) := by
        intro r q e hr0 hr1
        refine ⟨isD_app.2 ⟨HX.out.1, by intro d hd; rw [List.mem_singleton.1 hd]; exact ⟨hr0, hr1⟩⟩, ?_⟩
        rw [dval_app, hxl, dval_take, dval_take, ← HXY.out.1, ← HXY.out.2]
        have e1 := HX.out.2
        have e2 : (x - y - cc) * dpw k = (r - 1000000000 * q) * dpw k := by rw [e]
        rw [Int.sub_mul, Int.sub_mul, Int.sub_mul] at e2
        have e3 : q * dpw (k + 1) = 1000000000 * q * dpw k := by simp only [dpw]; rw [← Int.mul_assoc, Int.mul_comm q]
        have e4 : dpw k * dval [r] = r * dpw k := by simp [dval, Int.mul_comm]
        omega
      have KEY := hid key
      clear key hown
      by_cases hneg : x - y - cc < 0
      · obtain ⟨r, hr⟩ : ∃ r, r = x - y - cc + 1000000000 := ⟨_, rfl⟩
        have hrb : 0 ≤ r ∧ r < 1000000000 := by omega
        have HN := hid (KEY.out r 1 (by omega) hrb.1 hrb.2)
        have hrs := hr.symm
        clear hr
        go_wp2_with fail
        refine wp_mixC (fun wc => Below (w.heap.size) wr wc) 10 [.q [0, 1, 2, 3, 4, 5, 8], .f [6], .q [7, 9]] [.q [10]] (by kernel_rfl) (by kernel_rfl) ((Below.refl _ _).drew) ?_
        intro Q' hQ'
        (rw [wpMixC]; simp only [pick, List.drop_succ_cons, List.drop_zero, List.head?_cons, Option.toList_some, List.cons_append, List.nil_append])
        (repeat (first | go_big_quiet_skip | (go_big_quiet_want; refine quiet_simple rfl ?_; go_big_quiet_op; go_big_quiet_on) | (go_big_quiet_want; refine quiet_cellB (ty := 3) rfl rfl (by kernel_rfl) (by assumption) (by first | omega | (simp; omega)) ?_; simp only [Act.put, List.setIfInBounds_toArray, List.set_cons_succ, List.set_cons_zero]; go_big_quiet_on)))
        (try refine wpQuiet_nil ?_)
        (rw [wpMixC]; simp only [pick, List.drop_succ_cons, List.drop_zero, List.head?_cons, Option.toList_some, List.cons_append, List.nil_append])
        (rw [wpSteps]; go_wp2_with ((go_at_call 156; refine (HCb.out _ (by (repeat (with_reducible first | exact Below.refl _ _ | assumption | refine Below.drewN _ ?_ | refine Below.drew ?_ | refine Below_alloc ?_ _ | refine Below.alloc ?_ (by first | (simp; done) | (simp; omega) | omega) _ | refine Below.setCell ?_ (by first | (simp; done) | (simp; omega) | omega) _ | refine Below_call ?_ (by assumption) | refine Below.trans ?_ (by assumption))))).mono ?_; rintro _ _ ⟨rfl, rfl⟩)); rw [contF]; refine ⟨?_, ?_⟩; (next => (repeat (with_reducible first | exact Below.refl _ _ | assumption | refine Below.drewN _ ?_ | refine Below.drew ?_ | refine Below_alloc ?_ _ | refine Below.alloc ?_ (by first | (simp; done) | (simp; omega) | omega) _ | refine Below.setCell ?_ (by first | (simp; done) | (simp; omega) | omega) _ | refine Below_call ?_ (by assumption) | refine Below.trans ?_ (by assumption)))))
        (rw [wpSteps])
        (rw [wpMixC]; simp only [pick, List.drop_succ_cons, List.drop_zero, List.head?_cons, Option.toList_some, List.cons_append, List.nil_append])
        (repeat (first | go_big_quiet_skip | (go_big_quiet_want; refine quiet_simple rfl ?_; go_big_quiet_op; go_big_quiet_on) | (go_big_quiet_want; refine quiet_cellB (ty := 3) rfl rfl (by kernel_rfl) (by assumption) (by first | omega | (simp; omega)) ?_; simp only [Act.put, List.setIfInBounds_toArray, List.set_cons_succ, List.set_cons_zero]; go_big_quiet_on)))
        (try refine wpQuiet_nil ?_)
        (rw [wpMixC])
        (rw [wpMix]; simp only [pick, List.drop_succ_cons, List.drop_zero, List.head?_cons, Option.toList_some, List.cons_append, List.nil_append])
        (repeat (first | (go_big_quiet_step (fail)) | (quiet_step (fail))))
        (try refine wpQuiet_nil ?_)
        (rw [wpMix])
        (refine hQ' _ _ ?_)
        go_wp2_with (at_builtin; refine wpList_push rfl _ _ _ rfl elemInt w.heap.size _ k _ rfl _ hownd [.int .i64 r] rfl (by simp [Value.oneCell']) rfl _ rfl rfl (by omega) (by unfold maxLen; omega) hzd ?_; intro v1 w2 hown3 hb3 _ _)
        go_roundw
        case rel => exact ⟨k + 1, 1, xs ++ [r], by omega, rfl, by omega, by omega, by go_num, by simp [hxl], HN, by rw [List.map_append]; exact hown3, by (repeat (with_reducible first | exact Below.refl _ _ | assumption | refine Below.drewN _ ?_ | refine Below.drew ?_ | refine Below_alloc ?_ _ | refine Below.alloc ?_ (by first | (simp; done) | (simp; omega) | omega) _ | refine Below.setCell ?_ (by first | (simp; done) | (simp; omega) | omega) _ | refine Below_call ?_ (by assumption) | refine Below.trans ?_ (by assumption)))⟩
        case measure => simp [intOf]; omega
      · obtain ⟨r, hr⟩ : ∃ r, r = x - y - cc := ⟨_, rfl⟩
        have hrb : 0 ≤ r ∧ r < 1000000000 := by omega
        have HN := hid (KEY.out r 0 (by omega) hrb.1 hrb.2)
        have hrs := hr.symm
        clear hr
        go_wp2_with fail
        refine wp_mixC (fun wc => Below (w.heap.size) wr wc) 10 [.q [0, 1, 2, 3, 4, 5, 8], .f [6], .q [7, 9]] [.q [10]] (by kernel_rfl) (by kernel_rfl) ((Below.refl _ _).drew) ?_
        intro Q' hQ'
        (rw [wpMixC]; simp only [pick, List.drop_succ_cons, List.drop_zero, List.head?_cons, Option.toList_some, List.cons_append, List.nil_append])
        (repeat (first | go_big_quiet_skip | (go_big_quiet_want; refine quiet_simple rfl ?_; go_big_quiet_op; go_big_quiet_on) | (go_big_quiet_want; refine quiet_cellB (ty := 3) rfl rfl (by kernel_rfl) (by assumption) (by first | omega | (simp; omega)) ?_; simp only [Act.put, List.setIfInBounds_toArray, List.set_cons_succ, List.set_cons_zero]; go_big_quiet_on)))
        (try refine wpQuiet_nil ?_)
        (rw [wpMixC]; simp only [pick, List.drop_succ_cons, List.drop_zero, List.head?_cons, Option.toList_some, List.cons_append, List.nil_append])
        (rw [wpSteps]; go_wp2_with ((go_at_call 156; refine (HCb.out _ (by (repeat (with_reducible first | exact Below.refl _ _ | assumption | refine Below.drewN _ ?_ | refine Below.drew ?_ | refine Below_alloc ?_ _ | refine Below.alloc ?_ (by first | (simp; done) | (simp; omega) | omega) _ | refine Below.setCell ?_ (by first | (simp; done) | (simp; omega) | omega) _ | refine Below_call ?_ (by assumption) | refine Below.trans ?_ (by assumption))))).mono ?_; rintro _ _ ⟨rfl, rfl⟩)); rw [contF]; refine ⟨?_, ?_⟩; (next => (repeat (with_reducible first | exact Below.refl _ _ | assumption | refine Below.drewN _ ?_ | refine Below.drew ?_ | refine Below_alloc ?_ _ | refine Below.alloc ?_ (by first | (simp; done) | (simp; omega) | omega) _ | refine Below.setCell ?_ (by first | (simp; done) | (simp; omega) | omega) _ | refine Below_call ?_ (by assumption) | refine Below.trans ?_ (by assumption)))))
        (rw [wpSteps])
        (rw [wpMixC]; simp only [pick, List.drop_succ_cons, List.drop_zero, List.head?_cons, Option.toList_some, List.cons_append, List.nil_append])
        (repeat (first | go_big_quiet_skip | (go_big_quiet_want; refine quiet_simple rfl ?_; go_big_quiet_op; go_big_quiet_on) | (go_big_quiet_want; refine quiet_cellB (ty := 3) rfl rfl (by kernel_rfl) (by assumption) (by first | omega | (simp; omega)) ?_; simp only [Act.put, List.setIfInBounds_toArray, List.set_cons_succ, List.set_cons_zero]; go_big_quiet_on)))
        (try refine wpQuiet_nil ?_)
        (rw [wpMixC])
        (rw [wpMix]; simp only [pick, List.drop_succ_cons, List.drop_zero, List.head?_cons, Option.toList_some, List.cons_append, List.nil_append])
        (repeat (first | (go_big_quiet_step (fail)) | (quiet_step (fail))))
        (try refine wpQuiet_nil ?_)
        (rw [wpMix])
        (refine hQ' _ _ ?_)
        go_wp2_with (at_builtin; refine wpList_push rfl _ _ _ rfl elemInt w.heap.size _ k _ rfl _ hownd [.int .i64 r] rfl (by simp [Value.oneCell']) rfl _ rfl rfl (by omega) (by unfold maxLen; omega) hzd ?_; intro v1 w2 hown3 hb3 _ _)
        go_roundw
        case rel => exact ⟨k + 1, 0, xs ++ [r], by omega, rfl, by omega, by omega, by go_num, by simp [hxl], HN, by rw [List.map_append]; exact hown3, by (repeat (with_reducible first | exact Below.refl _ _ | assumption | refine Below.drewN _ ?_ | refine Below.drew ?_ | refine Below_alloc ?_ _ | refine Below.alloc ?_ (by first | (simp; done) | (simp; omega) | omega) _ | refine Below.setCell ?_ (by first | (simp; done) | (simp; omega) | omega) _ | refine Below_call ?_ (by assumption) | refine Below.trans ?_ (by assumption)))⟩
        case measure => simp [intOf]; omega
    · have HE : Hid (isD xs ∧ (tri xs) = dig (a - b)) := hid (by
        have e1 := HX.out.2
        rw [List.take_of_length_le (by omega), List.take_of_length_le (by omega), HAE.out, HBE.out, dval_dig, dval_dig] at e1
        have e2 := dval_range HX.out.1
        rw [hxl] at e2
        have : cc = 0 ∨ cc = 1 := by omega
        refine ⟨HX.out.1, ?_⟩
        unfold tri
        congr 1
        rcases this with rfl | rfl
        · omega
        · omega)
      subst hxl
      obtain ⟨ho, hc, e, _⟩ := (ownsRow_dig hown)
      cases e
      have HO := hid (ownsRow_dig hown)
      have HT : Hid (∀ W, Below wr.heap.size wr W → Calls Try.prog 152 #[.slice oo xs.length oc] W fun e w' => e = .returned (.slice oo (tri xs).length oc) ∧ W = w') := hid (fun W hW => base_trimmed xs _ _ _ (HO.out.ints.below hW) HE.out.1)
      clear hown h3
      go_wp2_with (go_at_call 152; refine (HT.out _ (by (repeat (with_reducible first | exact Below.refl _ _ | assumption | refine Below.drewN _ ?_ | refine Below.drew ?_ | refine Below_alloc ?_ _ | refine Below.alloc ?_ (by first | (simp; done) | (simp; omega) | omega) _ | refine Below.setCell ?_ (by first | (simp; done) | (simp; omega) | omega) _ | refine Below_call ?_ (by assumption) | refine Below.trans ?_ (by assumption))))).mono ?_; rintro _ _ ⟨rfl, rfl⟩)
      go_ret
      refine ⟨_, rfl, ?_, hbel⟩
      rw [← HE.out.2]
      exact HO.out.trim HE.out.1

theorem sg_neg (z : Int) : sg (-z) = -sg z := by
  unfold sg
  rcases Int.lt_trichotomy z 0 with h | h | h
  · rw [if_neg (by omega), if_neg (by omega), if_pos h]; rfl
  · subst h; rfl
  · rw [if_pos (by omega), if_neg (by omega), if_neg (by omega)]
theorem sg_range (z : Int) : -1 ≤ sg z ∧ sg z ≤ 1 := by unfold sg; split; omega; split <;> omega
theorem WideAt.neg {w : World} {ao : Option Addr} {cap : Nat} {z x : Int} {n : Nat} {N : Nat → Prop} (h : WideAt w (.agg #[.int .i64 x, .slice ao n cap]) z N) : WideAt w (.agg #[.int .i64 (-x), .slice ao n cap]) (-z) N := by
  obtain ⟨ao', cap', e, h1⟩ := h
  cases e
  exact ⟨ao, cap, by rw [sg_neg, Int.natAbs_neg], by rw [Int.natAbs_neg]; exact h1⟩

set_option maxRecDepth 100000 in
theorem base_WideNeg (x : Int) (ao : Option Addr) (n cap : Nat) (w : World) (hx : -1 ≤ x ∧ x ≤ 1) : Calls Try.prog 138 #[.agg #[.int .i64 x, .slice ao n cap]] w fun e w' => e = .returned (.agg #[.int .i64 (-x), .slice ao n cap]) ∧ Below w.heap.size w w' := by
  go_enter Try.func138, Try.ntmps138
  go_wp2_with fail
  ((try simp only [Exit.inBlock, Exit.then]); refine bodyPost_ret (v := .agg #[.int .i64 (-x), .slice ao n cap]) ?_ rfl ?_; (next => simp [results, Try.results138, go_sem]); refine ⟨?_, ?_⟩; (next => rfl); (next => (repeat (with_reducible first | exact Below.refl _ _ | assumption | refine Below.drewN _ ?_ | refine Below.drew ?_ | refine Below_alloc ?_ _ | refine Below.alloc ?_ (by first | (simp; done) | (simp; omega) | omega) _ | refine Below.setCell ?_ (by first | (simp; done) | (simp; omega) | omega) _ | refine Below_call ?_ (by assumption) | refine Below.trans ?_ (by assumption)))))

set_option maxRecDepth 100000 in
theorem base_wideSize (x : Int) (ao : Option Addr) (n cap : Nat) (w : World) (hx : -1 ≤ x ∧ x ≤ 1) : Calls Try.prog 153 #[.agg #[.int .i64 x, .slice ao n cap]] w fun e w' => e = .returned (.agg #[.int .i64 (if x < 0 then -x else x), .slice ao n cap]) ∧ Below w.heap.size w w' := by
  by_cases hn : x < 0
  · rw [if_pos hn]
    go_enter Try.func153, Try.ntmps153
    go_wp2_with ((go_at_call 138; refine (base_WideNeg _ _ _ _ _ hx).mono ?_; rintro _ w1 ⟨rfl, hb1⟩; obtain ⟨hc1, hf1⟩ := bcell hb1; have hz1 := hb1.size; (try simp only [World.size_alloc, World.heap_drewN] at hz1); have hk1_0 : w.heap.size < w1.heap.size := (by omega); have hk1_1 : w.heap.size + 1 < w1.heap.size := (by omega); have q1_1_0 := hc1 (w.heap.size + 1) 0 (by first | assumption | (simp; done) | (simp; omega)); (try simp at q1_1_0); have p1_1_0 := hf1 (w.heap.size + 1) 0 (by first | assumption | (simp; done) | (simp; omega)); (try simp at p1_1_0); have q1_1_1 := hc1 (w.heap.size + 1) 1 (by first | assumption | (simp; done) | (simp; omega)); (try simp at q1_1_1); have p1_1_1 := hf1 (w.heap.size + 1) 1 (by first | assumption | (simp; done) | (simp; omega)); (try simp at p1_1_1)))
    ((try simp only [Exit.inBlock, Exit.then]); refine bodyPost_ret (v := .agg #[.int .i64 (-x), .slice ao n cap]) ?_ rfl ?_; (next => simp [results, Try.results153, go_sem, hk1_1, q1_1_0, q1_1_1]); refine ⟨?_, ?_⟩; (next => rfl); (next => (repeat (with_reducible first | exact Below.refl _ _ | assumption | refine Below.drewN _ ?_ | refine Below.drew ?_ | refine Below_alloc ?_ _ | refine Below.alloc ?_ (by first | (simp; done) | (simp; omega) | omega) _ | refine Below.setCell ?_ (by first | (simp; done) | (simp; omega) | omega) _ | refine Below_call ?_ (by assumption) | refine Below.trans ?_ (by assumption)))))
  · rw [if_neg hn]
    go_enter Try.func153, Try.ntmps153
    go_wp2_with fail
    ((try simp only [Exit.inBlock, Exit.then]); refine bodyPost_ret (v := .agg #[.int .i64 x, .slice ao n cap]) ?_ rfl ?_; (next => simp [results, Try.results153, go_sem]); refine ⟨?_, ?_⟩; (next => rfl); (next => (repeat (with_reducible first | exact Below.refl _ _ | assumption | refine Below.drewN _ ?_ | refine Below.drew ?_ | refine Below_alloc ?_ _ | refine Below.alloc ?_ (by first | (simp; done) | (simp; omega) | omega) _ | refine Below.setCell ?_ (by first | (simp; done) | (simp; omega) | omega) _ | refine Below_call ?_ (by assumption) | refine Below.trans ?_ (by assumption)))))

end Go.Proofs.Ytlmdmpjfehpjeaa

/- Wide numbers: made of a number, added. -/
set_option linter.unusedVariables false
set_option linter.unusedSimpArgs false
namespace Go.Proofs.Ytlmdmpjfehpjeaa
open Go.RowKit

theorem DigIn.store2 {w w1 : World} {v : Value} {l : List Int} {N0 N : Nat → Prop} {B : Nat} (h : DigIn w v l N0) (hb : Below w.heap.size w w1) (hN : ∀ b, N0 b → b ≠ B ∧ N b) (x y : Value) :
    DigIn ((w1.setCell ⟨B, 0, none⟩ x).setCell ⟨B, 1, none⟩ y) v l N := by
  refine h.keep (by rw [World.size_setCell, World.size_setCell]; exact hb.size) fun b hlt h0 => ⟨?_, (hN b h0).2⟩
  rw [heap_setCell_other _ _ _ _ (hN b h0).1, heap_setCell_other _ _ _ _ (hN b h0).1, hb.block b hlt]
theorem WideAt.store2 {w w1 : World} {v : Value} {z : Int} {N0 N : Nat → Prop} {B : Nat} (h : WideAt w v z N0) (hb : Below w.heap.size w w1) (hN : ∀ b, N0 b → b ≠ B ∧ N b) (x y : Value) :
    WideAt ((w1.setCell ⟨B, 0, none⟩ x).setCell ⟨B, 1, none⟩ y) v z N := by
  obtain ⟨ao, cap, rfl, h1⟩ := h
  exact ⟨ao, cap, rfl, h1.store2 hb hN x y⟩
theorem wide_of {xs : List Int} {z s : Int} (e : dval xs = z.natAbs) (hs : z ≠ 0 → s = sg z) : sg0 (dval xs) s = sg z ∧ tri xs = dig z.natAbs := by
  refine ⟨?_, ?_⟩
  · unfold sg0
    by_cases hz : z = 0
    · subst hz; rw [if_pos (by rw [e]; rfl)]; rfl
    · rw [if_neg (by omega), hs hz]
  · unfold tri; rw [e]; rfl
theorem wide_fin {w1 w2 : World} {B : Nat} {ro : Option Addr} {rc : Nat} {xs : List Int} {z s : Int} {N0 N : Nat → Prop} (hd : isD xs) (e : dval xs = z.natAbs) (hs : z ≠ 0 → s = sg z) (h : DigIn w1 (.slice ro xs.length rc) xs N0) (hb : Below w1.heap.size w1 w2) (hN : ∀ b, N0 b → b ≠ B ∧ N b) (x y : Value) :
    WideAt ((w2.setCell ⟨B, 0, none⟩ x).setCell ⟨B, 1, none⟩ y) (.agg #[.int .i64 (sg0 (dval xs) s), .slice ro (tri xs).length rc]) z N := by
  obtain ⟨e1, e2⟩ := wide_of (s := s) e hs
  have := (h.trim hd).store2 hb hN x y
  rw [e1, e2]
  rw [e2] at this
  exact ⟨ro, rc, rfl, this⟩
theorem DigIn.shape {w : World} {v : Value} {l : List Int} {N : Nat → Prop} (h : DigIn w v l N) : ∃ ao cap, v = .slice ao l.length cap := by
  obtain ⟨ao, cap, rfl, _⟩ := h
  exact ⟨ao, cap, rfl⟩

set_option maxRecDepth 100000 in
set_option maxHeartbeats 1000000 in
theorem base_WideOf (n : Int) (w : World) (N : Nat → Prop) (hN : ∀ b, w.heap.size ≤ b → N b) (h1 : -9223372036854775807 ≤ n) (h2 : n ≤ 9223372036854775807) :
    Calls Try.prog 126 #[.int .i64 n] w (RetWide w n N) := by
  have hsn : ∃ s : Int, (n < 0 ∧ s = -1 ∨ ¬ n < 0 ∧ s = 1) := by
    by_cases h : n < 0
    · exact ⟨-1, Or.inl ⟨h, rfl⟩⟩
    · exact ⟨1, Or.inr ⟨h, rfl⟩⟩
  obtain ⟨s, hs⟩ := hsn
  have HSG : Hid (n ≠ 0 → s = sg n) := hid (by intro h; unfold sg; rcases hs with ⟨h3, rfl⟩ | ⟨h3, rfl⟩; rw [if_pos h3]; rw [if_neg h3, if_neg h])
  go_enter Try.func126, Try.ntmps126
  obtain ⟨W0, hW0⟩ : ∃ W0, W0 = w.alloc (.cells #[.int .i64 0, .slice none 0 0] 51) := ⟨_, rfl⟩
  have hz0 : W0.heap.size = w.heap.size + 1 := by rw [hW0]; simp
  have hBW : Below w.heap.size w W0 := by rw [hW0]; (repeat (with_reducible first | exact Below.refl _ _ | assumption | refine Below.drewN _ ?_ | refine Below.drew ?_ | refine Below_alloc ?_ _ | refine Below.alloc ?_ (by first | (simp; done) | (simp; omega) | omega) _ | refine Below.setCell ?_ (by first | (simp; done) | (simp; omega) | omega) _ | refine Below_call ?_ (by assumption) | refine Below.trans ?_ (by assumption)))
  have hcells : W0.heap[w.heap.size]? = some (.cells #[.int .i64 0, .slice none 0 0] 51 (0, 0)) := by rw [hW0]; exact heap_alloc_new w _
  have HC := hid hcells
  rcases hs with ⟨hneg, rfl⟩ | ⟨hneg, rfl⟩
  all_goals
    go_wp2_with fail
    rw [← hW0]
    clear hW0 hcells
    go_loopw [0, 4] (fun m o wr => ∃ (mm : Int) (xs : List Int), m = .int .i64 mm ∧ xs.length ≤ 3 ∧ (xs.length = 0 → mm.natAbs < 10000000000000000000) ∧ (xs.length = 1 → mm.natAbs < 10000000000) ∧ (xs.length = 2 → mm.natAbs < 10) ∧ (xs.length = 3 → mm = 0) ∧ Hid (isD xs ∧ dval xs + (mm.natAbs : Int) * dpw xs.length = n.natAbs) ∧ wr.ownsRow W0.heap.size 3 1 o xs.length (xs.map (Value.int .i64)) ∧ Below W0.heap.size W0 wr) (fun m _ _ => (intOf m).natAbs)
    case atStart => exact ⟨n, [], rfl, by simp, by intro _; omega, by simp, by simp, by simp, hid ⟨isD_nil, by simp [dval, dpw]⟩, World.ownsRow_nil _ _ _ _, Below.refl _ _⟩
    case round =>
      obtain ⟨mm, xs, rfl, hx3, hb0, hb1, hb2, hb3, HX, hown, hbel⟩ := hrel
      obtain ⟨oo, on, oc, rfl⟩ := ownsRow_shape hown
      have hzw := hbel.size
      by_cases hm : mm = 0
      · subst hm
        obtain ⟨ao', cap', e⟩ := (ownsRow_dig hown).shape
        cases e
        have HO := hid (ownsRow_dig hown)
        have HE : Hid (dval xs = n.natAbs) := hid (by have := HX.out.2; simpa using this)
        have HWO : Hid (∀ W s', Below wr.heap.size wr W → Calls Try.prog 140 #[.int .i64 s', .slice oo xs.length oc] W fun e w' => e = .returned (.agg #[.int .i64 (sg0 (dval xs) s'), .slice oo (tri xs).length oc]) ∧ Below W.heap.size W w') := hid (fun W s' hW => base_wideOf s' xs _ _ _ (HO.out.ints.below hW) HX.out.1)
        have HZZ := hid (show wr.heap[w.heap.size]? = _ from (hbel.block w.heap.size (by omega)).trans HC.out)
        obtain ⟨S, hS⟩ : ∃ S, S = sg0 (dval xs) := ⟨_, rfl⟩
        obtain ⟨L, hL⟩ : ∃ L, L = (tri xs).length := ⟨_, rfl⟩
        rw [← hS, ← hL] at HWO
        have HSL := hid (And.intro hS hL)
        clear hown hS hL hb0 hb1 hb2 hb3
        go_wp2_with (go_at_call 140; refine (HWO.out _ _ (by (repeat (with_reducible first | exact Below.refl _ _ | assumption | refine Below.drewN _ ?_ | refine Below.drew ?_ | refine Below_alloc ?_ _ | refine Below.alloc ?_ (by first | (simp; done) | (simp; omega) | omega) _ | refine Below.setCell ?_ (by first | (simp; done) | (simp; omega) | omega) _ | refine Below_call ?_ (by assumption) | refine Below.trans ?_ (by assumption))))).mono ?_; rintro _ w1 ⟨rfl, hbb⟩; have HBB := hid hbb; obtain ⟨e0, e1, p0, p1, hlt1⟩ := two_cells ((hbb.block w.heap.size (by omega)).trans HZZ.out))
        obtain ⟨e0, e1, p0, p1, hlt1⟩ := two_cells ((HBB.out.block w.heap.size (by omega)).trans HZZ.out)
        (first | ((try simp only [Exit.inBlock, Exit.then]); refine bodyPost_ret (v := .agg #[.int .i64 (S (-1)), .slice oo L oc]) ?_ rfl ?_; (next => simp [results, Try.results126, go_sem, hlt1, e0, e1])) | ((try simp only [Exit.inBlock, Exit.then]); refine bodyPost_ret (v := .agg #[.int .i64 (S 1), .slice oo L oc]) ?_ rfl ?_; (next => simp [results, Try.results126, go_sem, hlt1, e0, e1])))
        rw [HSL.out.1, HSL.out.2]
        exact ⟨_, rfl, wide_fin HX.out.1 HE.out HSG.out HO.out HBB.out (fun b h => ⟨by omega, hN b (by omega)⟩) _ _, by (repeat (with_reducible first | exact Below.refl _ _ | assumption | refine Below.drewN _ ?_ | refine Below.drew ?_ | refine Below_alloc ?_ _ | refine Below.alloc ?_ (by first | (simp; done) | (simp; omega) | omega) _ | refine Below.setCell ?_ (by first | (simp; done) | (simp; omega) | omega) _ | refine Below_call ?_ (by assumption) | refine Below.trans ?_ (by assumption)))⟩
      · obtain ⟨q, hq⟩ : ∃ q, q = mm.tdiv 1000000000 := ⟨_, rfl⟩
        obtain ⟨r, hr⟩ : ∃ r, r = mm.tmod 1000000000 := ⟨_, rfl⟩
        have hqa : q.natAbs = mm.natAbs / 1000000000 := by rw [hq, Int.natAbs_tdiv]; rfl
        have hra : r.natAbs = mm.natAbs % 1000000000 := by rw [hr, Int.natAbs_tmod]; rfl
        have hrl : r.natAbs < 1000000000 := by omega
        have hq' := hq.symm
        have hr' := hr.symm
        have hx2 : xs.length ≤ 2 := by
          rcases (by omega : xs.length ≤ 2 ∨ xs.length = 3) with h | h
          · exact h
          · exact absurd (hb3 h) hm
        have hml : mm.natAbs < 10000000000000000000 := by
          rcases (by omega : xs.length = 0 ∨ xs.length = 1 ∨ xs.length = 2) with h | h | h
          · exact hb0 h
          · have := hb1 h; omega
          · have := hb2 h; omega
        have HQ := hid (And.intro hqa (And.intro hb0 (And.intro hb1 hb2)))
        have HN : Hid (isD (xs ++ [(r.natAbs : Int)]) ∧ dval (xs ++ [(r.natAbs : Int)]) + (q.natAbs : Int) * dpw (xs.length + 1) = n.natAbs) := hid (by
          refine ⟨isD_app.2 ⟨HX.out.1, by intro d hd; rw [List.mem_singleton.1 hd]; omega⟩, ?_⟩
          rw [dval_app, ← HX.out.2]
          have e2 : (mm.natAbs : Int) * dpw xs.length = ((r.natAbs : Int) + 1000000000 * (q.natAbs : Int)) * dpw xs.length := by congr 1; omega
          rw [Int.add_mul] at e2
          have e3 : (q.natAbs : Int) * dpw (xs.length + 1) = 1000000000 * (q.natAbs : Int) * dpw xs.length := by simp only [dpw]; rw [← Int.mul_assoc, Int.mul_comm (q.natAbs : Int)]
          have e4 : dpw xs.length * dval [(r.natAbs : Int)] = (r.natAbs : Int) * dpw xs.length := by simp [dval, Int.mul_comm]
          omega)
        have hqb : q.natAbs < 10000000000 := by omega
        have hlt : q.natAbs < mm.natAbs := by omega
        clear hq hr hqa hra hb0 hb1 hb2 hb3
        go_wp2_with (first | (go_at_call 139; refine (base_Size r _ (by omega) (by omega)).mono ?_; rintro _ _ ⟨rfl, rfl⟩) | (at_builtin; refine wpList_push rfl _ _ _ rfl elemInt W0.heap.size _ xs.length _ rfl _ hown [.int .i64 r.natAbs] rfl (by simp [Value.oneCell']) rfl _ rfl rfl (by omega) (by unfold maxLen; omega) hzw ?_; intro v1 w2 hown3 hbb3 _ _))
        go_roundw
        case rel =>
          have hqq := HQ.out
          refine ⟨q, xs ++ [(r.natAbs : Int)], rfl, by simp; omega, by simp, ?_, ?_, ?_, ?_, ?_, by (repeat (with_reducible first | exact Below.refl _ _ | assumption | refine Below.drewN _ ?_ | refine Below.drew ?_ | refine Below_alloc ?_ _ | refine Below.alloc ?_ (by first | (simp; done) | (simp; omega) | omega) _ | refine Below.setCell ?_ (by first | (simp; done) | (simp; omega) | omega) _ | refine Below_call ?_ (by assumption) | refine Below.trans ?_ (by assumption)))⟩
          · simp only [List.length_append, List.length_singleton]; intro h; have := hqq.2.1 (by omega); omega
          · simp only [List.length_append, List.length_singleton]; intro h; have := hqq.2.2.1 (by omega); omega
          · simp only [List.length_append, List.length_singleton]; intro h; have := hqq.2.2.2 (by omega); omega
          · rw [List.length_append, List.length_singleton]; exact HN
          · rw [List.map_append, List.length_append, List.length_singleton]; exact hown3
        case measure => simp [intOf]; omega

end Go.Proofs.Ytlmdmpjfehpjeaa

