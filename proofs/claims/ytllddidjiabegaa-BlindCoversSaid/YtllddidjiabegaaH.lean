/- Contracts of limits and coverages in the program, second part. -/
import Derived.Test.YtllddidjiabegaaG
set_option linter.unusedVariables false
set_option linter.unusedSimpArgs false
namespace Go.Proofs.Ytllddidjiabegaa
open Go.RowKit

/-- the band of a share contains a count. -/
def inBandB (T h r : Int) (s : Nat) : Bool := inB h (bandLoI T s r) (bandHiI T s r)
/-- the shares below n whose band contains a count. -/
def shs (T h r : Int) : Nat → List Int
  | 0 => []
  | n + 1 => if inBandB T h r n = true then shs T h r n ++ [(n : Int)] else shs T h r n
theorem shs_len (T h r : Int) (n : Nat) : (shs T h r n).length ≤ n := by
  induction n with
  | zero => simp [shs]
  | succ n ih => simp only [shs]; split
                 · simp; omega
                 · omega
/-- the least and the greatest of them, 11 and -1 if there are none. -/
def limLo (T h r : Int) : Nat → Int
  | 0 => 11
  | n + 1 => if inBandB T h r n = true then min (limLo T h r n) n else limLo T h r n
def limHi (T h r : Int) : Nat → Int
  | 0 => -1
  | n + 1 => if inBandB T h r n = true then (n : Int) else limHi T h r n
theorem limHi_le (T h r : Int) (n : Nat) : -1 ≤ limHi T h r n ∧ limHi T h r n < n := by
  induction n with
  | zero => simp [limHi]
  | succ n ih => simp only [limHi]; split <;> omega
theorem nth_app_lt {l m : List Int} {i : Nat} (h : i < l.length) : nth (l ++ m) i = nth l i := by
  simp [nth, List.getD, List.getElem?_append_left h]
theorem nth_app_end (l : List Int) (x : Int) : nth (l ++ [x]) l.length = x := by simp [nth, List.getD]
theorem mnI_app {l m : List Int} {k : Nat} (h : k < l.length) : mnI (l ++ m) k = mnI l k := by
  induction k with
  | zero => simp only [mnI]; rw [nth_app_lt h]
  | succ k ih => simp only [mnI]; rw [ih (by omega), nth_app_lt h]
theorem mxI_app {l m : List Int} {k : Nat} (h : k < l.length) : mxI (l ++ m) k = mxI l k := by
  induction k with
  | zero => simp only [mxI]; rw [nth_app_lt h]
  | succ k ih => simp only [mxI]; rw [ih (by omega), nth_app_lt h]
theorem shs_spec (T h r : Int) (n : Nat) (hn : n ≤ 11) : ((shs T h r n).length = 0 → limHi T h r n = -1 ∧ limLo T h r n = 11) ∧
    (0 < (shs T h r n).length → 0 ≤ limHi T h r n ∧ mnI (shs T h r n) ((shs T h r n).length - 1) = limLo T h r n ∧ mxI (shs T h r n) ((shs T h r n).length - 1) = limHi T h r n) := by
  induction n with
  | zero => simp [shs, limHi, limLo]
  | succ n ih =>
    have ih := ih (by omega)
    have hle := limHi_le T h r n
    simp only [shs, limHi, limLo]
    split
    · refine ⟨fun h0 => by simp at h0, fun _ => ⟨by omega, ?_⟩⟩
      by_cases h0 : (shs T h r n).length = 0
      · have e := List.eq_nil_of_length_eq_zero h0
        have := ih.1 h0
        rw [e]; simp [mnI, mxI, nth]; omega
      · have h1 := ih.2 (by omega)
        obtain ⟨k, hk⟩ : ∃ k, (shs T h r n).length = k + 1 := ⟨(shs T h r n).length - 1, by omega⟩
        have e1 : (shs T h r n ++ [(n : Int)]).length - 1 = k + 1 := by simp; omega
        rw [e1]
        simp only [mnI, mxI]
        rw [mnI_app (by omega), mxI_app (by omega), ← hk, nth_app_end]
        rw [hk, Nat.add_sub_cancel] at h1
        rw [h1.2.1, h1.2.2]
        omega
    · exact ih

/-- the limits of a count: from, to, and whether some band contains it. -/
def limV (T h r : Int) : Value := .tuple #[if limHi T h r 11 = -1 then .agg #[.int .i64 0, .int .i64 0] else .agg #[.int .i64 (limLo T h r 11), .int .i64 (limHi T h r 11)], .bool (limHi T h r 11 != -1)]
theorem limV_no {T h r : Int} (hh : limHi T h r 11 = -1) : limV T h r = .tuple #[.agg #[.int .i64 0, .int .i64 0], .bool false] := by simp [limV, hh]
theorem limV_yes {T h r : Int} (hh : limHi T h r 11 ≠ -1) : limV T h r = .tuple #[.agg #[.int .i64 (limLo T h r 11), .int .i64 (limHi T h r 11)], .bool true] := by simp [limV, hh]

set_option maxRecDepth 100000 in
set_option maxHeartbeats 1000000 in
theorem blind_limits (T h r : Int) (w : World) (h0 : 0 ≤ T) (h1 : T ≤ 12) (h4 : 0 ≤ r) (h5 : r ≤ 999) :
    Calls Try.prog 102 #[.int .i64 T, .int .i64 h, .int .i64 r] w fun e w' => e = .returned (limV T h r) ∧ Below w.heap.size w w' := by
  go_enter Try.func102, Try.ntmps102
  go_wp2_with fail
  obtain ⟨W0, hW0⟩ : ∃ W0, W0 = w.alloc (.cells #[.int .i64 0, .int .i64 0] 74) := ⟨_, rfl⟩
  have r0 : W0.cell? ⟨w.heap.size, 0, none⟩ = some (.int .i64 0) := by rw [hW0]; simp
  have r1 : W0.cell? ⟨w.heap.size, 1, none⟩ = some (.int .i64 0) := by rw [hW0]; simp
  have f0 : W0.frozen? ⟨w.heap.size, 0, none⟩ = false := by rw [hW0]; simp
  have f1 : W0.frozen? ⟨w.heap.size, 1, none⟩ = false := by rw [hW0]; simp
  have hz0 : w.heap.size + 1 ≤ W0.heap.size := by rw [hW0]; simp
  have hBW : Below w.heap.size w W0 := by rw [hW0]; (repeat (with_reducible first | exact Below.refl _ _ | assumption | refine Below.drewN _ ?_ | refine Below.drew ?_ | refine Below_alloc ?_ _ | refine Below.alloc ?_ (by first | (simp; done) | (simp; omega) | omega) _ | refine Below.setCell ?_ (by first | (simp; done) | (simp; omega) | omega) _ | refine Below_call ?_ (by assumption) | refine Below.trans ?_ (by assumption)))
  rw [← hW0]
  clear hW0
  go_loopw [8, 11] (fun v i wr => ∃ n : Nat, n ≤ 11 ∧ i = .int .i64 n ∧ wr.ownsRow W0.heap.size 3 1 v (shs T h r n).length ((shs T h r n).map (Value.int .i64)) ∧ Below W0.heap.size W0 wr) (fun _ i _ => 11 - (intOf i).toNat)
  case atStart => exact ⟨0, by omega, rfl, World.ownsRow_nil _ _ _ _, Below.refl _ _⟩
  case round =>
    obtain ⟨n, hn, rfl, hown, hbel⟩ := hrel
    obtain ⟨hc, hf⟩ := bcell hbel
    have hz := hbel.size
    have e0 := (hc w.heap.size 0 (by omega)).trans r0
    have e1 := (hc w.heap.size 1 (by omega)).trans r1
    have g0 := (hf w.heap.size 0 (by omega)).trans f0
    have g1 := (hf w.heap.size 1 (by omega)).trans f1
    have hs0 : w.heap.size < wr.heap.size := by omega
    have hln := shs_len T h r n
    clear hc hf r0 r1 f0 f1
    by_cases hlt : n < 11
    · cases hp : inBandB T h r n
      · have HPn := hid hp
        have hp' : inB h (bandLoI T n r) (bandHiI T n r) = false := hp
        clear hp
        go_wp2_with (first | (go_at_call 106; refine (blind_band _ _ _ _ (by omega) (by omega) (by omega) (by omega) (by omega) (by omega)).mono ?_; rintro _ w1 ⟨rfl, hb1⟩; obtain ⟨hc1, hf1⟩ := bcell hb1; have hz1 := hb1.size; (try simp only [World.size_alloc, World.heap_drewN] at hz1); have hk1_0 : w.heap.size < w1.heap.size := (by omega)) | (go_at_call 77; refine (blind_within _ _ _ _).mono ?_; rintro _ _ ⟨rfl, rfl⟩))
        go_roundw
        case rel =>
          refine ⟨n + 1, by omega, by go_num, ?_, ?_⟩
          · rw [shs, if_neg (by rw [HPn.out]; simp)]
            exact (ownsRow_below hown hb1).alloc _
          · (repeat (with_reducible first | exact Below.refl _ _ | assumption | refine Below.drewN _ ?_ | refine Below.drew ?_ | refine Below_alloc ?_ _ | refine Below.alloc ?_ (by first | (simp; done) | (simp; omega) | omega) _ | refine Below.setCell ?_ (by first | (simp; done) | (simp; omega) | omega) _ | refine Below_call ?_ (by assumption) | refine Below.trans ?_ (by assumption)))
        case measure => simp [intOf]; omega
      · have HPn := hid hp
        have hp' : inB h (bandLoI T n r) (bandHiI T n r) = true := hp
        clear hp
        go_wp2_with (first | (go_at_call 106; refine (blind_band _ _ _ _ (by omega) (by omega) (by omega) (by omega) (by omega) (by omega)).mono ?_; rintro _ w1 ⟨rfl, hb1⟩; obtain ⟨hc1, hf1⟩ := bcell hb1; have hz1 := hb1.size; (try simp only [World.size_alloc, World.heap_drewN] at hz1); have hk1_0 : w.heap.size < w1.heap.size := (by omega)) | (go_at_call 77; refine (blind_within _ _ _ _).mono ?_; rintro _ _ ⟨rfl, rfl⟩) | (at_builtin; refine wpList_push rfl _ _ _ rfl elemInt W0.heap.size _ (shs T h r n).length _ rfl _ ((ownsRow_below hown hb1).alloc _) [.int .i64 n] rfl (by simp [Value.oneCell']) rfl (w1.heap.size + 1) (by simp) rfl (by omega) (by unfold maxLen; omega) (by simp; omega) ?_; intro v1 w2 hown3 hb3 _ _))
        go_roundw
        case rel =>
          refine ⟨n + 1, by omega, by go_num, ?_, ?_⟩
          · rw [shs, if_pos HPn.out]
            simpa using hown3
          · (repeat (with_reducible first | exact Below.refl _ _ | assumption | refine Below.drewN _ ?_ | refine Below.drew ?_ | refine Below_alloc ?_ _ | refine Below.alloc ?_ (by first | (simp; done) | (simp; omega) | omega) _ | refine Below.setCell ?_ (by first | (simp; done) | (simp; omega) | omega) _ | refine Below_call ?_ (by assumption) | refine Below.trans ?_ (by assumption)))
        case measure => simp [intOf]; omega
    · have hn11 : n = 11 := by omega
      subst hn11
      obtain ⟨s1, s2⟩ := shs_spec T h r 11 (by omega)
      have hints := ownsRow_ints hown
      obtain ⟨ao, cap, rfl, -, -, -⟩ := hints.opn
      by_cases hl : (shs T h r 11).length = 0
      · have hno := hid (s1 hl).1
        have hl' : (((shs T h r 11).length : Int) == 0) = true := by simpa using hl
        have HLN := hid hl
        clear s1 s2 hl
        go_wp2_with fail
        ((try simp only [Exit.inBlock, Exit.then]); refine bodyPost_ret (v := .tuple #[.agg #[.int .i64 0, .int .i64 0], .bool false]) ?_ rfl ?_; (next => simp [results, Try.results102, go_sem, hs0, e0, e1]); refine ⟨?_, ?_⟩; (next => rw [limV_no hno.out]); (next => (repeat (with_reducible first | exact Below.refl _ _ | assumption | refine Below.drewN _ ?_ | refine Below.drew ?_ | refine Below_alloc ?_ _ | refine Below.alloc ?_ (by first | (simp; done) | (simp; omega) | omega) _ | refine Below.setCell ?_ (by first | (simp; done) | (simp; omega) | omega) _ | refine Below_call ?_ (by assumption) | refine Below.trans ?_ (by assumption)))))
      · obtain ⟨y1, y2, y3⟩ := s2 (by omega)
        have hyes := hid (show limHi T h r 11 ≠ -1 by omega)
        have hl' : (((shs T h r 11).length : Int) == 0) = false := by simpa using hl
        have HMN := hid y2
        have HMX := hid y3
        have hpos : 0 < (shs T h r 11).length := by omega
        clear s1 s2 hl y1 y2 y3
        go_wp2_with (first | (go_at_call 141; refine (slices_Min _ _ _ hints hpos).mono ?_; rintro _ _ ⟨rfl, rfl⟩) | (go_at_call 142; refine (slices_Max _ _ _ hints hpos).mono ?_; rintro _ _ ⟨rfl, rfl⟩))
        rw [HMN.out, HMX.out]
        ((try simp only [Exit.inBlock, Exit.then]); refine bodyPost_ret (v := .tuple #[.agg #[.int .i64 (limLo T h r 11), .int .i64 (limHi T h r 11)], .bool true]) ?_ rfl ?_; (next => simp [results, Try.results102, go_sem, hs0, e0, e1]); refine ⟨?_, ?_⟩; (next => rw [limV_yes hyes.out]); (next => (repeat (with_reducible first | exact Below.refl _ _ | assumption | refine Below.drewN _ ?_ | refine Below.drew ?_ | refine Below_alloc ?_ _ | refine Below.alloc ?_ (by first | (simp; done) | (simp; omega) | omega) _ | refine Below.setCell ?_ (by first | (simp; done) | (simp; omega) | omega) _ | refine Below_call ?_ (by assumption) | refine Below.trans ?_ (by assumption)))))


end Go.Proofs.Ytllddidjiabegaa
