/- Contracts of ways, bands and limits in the program. -/
import Derived.Test.YtllddidjiabegaaE
import Derived.Deep.LoopGhost
set_option linter.unusedVariables false
set_option linter.unusedSimpArgs false
namespace Go.Proofs.Ytllddidjiabegaa
open Go.RowKit

def trErr (n : Int) : Int := unl (inB n 1 12) 2
def hitErr (t n : Int) : Int := unl (inB n 0 t) 2
def tenErr (n : Int) : Int := unl (inB n 0 10) 2
def rskErr (n : Int) : Int := unl (inB n 0 999) 2

theorem blind_trialsErr (n : Int) (w : World) : Calls Try.prog 90 #[.int .i64 n] w fun e w' => e = .returned (.int .i64 (trErr n)) ∧ w = w' := by
  go_enter Try.func90, Try.ntmps90
  go_wp2_with (first | (go_at_call 77; refine (blind_within _ _ _ _).mono ?_; rintro _ _ ⟨rfl, rfl⟩) | (go_at_call 78; refine (blind_unless _ _ _).mono ?_; rintro _ _ ⟨rfl, rfl⟩))
  go_ret; exact ⟨rfl, rfl⟩
theorem blind_hitsErr (t n : Int) (w : World) : Calls Try.prog 104 #[.int .i64 t, .int .i64 n] w fun e w' => e = .returned (.int .i64 (hitErr t n)) ∧ w = w' := by
  go_enter Try.func104, Try.ntmps104
  go_wp2_with (first | (go_at_call 77; refine (blind_within _ _ _ _).mono ?_; rintro _ _ ⟨rfl, rfl⟩) | (go_at_call 78; refine (blind_unless _ _ _).mono ?_; rintro _ _ ⟨rfl, rfl⟩))
  go_ret; exact ⟨rfl, rfl⟩
theorem blind_tenthsErr (n : Int) (w : World) : Calls Try.prog 100 #[.int .i64 n] w fun e w' => e = .returned (.int .i64 (tenErr n)) ∧ w = w' := by
  go_enter Try.func100, Try.ntmps100
  go_wp2_with (first | (go_at_call 77; refine (blind_within _ _ _ _).mono ?_; rintro _ _ ⟨rfl, rfl⟩) | (go_at_call 78; refine (blind_unless _ _ _).mono ?_; rintro _ _ ⟨rfl, rfl⟩))
  go_ret; exact ⟨rfl, rfl⟩
theorem blind_riskErr (n : Int) (w : World) : Calls Try.prog 101 #[.int .i64 n] w fun e w' => e = .returned (.int .i64 (rskErr n)) ∧ w = w' := by
  go_enter Try.func101, Try.ntmps101
  go_wp2_with (first | (go_at_call 77; refine (blind_within _ _ _ _).mono ?_; rintro _ _ ⟨rfl, rfl⟩) | (go_at_call 78; refine (blind_unless _ _ _).mono ?_; rintro _ _ ⟨rfl, rfl⟩))
  go_ret; exact ⟨rfl, rfl⟩

theorem ref_CountErr (n : Int) (w : World) : Calls Try.prog 40 #[.int .i64 n] w fun e w' => e = .returned (.int .i64 (trErr n)) ∧ w = w' := by
  cases hb : inB n 1 12 <;> have HB := hid hb <;>
  · go_enter Try.func40, Try.ntmps40
    go_wp2_with (go_at_call 44; refine (base_Within _ _ _ _).mono ?_; rintro _ _ ⟨rfl, rfl⟩)
    go_ret; exact ⟨ret_int (by simp [trErr, unl, HB.out]), rfl⟩
theorem ref_ShareErr (n : Int) (w : World) : Calls Try.prog 41 #[.int .i64 n] w fun e w' => e = .returned (.int .i64 (tenErr n)) ∧ w = w' := by
  cases hb : inB n 0 10 <;> have HB := hid hb <;>
  · go_enter Try.func41, Try.ntmps41
    go_wp2_with (go_at_call 44; refine (base_Within _ _ _ _).mono ?_; rintro _ _ ⟨rfl, rfl⟩)
    go_ret; exact ⟨ret_int (by simp [tenErr, unl, HB.out]), rfl⟩
theorem ref_RiskErr (n : Int) (w : World) : Calls Try.prog 42 #[.int .i64 n] w fun e w' => e = .returned (.int .i64 (rskErr n)) ∧ w = w' := by
  cases hb : inB n 0 999 <;> have HB := hid hb <;>
  · go_enter Try.func42, Try.ntmps42
    go_wp2_with (go_at_call 44; refine (base_Within _ _ _ _).mono ?_; rintro _ _ ⟨rfl, rfl⟩)
    go_ret; exact ⟨ret_int (by simp [rskErr, unl, HB.out]), rfl⟩
def studyErr (t h : Int) : Int := unl (inB t 1 12 && inB h 0 t) 2
theorem ref_StudyErr (t n : Int) (w : World) : Calls Try.prog 50 #[.int .i64 t, .int .i64 n] w fun e w' => e = .returned (.int .i64 (studyErr t n)) ∧ w = w' := by
  cases hb : inB t 1 12
  · have HB := hid hb
    have h1 : (trErr t != 0) = true := by simp [trErr, unl, hb]
    go_enter Try.func50, Try.ntmps50
    go_wp2_with (first | (go_at_call 40; refine (ref_CountErr _ _).mono ?_; rintro _ _ ⟨rfl, rfl⟩) | (go_at_call 44; refine (base_Within _ _ _ _).mono ?_; rintro _ _ ⟨rfl, rfl⟩))
    go_ret; exact ⟨ret_int (by simp [studyErr, unl, HB.out]), rfl⟩
  · have HB := hid hb
    have h1 : (trErr t != 0) = false := by simp [trErr, unl, hb]
    cases hb2 : inB n 0 t <;> have HB2 := hid hb2 <;>
    · go_enter Try.func50, Try.ntmps50
      go_wp2_with (first | (go_at_call 40; refine (ref_CountErr _ _).mono ?_; rintro _ _ ⟨rfl, rfl⟩) | (go_at_call 44; refine (base_Within _ _ _ _).mono ?_; rintro _ _ ⟨rfl, rfl⟩))
      go_ret; exact ⟨ret_int (by simp [studyErr, unl, HB.out, HB2.out]), rfl⟩
theorem studyErr_eq (t h : Int) (l : List Int) : firstNZ (trErr t :: hitErr t h :: l) = firstNZ (studyErr t h :: l) := by
  cases h1 : inB t 1 12 <;> cases h2 : inB h 0 t <;> simp [firstNZ, trErr, hitErr, studyErr, unl, h1, h2]
theorem trErr_ok {n : Int} (h : trErr n = 0) : 1 ≤ n ∧ n ≤ 12 := by
  cases hb : inB n 1 12
  · simp [trErr, unl, hb] at h
  · exact inB_true.1 hb
theorem hitErr_ok {t n : Int} (h : hitErr t n = 0) : 0 ≤ n ∧ n ≤ t := by
  cases hb : inB n 0 t
  · simp [hitErr, unl, hb] at h
  · exact inB_true.1 hb
theorem tenErr_ok {n : Int} (h : tenErr n = 0) : 0 ≤ n ∧ n ≤ 10 := by
  cases hb : inB n 0 10
  · simp [tenErr, unl, hb] at h
  · exact inB_true.1 hb
theorem rskErr_ok {n : Int} (h : rskErr n = 0) : 0 ≤ n ∧ n ≤ 999 := by
  cases hb : inB n 0 999
  · simp [rskErr, unl, hb] at h
  · exact inB_true.1 hb

def waysV (T H S : Int) : Value := .tuple #[.int .i64 (if firstNZ [trErr T, hitErr T H, tenErr S] = 0 then waysI T H S else 0), .int .i64 (firstNZ [trErr T, hitErr T H, tenErr S])]
theorem blind_WaysOf (T H S : Int) (w : World) : Calls Try.prog 46 #[.int .i64 T, .int .i64 H, .int .i64 S] w fun e w' => e = .returned (waysV T H S) ∧ Below w.heap.size w w' := by
  by_cases he : firstNZ [trErr T, hitErr T H, tenErr S] = 0
  · have HE := hid he
    have h2 := firstNZ_zero.1 he
    have h3 := trErr_ok (h2 (trErr T) (by simp))
    have h4 := hitErr_ok (h2 (hitErr T H) (by simp))
    have h5 := tenErr_ok (h2 (tenErr S) (by simp))
    have he' : (firstNZ [trErr T, hitErr T H, tenErr S] != 0) = false := by simpa using he
    clear he h2
    go_enter Try.func46, Try.ntmps46
    go_wp2_with (first | (go_at_call 90; refine (blind_trialsErr _ _).mono ?_; rintro _ _ ⟨rfl, rfl⟩) | (go_at_call 104; refine (blind_hitsErr _ _ _).mono ?_; rintro _ _ ⟨rfl, rfl⟩) | (go_at_call 100; refine (blind_tenthsErr _ _).mono ?_; rintro _ _ ⟨rfl, rfl⟩) | (go_at_call 75; refine (blind_first [trErr T, hitErr T H, tenErr S] _ _ (intsAt_new _ _ _ _ _ rfl (by simp) (by simp))).mono ?_; rintro _ _ ⟨rfl, rfl⟩) | (go_at_call 105; refine (blind_ways _ _ _ _ (by omega) (by omega) (by omega) (by omega) (by omega) (by omega)).mono ?_; rintro _ _ ⟨rfl, rfl⟩))
    go_ret2
    exact ⟨by simp [waysV, HE.out], by (repeat (with_reducible first | exact Below.refl _ _ | assumption | refine Below.drewN _ ?_ | refine Below.drew ?_ | refine Below_alloc ?_ _ | refine Below.alloc ?_ (by first | (simp; done) | (simp; omega) | omega) _ | refine Below.setCell ?_ (by first | (simp; done) | (simp; omega) | omega) _ | refine Below_call ?_ (by assumption) | refine Below.trans ?_ (by assumption)))⟩
  · have HE := hid he
    have he' : (firstNZ [trErr T, hitErr T H, tenErr S] != 0) = true := by simpa using he
    clear he
    go_enter Try.func46, Try.ntmps46
    go_wp2_with (first | (go_at_call 90; refine (blind_trialsErr _ _).mono ?_; rintro _ _ ⟨rfl, rfl⟩) | (go_at_call 104; refine (blind_hitsErr _ _ _).mono ?_; rintro _ _ ⟨rfl, rfl⟩) | (go_at_call 100; refine (blind_tenthsErr _ _).mono ?_; rintro _ _ ⟨rfl, rfl⟩) | (go_at_call 75; refine (blind_first [trErr T, hitErr T H, tenErr S] _ _ (intsAt_new _ _ _ _ _ rfl (by simp) (by simp))).mono ?_; rintro _ _ ⟨rfl, rfl⟩) | (go_at_call 105; refine (blind_ways _ _ _ _ (by omega) (by omega) (by omega) (by omega) (by omega) (by omega)).mono ?_; rintro _ _ ⟨rfl, rfl⟩))
    go_ret2
    exact ⟨by simp [waysV, if_neg HE.out], by (repeat (with_reducible first | exact Below.refl _ _ | assumption | refine Below.drewN _ ?_ | refine Below.drew ?_ | refine Below_alloc ?_ _ | refine Below.alloc ?_ (by first | (simp; done) | (simp; omega) | omega) _ | refine Below.setCell ?_ (by first | (simp; done) | (simp; omega) | omega) _ | refine Below_call ?_ (by assumption) | refine Below.trans ?_ (by assumption)))⟩

theorem le_int1 (W A r : Nat) (h : W ≤ A) : 2000 * (A - W) ≤ r * A ↔ 2000 * ((A : Int) - (W : Int)) ≤ (r : Int) * (A : Int) := by
  rw [← Int.natCast_mul]
  generalize r * A = x
  omega
theorem le_int2 (W A r : Nat) : 2000 * W ≤ r * A ↔ 2000 * (W : Int) ≤ (r : Int) * (A : Int) := by
  rw [← Int.natCast_mul]
  generalize r * A = x
  omega

def bandLoI (T S r : Int) : Int := (bandLo T.toNat S.toNat r.toNat : Nat)
def bandHiI (T S r : Int) : Int := (bandHi T.toNat S.toNat r.toNat : Nat)

set_option maxHeartbeats 1000000 in
theorem blind_band (T S r : Int) (w : World) (h0 : 0 ≤ T) (h1 : T ≤ 12) (h2 : 0 ≤ S) (h3 : S ≤ 10) (h4 : 0 ≤ r) (h5 : r ≤ 999) :
    Calls Try.prog 106 #[.int .i64 T, .int .i64 S, .int .i64 r] w fun e w' => e = .returned (.agg #[.int .i64 (bandLoI T S r), .int .i64 (bandHiI T S r)]) ∧ Below w.heap.size w w' := by
  obtain ⟨t, rfl⟩ := Int.eq_ofNat_of_zero_le h0
  obtain ⟨s, rfl⟩ := Int.eq_ofNat_of_zero_le h2
  obtain ⟨r, rfl⟩ := Int.eq_ofNat_of_zero_le h4
  have hp : powI 10 t = ((10 ^ t : Nat) : Int) := by simp [powI]
  have HP := hid hp
  have hten := ten_le (t := t) (by omega)
  have hpos : 0 < 10 ^ t := Nat.pow_pos (by decide)
  obtain ⟨A, hA⟩ : ∃ A : Nat, A = 10 ^ t := ⟨_, rfl⟩
  rw [← hA] at hp hten hpos
  have HA := hid hA
  have hrA : r * A ≤ 999 * 1000000000000 := Nat.mul_le_mul (by omega) hten
  have hrA' : (r : Int) * (A : Int) ≤ 999000000000000 := by have h4 := Int.ofNat_le.2 hrA; rw [Int.natCast_mul] at h4; omega
  have hrA0 : 0 ≤ (r : Int) * (A : Int) := Int.mul_nonneg (by omega) (by omega)
  clear hA hrA
  go_enter Try.func106, Try.ntmps106
  go_wp2_with (go_at_call 143; refine (blind_power _ _ _ (by omega) (by omega) (by omega) (by omega)).mono ?_; rintro _ _ ⟨rfl, rfl⟩)
  have HR : ∀ a : Nat, Hid (waysI t ((a : Int) + 1) s = (waysN s t (a + 1) : Nat)) := fun a => hid (by simp only [waysI, Int.toNat_natCast]; rw [show ((a : Int) + 1).toNat = a + 1 from by omega])
  have HR' : ∀ a : Nat, Hid (waysI t (a : Int) s = (waysN s t a : Nat)) := fun a => hid (by simp only [waysI, Int.toNat_natCast])
  have HL : Hid (∀ a, loP t s r a = true ↔ 2000 * ((A : Int) - waysI t ((a : Int) + 1) s) ≤ (r : Int) * A) := hid (fun a => by
    have h6 := waysN_le (s := s) (t := t) (h := a + 1) (by omega)
    rw [← HA.out] at h6
    simp only [loP, decide_eq_true_eq, ← HA.out, (HR a).out]
    exact le_int1 _ _ _ h6)
  have HH : Hid (∀ b, hiP t s r b = true ↔ 2000 * waysI t (b : Int) s ≤ (r : Int) * A) := hid (fun b => by
    simp only [hiP, decide_eq_true_eq, ← HA.out, (HR' b).out]
    exact le_int2 _ _ _)
  have HB : ∀ x : Int, 0 ≤ x → x ≤ (t : Int) + 1 → 0 ≤ waysI t x s ∧ waysI t x s ≤ A := fun x _ _ => by
    have h6 := waysN_le (s := s) (t := t) (h := x.toNat) (by omega)
    rw [← HA.out] at h6
    simp only [waysI, Int.toNat_natCast]; omega
  have HE1 : Hid (loP t s r t = false) := hid (loP_end (by omega))
  have HE2 : Hid (hiP t s r 0 = false) := hid (hiP_end (by omega) (by omega))
  have HBH := hid HB
  clear HB HR HR'
  go_loopg [] (t) (fun n wr => ∃ a : Nat, a ≤ t ∧ n = t - a ∧ Hid (∀ j, j < a → loP t s r j = true) ∧ wr = (w.alloc (.cells #[.int .i64 0, .int .i64 0] 74)).alloc (.cells #[.int .i64 a, .int .i64 t] 74))
  case atStart => exact ⟨0, by omega, rfl, hid (fun j hj => by omega), rfl⟩
  case round =>
    obtain ⟨a, ha, hn, hall, rfl⟩ := hrel
    have hway := HBH.out ((a : Int) + 1) (by omega) (by omega)
    cases hp : loP t s r a
    · have hno : ¬ 2000 * ((A : Int) - waysI t ((a : Int) + 1) s) ≤ (r : Int) * A := fun h => by rw [(HL.out a).2 h] at hp; cases hp
      have HPa := hid hp
      clear hp
      go_wp2_with (go_at_call 105; refine (blind_ways _ _ _ _ (by omega) (by omega) (by omega) (by omega) (by omega) (by omega)).mono ?_; rintro _ _ ⟨rfl, rfl⟩)
      have HLO : Hid (bandLo t s r = a) := hid (upTo_eq _ _ _ (Nat.zero_le _) (by omega) (fun j _ hj => hall.out j hj) HPa.out)
      clear hno hway hn
      go_loopg [] (t) (fun n wr => ∃ b : Nat, b ≤ t ∧ n = b ∧ Hid (∀ j, b < j → j ≤ t → hiP t s r j = true) ∧ wr = (w.alloc (.cells #[.int .i64 0, .int .i64 0] 74)).alloc (.cells #[.int .i64 a, .int .i64 b] 74))
      case atStart => exact ⟨t, by omega, rfl, hid (fun j hj hj2 => by omega), rfl⟩
      case round =>
        obtain ⟨b, hb, hn, hall2, rfl⟩ := hrel
        have hway := HBH.out (b : Int) (by omega) (by omega)
        cases hp : hiP t s r b
        · have hno : ¬ 2000 * waysI t (b : Int) s ≤ (r : Int) * A := fun h => by rw [(HH.out b).2 h] at hp; cases hp
          have HPb := hid hp
          clear hp
          go_wp2_with (go_at_call 105; refine (blind_ways _ _ _ _ (by omega) (by omega) (by omega) (by omega) (by omega) (by omega)).mono ?_; rintro _ _ ⟨rfl, rfl⟩)
          have HHI : Hid (bandHi t s r = b) := hid (downTo_eq _ _ hb (fun j h1 h2 => hall2.out j h1 h2) (Or.inr HPb.out))
          ((try simp only [Exit.inBlock, Exit.then]); refine bodyPost_ret (v := .agg #[.int .i64 a, .int .i64 b]) ?_ rfl ?_; (next => simp [results, Try.results106, go_sem]); refine ⟨?_, ?_⟩; (next => simp only [bandLoI, bandHiI, Int.toNat_natCast]; rw [HLO.out, HHI.out]); (next => (repeat (with_reducible first | exact Below.refl _ _ | assumption | refine Below.drewN _ ?_ | refine Below.drew ?_ | refine Below_alloc ?_ _ | refine Below.alloc ?_ (by first | (simp; done) | (simp; omega) | omega) _ | refine Below.setCell ?_ (by first | (simp; done) | (simp; omega) | omega) _ | refine Below_call ?_ (by assumption) | refine Below.trans ?_ (by assumption)))))
        · have hyes := (HH.out b).1 hp
          have hb0 : 0 < b := Nat.pos_of_ne_zero (fun h => by rw [h, HE2.out] at hp; cases hp)
          have HPb := hid hp
          clear hp
          go_wp2_with (go_at_call 105; refine (blind_ways _ _ _ _ (by omega) (by omega) (by omega) (by omega) (by omega) (by omega)).mono ?_; rintro _ _ ⟨rfl, rfl⟩)
          go_roundg (b - 1)
          case rel =>
            refine ⟨b - 1, by omega, rfl, hid (fun j h1 h2 => ?_), by rw [show ((b : Int) - 1) = ((b - 1 : Nat) : Int) from by omega]⟩
            by_cases e : j = b
            · rw [e]; exact HPb.out
            · exact hall2.out j (by omega) h2
          case measure => omega
    · have hyes := (HL.out a).1 hp
      have hat : a < t := Nat.lt_of_le_of_ne ha (fun h => by rw [h, HE1.out] at hp; cases hp)
      have HPa := hid hp
      clear hp
      go_wp2_with (go_at_call 105; refine (blind_ways _ _ _ _ (by omega) (by omega) (by omega) (by omega) (by omega) (by omega)).mono ?_; rintro _ _ ⟨rfl, rfl⟩)
      go_roundg (t - (a + 1))
      case rel =>
        refine ⟨a + 1, by omega, rfl, hid (fun j h1 => ?_), by simp⟩
        by_cases e : j = a
        · rw [e]; exact HPa.out
        · exact hall.out j (by omega)
      case measure => omega

end Go.Proofs.Ytllddidjiabegaa
