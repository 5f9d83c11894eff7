/- Texts of this claim, together. -/
import Derived.Test.YtlmdmpjfehpjeaaN13

/- Tracks, by the checker: the law of answers, cases. -/
set_option linter.unusedVariables false
set_option linter.unusedSimpArgs false
namespace Go.Proofs.Ytlmdmpjfehpjeaa
open Go.RowKit Ev

def con_ref05_MomentErr_2 : Con := fun args => match args with
  | [.t (.a [.v (.int .i64 p0), .v (.int .i64 p1), .v (.int .i64 p2), .v (.int .i64 p3)])] => some (.t (.c (.v (.int .i64 2))), some (momE ⟨p0, p1, p2⟩ p3 = 2), false)
  | _ => none
theorem ok_ref05_MomentErr_2 : Ok Try.prog 20 con_ref05_MomentErr_2 := by
  refine Ok.over ok_ref05_MomentErr fun args r pre fresh h hp => ?_
  unfold con_ref05_MomentErr_2 at h
  split at h
  · rename_i p0 p1 p2 p3
    cases h
    have hq := hp
    (try simp only [okP] at hq)
    refine ⟨_, _, rfl, trivial, ?_⟩
    simp_all
  · cases h
def S105 : Sum := addS S29 18 con_ref05_ModelErr_0
theorem VS105 : Valid Try.prog S105 := Valid.add VS29 ok_ref05_ModelErr_0
def S106 : Sum := addS S105 39 con_ref05_BoxErr_0
theorem VS106 : Valid Try.prog S106 := Valid.add VS105 ok_ref05_BoxErr_0
def S107 : Sum := addS S106 20 con_ref05_MomentErr_2
theorem VS107 : Valid Try.prog S107 := Valid.add VS106 ok_ref05_MomentErr_2
def S108 : Sum := addS S107 40 con_ref05_HitsErr_0
theorem VS108 : Valid Try.prog S108 := Valid.add VS107 ok_ref05_HitsErr_0
def S109 : Sum := addS S108 41 con_ref05_CanBe_t
theorem VS109 : Valid Try.prog S109 := Valid.add VS108 ok_ref05_CanBe_t
def S110 : Sum := addS S109 37 con_track_AnswerIn_e2
theorem VS110 : Valid Try.prog S110 := Valid.add VS109 ok_track_AnswerIn_e2
def S111 : Sum := addS S110 38 con_track_ScoresIn_ok
theorem VS111 : Valid Try.prog S111 := Valid.add VS110 ok_track_ScoresIn_ok
def S112 : Sum := addS S111 28 con_law05_few_t
theorem VS112 : Valid Try.prog S112 := Valid.add VS111 ok_law05_few_t
def vc_law05_TrackAnswers_D2H0t (m0 m1 m2 m3 m4 m5 m6 m7 m8 m9 m10 m11 : Int) (b0 b1 b2 b3 b4 b5 : Int) (q0 q1 q2 q3 : Int) (l : List THit) (post : DV → Prop) : Prop := (numsP 5 l.length (hitsC l) ∧ decide (((listC l.length mkHit (hitsC l))).length ≤ 14) = true) ∧ ((firstNZ [firstNZ [((⟨m0, m1, m2, m3, m4, m5, m6, m7, m8, m9, m10, m11⟩ : TMod)).err, ((⟨⟨b0, b1, b2⟩, ⟨b3, b4, b5⟩⟩ : TBox)).err], momE ⟨q0, q1, q2⟩ q3, unl (canW (⟨m0, m1, m2, m3, m4, m5, m6, m7, m8, m9, m10, m11⟩ : TMod) (⟨⟨b0, b1, b2⟩, ⟨b3, b4, b5⟩⟩ : TBox)) 12] = 2) ∧ ((numsP 5 l.length (hitsC l) ∧ ((listC l.length mkHit (hitsC l))).length ≤ 1000000) ∧ ((numsP 5 ((listC l.length mkHit (hitsC l)).length) (hitsC (listC l.length mkHit (hitsC l))) ∧ firstNZ [firstNZ [firstNZ [((⟨m0, m1, m2, m3, m4, m5, m6, m7, m8, m9, m10, m11⟩ : TMod)).err, ((⟨⟨b0, b1, b2⟩, ⟨b3, b4, b5⟩⟩ : TBox)).err], hitsE (listC ((listC l.length mkHit (hitsC l)).length) mkHit (hitsC (listC l.length mkHit (hitsC l))))], unl (canW (⟨m0, m1, m2, m3, m4, m5, m6, m7, m8, m9, m10, m11⟩ : TMod) (⟨⟨b0, b1, b2⟩, ⟨b3, b4, b5⟩⟩ : TBox)) 12] = 0) ∧ ((((⟨m0, m1, m2, m3, m4, m5, m6, m7, m8, m9, m10, m11⟩ : TMod)).err = 0) ∧ ((((⟨⟨b0, b1, b2⟩, ⟨b3, b4, b5⟩⟩ : TBox)).err = 0) ∧ ((momE ⟨q0, q1, q2⟩ q3 = 2) ∧ ((numsP 5 l.length (hitsC l) ∧ hitsE (listC l.length mkHit (hitsC l)) = 0) ∧ ((false = false) ∧ ((canW (⟨m0, m1, m2, m3, m4, m5, m6, m7, m8, m9, m10, m11⟩ : TMod) (⟨⟨b0, b1, b2⟩, ⟨b3, b4, b5⟩⟩ : TBox) = true) ∧ ((false = false) ∧ ((numsP 5 l.length (hitsC l) ∧ ((⟨m0, m1, m2, m3, m4, m5, m6, m7, m8, m9, m10, m11⟩ : TMod)).Ok ∧ ((⟨⟨b0, b1, b2⟩, ⟨b3, b4, b5⟩⟩ : TBox)).lo.inS 20 = true ∧ ((⟨⟨b0, b1, b2⟩, ⟨b3, b4, b5⟩⟩ : TBox)).hi.inS 20 = true ∧ ((⟨m0, m1, m2, m3, m4, m5, m6, m7, m8, m9, m10, m11⟩ : TMod)).canBe (⟨⟨b0, b1, b2⟩, ⟨b3, b4, b5⟩⟩ : TBox) ∧ ((listC l.length mkHit (hitsC l))).length ≤ 12 ∧ ∀ i, i < ((listC l.length mkHit (hitsC l))).length → (hitAt (listC l.length mkHit (hitsC l)) i).Ok) ∧ (post (.t (.c (.v (.bool (bif (((((⟨m0, m1, m2, m3, m4, m5, m6, m7, m8, m9, m10, m11⟩ : TMod)).scores (⟨⟨b0, b1, b2⟩, ⟨b3, b4, b5⟩⟩ : TBox) (listC ((listC l.length mkHit (hitsC l)).length) mkHit (hitsC (listC l.length mkHit (hitsC l))))).lo) == ((((⟨m0, m1, m2, m3, m4, m5, m6, m7, m8, m9, m10, m11⟩ : TMod)).scores (⟨⟨b0, b1, b2⟩, ⟨b3, b4, b5⟩⟩ : TBox) (listC l.length mkHit (hitsC l))).lo)) then (bif (((((⟨m0, m1, m2, m3, m4, m5, m6, m7, m8, m9, m10, m11⟩ : TMod)).scores (⟨⟨b0, b1, b2⟩, ⟨b3, b4, b5⟩⟩ : TBox) (listC ((listC l.length mkHit (hitsC l)).length) mkHit (hitsC (listC l.length mkHit (hitsC l))))).hi) == ((((⟨m0, m1, m2, m3, m4, m5, m6, m7, m8, m9, m10, m11⟩ : TMod)).scores (⟨⟨b0, b1, b2⟩, ⟨b3, b4, b5⟩⟩ : TBox) (listC l.length mkHit (hitsC l))).hi)) then true else false) else false)))))))))))))))))
def ann_law05_TrackAnswers_D2H0t : Ann := ⟨fun r => lookA r [(6, ([[], [], [], [2], [2, 3], [0, 1, 2, 3, 4], [0, 1, 2, 3, 4, 5], [0, 1, 2, 3, 4, 5, 6], [0, 1, 2, 3, 4, 5, 6], [], [0, 1, 2, 3, 4, 5, 6, 7, 9], [0, 1, 2, 3, 4, 5, 6, 7, 8, 9, 10]], [[9], [9], [9], [9], [9], [9], [9], [9], [9], [], [], []])), (12, ([[], [0], [0, 1], [], [3], [0, 1, 2, 3, 4], [0, 1, 2, 3, 4, 5], [0, 1, 2, 3, 4, 5, 6]], [[], [], [], [], [], [], [], []])), (21, ([[], [0], [0, 1], [0, 1, 2], [0, 1, 2], [0, 1, 2], [0, 1, 2], [0, 1, 2, 6], [0, 1, 2, 4, 5, 6, 7], [0, 1, 2, 3, 4, 5, 6, 7, 8], [0, 1, 2, 3, 4, 5, 6, 7, 8, 9], [0, 1, 2, 3, 4, 5, 6, 7, 8, 9, 10]], [[], [], [], [], [], [], [], [], [], [], [], []]))], fun _ => none, fun _ => [], noIt⟩
theorem ev_law05_TrackAnswers_D2H0t (J : Inv) (m0 m1 m2 m3 m4 m5 m6 m7 m8 m9 m10 m11 : Int) (b0 b1 b2 b3 b4 b5 : Int) (q0 q1 q2 q3 : Int) (l : List THit) (post : DV → Prop) : evFn Try.prog tab S112 ann_law05_TrackAnswers_D2H0t J Try.f6 [.t (.a [.v (.int .i64 m0), .v (.int .i64 m1), .v (.int .i64 m2), .v (.int .i64 m3), .v (.int .i64 m4), .v (.int .i64 m5), .v (.int .i64 m6), .v (.int .i64 m7), .v (.int .i64 m8), .v (.int .i64 m9), .v (.int .i64 m10), .v (.int .i64 m11)]), .t (.a [.v (.int .i64 b0), .v (.int .i64 b1), .v (.int .i64 b2), .v (.int .i64 b3), .v (.int .i64 b4), .v (.int .i64 b5)]), .t (.a [.v (.int .i64 q0), .v (.int .i64 q1), .v (.int .i64 q2), .v (.int .i64 q3), .sl 5 l.length (hitsC l)])] post = vc_law05_TrackAnswers_D2H0t m0 m1 m2 m3 m4 m5 m6 m7 m8 m9 m10 m11 b0 b1 b2 b3 b4 b5 q0 q1 q2 q3 l post := by kernel_rfl
theorem fit_law05_TrackAnswers_D2H0t : okFn ann_law05_TrackAnswers_D2H0t Try.f6 = true := by kernel_rfl
theorem lp_law05_TrackAnswers_D2H0t (J : Inv) (post : DV → Prop) : AllG J (loopsFn Try.prog tab S112 ann_law05_TrackAnswers_D2H0t J Try.f6 post) = True := by kernel_rfl
theorem spec_law05_TrackAnswers_D2H0t (m0 m1 m2 m3 m4 m5 m6 m7 m8 m9 m10 m11 : Int) (b0 b1 b2 b3 b4 b5 : Int) (q0 q1 q2 q3 : Int) (l : List THit) (hl : (l).length ≤ 14) (hA : ((⟨m0, m1, m2, m3, m4, m5, m6, m7, m8, m9, m10, m11⟩ : TMod)).err = 0) (hB : ((⟨⟨b0, b1, b2⟩, ⟨b3, b4, b5⟩⟩ : TBox)).err = 0) (hD : momE ⟨q0, q1, q2⟩ q3 = 2) (hH : hitsE l = 0) (hC : canW (⟨m0, m1, m2, m3, m4, m5, m6, m7, m8, m9, m10, m11⟩ : TMod) (⟨⟨b0, b1, b2⟩, ⟨b3, b4, b5⟩⟩ : TBox) = true) : vc_law05_TrackAnswers_D2H0t m0 m1 m2 m3 m4 m5 m6 m7 m8 m9 m10 m11 b0 b1 b2 b3 b4 b5 q0 q1 q2 q3 l (fun r => LeD r (.t (.c (.v (.bool true))))) := by
  unfold vc_law05_TrackAnswers_D2H0t
  simp only [hits_listC]
  have hd : decide (l.length ≤ 14) = true := decide_eq_true hl
  have n := numsP_hits l
  have hE : firstNZ [firstNZ [(⟨m0, m1, m2, m3, m4, m5, m6, m7, m8, m9, m10, m11⟩ : TMod).err, (⟨⟨b0, b1, b2⟩, ⟨b3, b4, b5⟩⟩ : TBox).err], momE ⟨q0, q1, q2⟩ q3, unl (canW (⟨m0, m1, m2, m3, m4, m5, m6, m7, m8, m9, m10, m11⟩ : TMod) (⟨⟨b0, b1, b2⟩, ⟨b3, b4, b5⟩⟩ : TBox)) 12] = 2 := by simp [firstNZ, unl, hA, hB, hD, hH, hC]
  have hS : firstNZ [firstNZ [firstNZ [(⟨m0, m1, m2, m3, m4, m5, m6, m7, m8, m9, m10, m11⟩ : TMod).err, (⟨⟨b0, b1, b2⟩, ⟨b3, b4, b5⟩⟩ : TBox).err], hitsE l], unl (canW (⟨m0, m1, m2, m3, m4, m5, m6, m7, m8, m9, m10, m11⟩ : TMod) (⟨⟨b0, b1, b2⟩, ⟨b3, b4, b5⟩⟩ : TBox)) 12] = 0 := by simp [firstNZ, unl, hA, hB, hD, hH, hC]
  have hP2 : (numsP 5 l.length (hitsC l) ∧ (⟨m0, m1, m2, m3, m4, m5, m6, m7, m8, m9, m10, m11⟩ : TMod).Ok ∧ (⟨⟨b0, b1, b2⟩, ⟨b3, b4, b5⟩⟩ : TBox).lo.inS 20 = true ∧ (⟨⟨b0, b1, b2⟩, ⟨b3, b4, b5⟩⟩ : TBox).hi.inS 20 = true ∧ (⟨m0, m1, m2, m3, m4, m5, m6, m7, m8, m9, m10, m11⟩ : TMod).canBe (⟨⟨b0, b1, b2⟩, ⟨b3, b4, b5⟩⟩ : TBox) ∧ l.length ≤ 12 ∧ ∀ i, i < l.length → (hitAt l i).Ok) := by
    have hb := box_in hB
    rw [canW_eq hb.1 hb.2] at hC
    exact ⟨numsP_hits l, err_ok hA, hb.1, hb.2, canB_iff.1 hC, hitsE_ok hH⟩
  simp only at hP2
  have hln : l.length ≤ 1000000 := by omega
  repeat' with_reducible first
    | (refine And.intro rfl ?_)
    | (refine And.intro trivial ?_)
    | (refine And.intro n ?_)
    | (refine And.intro ⟨n, hln⟩ ?_)
    | (refine And.intro (by assumption) ?_)
    | (refine And.intro ⟨n, hd⟩ ?_)
    | (refine And.intro ⟨n, hE⟩ ?_)
    | (refine And.intro ⟨n, hS⟩ ?_)
    | (refine And.intro ⟨n, hH⟩ ?_)
    | (refine And.intro ⟨by assumption, by assumption⟩ ?_)
    | (refine lt_i ?_; intro _ _)
    | (refine cond_i (fun h => ?_) (fun h => ?_))
  all_goals first | exact LeD.refl _ | (exfalso; simp at h; done) | (refine leB ?_; simp; done)
theorem law_law05_TrackAnswers_D2H0t (m0 m1 m2 m3 m4 m5 m6 m7 m8 m9 m10 m11 : Int) (b0 b1 b2 b3 b4 b5 : Int) (q0 q1 q2 q3 : Int) (l : List THit) (hl : (l).length ≤ 14) (hA : ((⟨m0, m1, m2, m3, m4, m5, m6, m7, m8, m9, m10, m11⟩ : TMod)).err = 0) (hB : ((⟨⟨b0, b1, b2⟩, ⟨b3, b4, b5⟩⟩ : TBox)).err = 0) (hD : momE ⟨q0, q1, q2⟩ q3 = 2) (hH : hitsE l = 0) (hC : canW (⟨m0, m1, m2, m3, m4, m5, m6, m7, m8, m9, m10, m11⟩ : TMod) (⟨⟨b0, b1, b2⟩, ⟨b3, b4, b5⟩⟩ : TBox) = true) (W : World) (N : Nat → Prop) (vs : List Value) (h : All2 (RelD (RelF W N)) [.t (.a [.v (.int .i64 m0), .v (.int .i64 m1), .v (.int .i64 m2), .v (.int .i64 m3), .v (.int .i64 m4), .v (.int .i64 m5), .v (.int .i64 m6), .v (.int .i64 m7), .v (.int .i64 m8), .v (.int .i64 m9), .v (.int .i64 m10), .v (.int .i64 m11)]), .t (.a [.v (.int .i64 b0), .v (.int .i64 b1), .v (.int .i64 b2), .v (.int .i64 b3), .v (.int .i64 b4), .v (.int .i64 b5)]), .t (.a [.v (.int .i64 q0), .v (.int .i64 q1), .v (.int .i64 q2), .v (.int .i64 q3), .sl 5 l.length (hitsC l)])] vs) : Calls Try.prog 6 vs.toArray W fun e w' => e = .returned (.bool true) ∧ Below W.heap.size W w' :=
  law_end (fn_sound mixed tabOK VS112 (ann := ann_law05_TrackAnswers_D2H0t) ValidIt.no (fn := Try.f6) (J := fun _ _ _ => False) (by kernel_rfl) fit_law05_TrackAnswers_D2H0t (args := [.t (.a [.v (.int .i64 m0), .v (.int .i64 m1), .v (.int .i64 m2), .v (.int .i64 m3), .v (.int .i64 m4), .v (.int .i64 m5), .v (.int .i64 m6), .v (.int .i64 m7), .v (.int .i64 m8), .v (.int .i64 m9), .v (.int .i64 m10), .v (.int .i64 m11)]), .t (.a [.v (.int .i64 b0), .v (.int .i64 b1), .v (.int .i64 b2), .v (.int .i64 b3), .v (.int .i64 b4), .v (.int .i64 b5)]), .t (.a [.v (.int .i64 q0), .v (.int .i64 q1), .v (.int .i64 q2), .v (.int .i64 q3), .sl 5 l.length (hitsC l)])]) (post := (fun r => LeD r (.t (.c (.v (.bool true)))))) (by rw [ev_law05_TrackAnswers_D2H0t]; exact spec_law05_TrackAnswers_D2H0t m0 m1 m2 m3 m4 m5 m6 m7 m8 m9 m10 m11 b0 b1 b2 b3 b4 b5 q0 q1 q2 q3 l hl hA hB hD hH hC) (by rw [lp_law05_TrackAnswers_D2H0t]; trivial) (Nat.le_of_ble_eq_true (by kernel_rfl)) W N vs h)

def S113 : Sum := addS S29 18 con_ref05_ModelErr_0
theorem VS113 : Valid Try.prog S113 := Valid.add VS29 ok_ref05_ModelErr_0
def S114 : Sum := addS S113 39 con_ref05_BoxErr_0
theorem VS114 : Valid Try.prog S114 := Valid.add VS113 ok_ref05_BoxErr_0
def S115 : Sum := addS S114 20 con_ref05_MomentErr_2
theorem VS115 : Valid Try.prog S115 := Valid.add VS114 ok_ref05_MomentErr_2
def S116 : Sum := addS S115 40 con_ref05_HitsErr_0
theorem VS116 : Valid Try.prog S116 := Valid.add VS115 ok_ref05_HitsErr_0
def S117 : Sum := addS S116 41 con_ref05_CanBe_f
theorem VS117 : Valid Try.prog S117 := Valid.add VS116 ok_ref05_CanBe_f
def S118 : Sum := addS S117 37 con_track_AnswerIn_e2
theorem VS118 : Valid Try.prog S118 := Valid.add VS117 ok_track_AnswerIn_e2
def S119 : Sum := addS S118 38 con_track_ScoresIn_e12
theorem VS119 : Valid Try.prog S119 := Valid.add VS118 ok_track_ScoresIn_e12
def S120 : Sum := addS S119 28 con_law05_few_t
theorem VS120 : Valid Try.prog S120 := Valid.add VS119 ok_law05_few_t
def vc_law05_TrackAnswers_D2H0f (m0 m1 m2 m3 m4 m5 m6 m7 m8 m9 m10 m11 : Int) (b0 b1 b2 b3 b4 b5 : Int) (q0 q1 q2 q3 : Int) (l : List THit) (post : DV → Prop) : Prop := (numsP 5 l.length (hitsC l) ∧ decide (((listC l.length mkHit (hitsC l))).length ≤ 14) = true) ∧ ((firstNZ [firstNZ [((⟨m0, m1, m2, m3, m4, m5, m6, m7, m8, m9, m10, m11⟩ : TMod)).err, ((⟨⟨b0, b1, b2⟩, ⟨b3, b4, b5⟩⟩ : TBox)).err], momE ⟨q0, q1, q2⟩ q3, unl (canW (⟨m0, m1, m2, m3, m4, m5, m6, m7, m8, m9, m10, m11⟩ : TMod) (⟨⟨b0, b1, b2⟩, ⟨b3, b4, b5⟩⟩ : TBox)) 12] = 2) ∧ ((numsP 5 l.length (hitsC l) ∧ ((listC l.length mkHit (hitsC l))).length ≤ 1000000) ∧ ((numsP 5 ((listC l.length mkHit (hitsC l)).length) (hitsC (listC l.length mkHit (hitsC l))) ∧ firstNZ [firstNZ [firstNZ [((⟨m0, m1, m2, m3, m4, m5, m6, m7, m8, m9, m10, m11⟩ : TMod)).err, ((⟨⟨b0, b1, b2⟩, ⟨b3, b4, b5⟩⟩ : TBox)).err], hitsE (listC ((listC l.length mkHit (hitsC l)).length) mkHit (hitsC (listC l.length mkHit (hitsC l))))], unl (canW (⟨m0, m1, m2, m3, m4, m5, m6, m7, m8, m9, m10, m11⟩ : TMod) (⟨⟨b0, b1, b2⟩, ⟨b3, b4, b5⟩⟩ : TBox)) 12] = 12) ∧ ((((⟨m0, m1, m2, m3, m4, m5, m6, m7, m8, m9, m10, m11⟩ : TMod)).err = 0) ∧ ((((⟨⟨b0, b1, b2⟩, ⟨b3, b4, b5⟩⟩ : TBox)).err = 0) ∧ ((momE ⟨q0, q1, q2⟩ q3 = 2) ∧ ((numsP 5 l.length (hitsC l) ∧ hitsE (listC l.length mkHit (hitsC l)) = 0) ∧ ((false = false) ∧ ((canW (⟨m0, m1, m2, m3, m4, m5, m6, m7, m8, m9, m10, m11⟩ : TMod) (⟨⟨b0, b1, b2⟩, ⟨b3, b4, b5⟩⟩ : TBox) = false) ∧ ((false = false) ∧ (post (.t (.c (.v (.bool (bif true then (bif true then true else false) else false))))))))))))))))
def ann_law05_TrackAnswers_D2H0f : Ann := ⟨fun r => lookA r [(6, ([[], [], [], [2], [2, 3], [0, 1, 2, 3, 4], [0, 1, 2, 3, 4, 5], [0, 1, 2, 3, 4, 5, 6], [0, 1, 2, 3, 4, 5, 6], [], [0, 1, 2, 3, 4, 5, 6, 7, 9], [0, 1, 2, 3, 4, 5, 6, 7, 8, 9, 10]], [[9], [9], [9], [9], [9], [9], [9], [9], [9], [], [], []])), (12, ([[], [0], [0, 1], [], [3], [0, 1, 2, 3, 4], [0, 1, 2, 3, 4, 5], [0, 1, 2, 3, 4, 5, 6]], [[], [], [], [], [], [], [], []])), (21, ([[], [0], [0, 1], [0, 1, 2], [0, 1, 2], [0, 1, 2], [0, 1, 2], [0, 1, 2, 6], [0, 1, 2, 4, 5, 6, 7], [0, 1, 2, 3, 4, 5, 6, 7, 8], [0, 1, 2, 3, 4, 5, 6, 7, 8, 9], [0, 1, 2, 3, 4, 5, 6, 7, 8, 9, 10]], [[], [], [], [], [], [], [], [], [], [], [], []]))], fun _ => none, fun _ => [], noIt⟩
theorem ev_law05_TrackAnswers_D2H0f (J : Inv) (m0 m1 m2 m3 m4 m5 m6 m7 m8 m9 m10 m11 : Int) (b0 b1 b2 b3 b4 b5 : Int) (q0 q1 q2 q3 : Int) (l : List THit) (post : DV → Prop) : evFn Try.prog tab S120 ann_law05_TrackAnswers_D2H0f J Try.f6 [.t (.a [.v (.int .i64 m0), .v (.int .i64 m1), .v (.int .i64 m2), .v (.int .i64 m3), .v (.int .i64 m4), .v (.int .i64 m5), .v (.int .i64 m6), .v (.int .i64 m7), .v (.int .i64 m8), .v (.int .i64 m9), .v (.int .i64 m10), .v (.int .i64 m11)]), .t (.a [.v (.int .i64 b0), .v (.int .i64 b1), .v (.int .i64 b2), .v (.int .i64 b3), .v (.int .i64 b4), .v (.int .i64 b5)]), .t (.a [.v (.int .i64 q0), .v (.int .i64 q1), .v (.int .i64 q2), .v (.int .i64 q3), .sl 5 l.length (hitsC l)])] post = vc_law05_TrackAnswers_D2H0f m0 m1 m2 m3 m4 m5 m6 m7 m8 m9 m10 m11 b0 b1 b2 b3 b4 b5 q0 q1 q2 q3 l post := by kernel_rfl
theorem fit_law05_TrackAnswers_D2H0f : okFn ann_law05_TrackAnswers_D2H0f Try.f6 = true := by kernel_rfl
theorem lp_law05_TrackAnswers_D2H0f (J : Inv) (post : DV → Prop) : AllG J (loopsFn Try.prog tab S120 ann_law05_TrackAnswers_D2H0f J Try.f6 post) = True := by kernel_rfl
theorem spec_law05_TrackAnswers_D2H0f (m0 m1 m2 m3 m4 m5 m6 m7 m8 m9 m10 m11 : Int) (b0 b1 b2 b3 b4 b5 : Int) (q0 q1 q2 q3 : Int) (l : List THit) (hl : (l).length ≤ 14) (hA : ((⟨m0, m1, m2, m3, m4, m5, m6, m7, m8, m9, m10, m11⟩ : TMod)).err = 0) (hB : ((⟨⟨b0, b1, b2⟩, ⟨b3, b4, b5⟩⟩ : TBox)).err = 0) (hD : momE ⟨q0, q1, q2⟩ q3 = 2) (hH : hitsE l = 0) (hC : canW (⟨m0, m1, m2, m3, m4, m5, m6, m7, m8, m9, m10, m11⟩ : TMod) (⟨⟨b0, b1, b2⟩, ⟨b3, b4, b5⟩⟩ : TBox) = false) : vc_law05_TrackAnswers_D2H0f m0 m1 m2 m3 m4 m5 m6 m7 m8 m9 m10 m11 b0 b1 b2 b3 b4 b5 q0 q1 q2 q3 l (fun r => LeD r (.t (.c (.v (.bool true))))) := by
  unfold vc_law05_TrackAnswers_D2H0f
  simp only [hits_listC]
  have hd : decide (l.length ≤ 14) = true := decide_eq_true hl
  have n := numsP_hits l
  have hE : firstNZ [firstNZ [(⟨m0, m1, m2, m3, m4, m5, m6, m7, m8, m9, m10, m11⟩ : TMod).err, (⟨⟨b0, b1, b2⟩, ⟨b3, b4, b5⟩⟩ : TBox).err], momE ⟨q0, q1, q2⟩ q3, unl (canW (⟨m0, m1, m2, m3, m4, m5, m6, m7, m8, m9, m10, m11⟩ : TMod) (⟨⟨b0, b1, b2⟩, ⟨b3, b4, b5⟩⟩ : TBox)) 12] = 2 := by simp [firstNZ, unl, hA, hB, hD, hH, hC]
  have hS : firstNZ [firstNZ [firstNZ [(⟨m0, m1, m2, m3, m4, m5, m6, m7, m8, m9, m10, m11⟩ : TMod).err, (⟨⟨b0, b1, b2⟩, ⟨b3, b4, b5⟩⟩ : TBox).err], hitsE l], unl (canW (⟨m0, m1, m2, m3, m4, m5, m6, m7, m8, m9, m10, m11⟩ : TMod) (⟨⟨b0, b1, b2⟩, ⟨b3, b4, b5⟩⟩ : TBox)) 12] = 12 := by simp [firstNZ, unl, hA, hB, hD, hH, hC]
  have hln : l.length ≤ 1000000 := by omega
  repeat' with_reducible first
    | (refine And.intro rfl ?_)
    | (refine And.intro trivial ?_)
    | (refine And.intro n ?_)
    | (refine And.intro ⟨n, hln⟩ ?_)
    | (refine And.intro (by assumption) ?_)
    | (refine And.intro ⟨n, hd⟩ ?_)
    | (refine And.intro ⟨n, hE⟩ ?_)
    | (refine And.intro ⟨n, hS⟩ ?_)
    | (refine And.intro ⟨n, hH⟩ ?_)
    | (refine And.intro ⟨by assumption, by assumption⟩ ?_)
    | (refine lt_i ?_; intro _ _)
    | (refine cond_i (fun h => ?_) (fun h => ?_))
  all_goals first | exact LeD.refl _ | (exfalso; simp at h; done) | (refine leB ?_; simp; done)
theorem law_law05_TrackAnswers_D2H0f (m0 m1 m2 m3 m4 m5 m6 m7 m8 m9 m10 m11 : Int) (b0 b1 b2 b3 b4 b5 : Int) (q0 q1 q2 q3 : Int) (l : List THit) (hl : (l).length ≤ 14) (hA : ((⟨m0, m1, m2, m3, m4, m5, m6, m7, m8, m9, m10, m11⟩ : TMod)).err = 0) (hB : ((⟨⟨b0, b1, b2⟩, ⟨b3, b4, b5⟩⟩ : TBox)).err = 0) (hD : momE ⟨q0, q1, q2⟩ q3 = 2) (hH : hitsE l = 0) (hC : canW (⟨m0, m1, m2, m3, m4, m5, m6, m7, m8, m9, m10, m11⟩ : TMod) (⟨⟨b0, b1, b2⟩, ⟨b3, b4, b5⟩⟩ : TBox) = false) (W : World) (N : Nat → Prop) (vs : List Value) (h : All2 (RelD (RelF W N)) [.t (.a [.v (.int .i64 m0), .v (.int .i64 m1), .v (.int .i64 m2), .v (.int .i64 m3), .v (.int .i64 m4), .v (.int .i64 m5), .v (.int .i64 m6), .v (.int .i64 m7), .v (.int .i64 m8), .v (.int .i64 m9), .v (.int .i64 m10), .v (.int .i64 m11)]), .t (.a [.v (.int .i64 b0), .v (.int .i64 b1), .v (.int .i64 b2), .v (.int .i64 b3), .v (.int .i64 b4), .v (.int .i64 b5)]), .t (.a [.v (.int .i64 q0), .v (.int .i64 q1), .v (.int .i64 q2), .v (.int .i64 q3), .sl 5 l.length (hitsC l)])] vs) : Calls Try.prog 6 vs.toArray W fun e w' => e = .returned (.bool true) ∧ Below W.heap.size W w' :=
  law_end (fn_sound mixed tabOK VS120 (ann := ann_law05_TrackAnswers_D2H0f) ValidIt.no (fn := Try.f6) (J := fun _ _ _ => False) (by kernel_rfl) fit_law05_TrackAnswers_D2H0f (args := [.t (.a [.v (.int .i64 m0), .v (.int .i64 m1), .v (.int .i64 m2), .v (.int .i64 m3), .v (.int .i64 m4), .v (.int .i64 m5), .v (.int .i64 m6), .v (.int .i64 m7), .v (.int .i64 m8), .v (.int .i64 m9), .v (.int .i64 m10), .v (.int .i64 m11)]), .t (.a [.v (.int .i64 b0), .v (.int .i64 b1), .v (.int .i64 b2), .v (.int .i64 b3), .v (.int .i64 b4), .v (.int .i64 b5)]), .t (.a [.v (.int .i64 q0), .v (.int .i64 q1), .v (.int .i64 q2), .v (.int .i64 q3), .sl 5 l.length (hitsC l)])]) (post := (fun r => LeD r (.t (.c (.v (.bool true)))))) (by rw [ev_law05_TrackAnswers_D2H0f]; exact spec_law05_TrackAnswers_D2H0f m0 m1 m2 m3 m4 m5 m6 m7 m8 m9 m10 m11 b0 b1 b2 b3 b4 b5 q0 q1 q2 q3 l hl hA hB hD hH hC) (by rw [lp_law05_TrackAnswers_D2H0f]; trivial) (Nat.le_of_ble_eq_true (by kernel_rfl)) W N vs h)

def S121 : Sum := addS S29 18 con_ref05_ModelErr_0
theorem VS121 : Valid Try.prog S121 := Valid.add VS29 ok_ref05_ModelErr_0
def S122 : Sum := addS S121 39 con_ref05_BoxErr_0
theorem VS122 : Valid Try.prog S122 := Valid.add VS121 ok_ref05_BoxErr_0
def S123 : Sum := addS S122 20 con_ref05_MomentErr_2
theorem VS123 : Valid Try.prog S123 := Valid.add VS122 ok_ref05_MomentErr_2
def S124 : Sum := addS S123 40 con_ref05_HitsErr_2
theorem VS124 : Valid Try.prog S124 := Valid.add VS123 ok_ref05_HitsErr_2
def S125 : Sum := addS S124 41 con_ref05_CanBe_t
theorem VS125 : Valid Try.prog S125 := Valid.add VS124 ok_ref05_CanBe_t
def S126 : Sum := addS S125 37 con_track_AnswerIn_e2
theorem VS126 : Valid Try.prog S126 := Valid.add VS125 ok_track_AnswerIn_e2
def S127 : Sum := addS S126 38 con_track_ScoresIn_e2
theorem VS127 : Valid Try.prog S127 := Valid.add VS126 ok_track_ScoresIn_e2
def S128 : Sum := addS S127 28 con_law05_few_t
theorem VS128 : Valid Try.prog S128 := Valid.add VS127 ok_law05_few_t
def vc_law05_TrackAnswers_D2H2t (m0 m1 m2 m3 m4 m5 m6 m7 m8 m9 m10 m11 : Int) (b0 b1 b2 b3 b4 b5 : Int) (q0 q1 q2 q3 : Int) (l : List THit) (post : DV → Prop) : Prop := (numsP 5 l.length (hitsC l) ∧ decide (((listC l.length mkHit (hitsC l))).length ≤ 14) = true) ∧ ((firstNZ [firstNZ [((⟨m0, m1, m2, m3, m4, m5, m6, m7, m8, m9, m10, m11⟩ : TMod)).err, ((⟨⟨b0, b1, b2⟩, ⟨b3, b4, b5⟩⟩ : TBox)).err], momE ⟨q0, q1, q2⟩ q3, unl (canW (⟨m0, m1, m2, m3, m4, m5, m6, m7, m8, m9, m10, m11⟩ : TMod) (⟨⟨b0, b1, b2⟩, ⟨b3, b4, b5⟩⟩ : TBox)) 12] = 2) ∧ ((numsP 5 l.length (hitsC l) ∧ ((listC l.length mkHit (hitsC l))).length ≤ 1000000) ∧ ((numsP 5 ((listC l.length mkHit (hitsC l)).length) (hitsC (listC l.length mkHit (hitsC l))) ∧ firstNZ [firstNZ [firstNZ [((⟨m0, m1, m2, m3, m4, m5, m6, m7, m8, m9, m10, m11⟩ : TMod)).err, ((⟨⟨b0, b1, b2⟩, ⟨b3, b4, b5⟩⟩ : TBox)).err], hitsE (listC ((listC l.length mkHit (hitsC l)).length) mkHit (hitsC (listC l.length mkHit (hitsC l))))], unl (canW (⟨m0, m1, m2, m3, m4, m5, m6, m7, m8, m9, m10, m11⟩ : TMod) (⟨⟨b0, b1, b2⟩, ⟨b3, b4, b5⟩⟩ : TBox)) 12] = 2) ∧ ((((⟨m0, m1, m2, m3, m4, m5, m6, m7, m8, m9, m10, m11⟩ : TMod)).err = 0) ∧ ((((⟨⟨b0, b1, b2⟩, ⟨b3, b4, b5⟩⟩ : TBox)).err = 0) ∧ ((momE ⟨q0, q1, q2⟩ q3 = 2) ∧ ((numsP 5 l.length (hitsC l) ∧ hitsE (listC l.length mkHit (hitsC l)) = 2) ∧ ((false = false) ∧ ((false = false) ∧ ((false = false) ∧ (post (.t (.c (.v (.bool (bif true then (bif true then true else false) else false))))))))))))))))
def ann_law05_TrackAnswers_D2H2t : Ann := ⟨fun r => lookA r [(6, ([[], [], [], [2], [2, 3], [0, 1, 2, 3, 4], [0, 1, 2, 3, 4, 5], [0, 1, 2, 3, 4, 5, 6], [0, 1, 2, 3, 4, 5, 6], [], [0, 1, 2, 3, 4, 5, 6, 7, 9], [0, 1, 2, 3, 4, 5, 6, 7, 8, 9, 10]], [[9], [9], [9], [9], [9], [9], [9], [9], [9], [], [], []])), (12, ([[], [0], [0, 1], [], [3], [0, 1, 2, 3, 4], [0, 1, 2, 3, 4, 5], [0, 1, 2, 3, 4, 5, 6]], [[], [], [], [], [], [], [], []])), (21, ([[], [0], [0, 1], [0, 1, 2], [0, 1, 2], [0, 1, 2], [0, 1, 2], [0, 1, 2, 6], [0, 1, 2, 4, 5, 6, 7], [0, 1, 2, 3, 4, 5, 6, 7, 8], [0, 1, 2, 3, 4, 5, 6, 7, 8, 9], [0, 1, 2, 3, 4, 5, 6, 7, 8, 9, 10]], [[], [], [], [], [], [], [], [], [], [], [], []]))], fun _ => none, fun _ => [], noIt⟩
theorem ev_law05_TrackAnswers_D2H2t (J : Inv) (m0 m1 m2 m3 m4 m5 m6 m7 m8 m9 m10 m11 : Int) (b0 b1 b2 b3 b4 b5 : Int) (q0 q1 q2 q3 : Int) (l : List THit) (post : DV → Prop) : evFn Try.prog tab S128 ann_law05_TrackAnswers_D2H2t J Try.f6 [.t (.a [.v (.int .i64 m0), .v (.int .i64 m1), .v (.int .i64 m2), .v (.int .i64 m3), .v (.int .i64 m4), .v (.int .i64 m5), .v (.int .i64 m6), .v (.int .i64 m7), .v (.int .i64 m8), .v (.int .i64 m9), .v (.int .i64 m10), .v (.int .i64 m11)]), .t (.a [.v (.int .i64 b0), .v (.int .i64 b1), .v (.int .i64 b2), .v (.int .i64 b3), .v (.int .i64 b4), .v (.int .i64 b5)]), .t (.a [.v (.int .i64 q0), .v (.int .i64 q1), .v (.int .i64 q2), .v (.int .i64 q3), .sl 5 l.length (hitsC l)])] post = vc_law05_TrackAnswers_D2H2t m0 m1 m2 m3 m4 m5 m6 m7 m8 m9 m10 m11 b0 b1 b2 b3 b4 b5 q0 q1 q2 q3 l post := by kernel_rfl
theorem fit_law05_TrackAnswers_D2H2t : okFn ann_law05_TrackAnswers_D2H2t Try.f6 = true := by kernel_rfl
theorem lp_law05_TrackAnswers_D2H2t (J : Inv) (post : DV → Prop) : AllG J (loopsFn Try.prog tab S128 ann_law05_TrackAnswers_D2H2t J Try.f6 post) = True := by kernel_rfl
theorem spec_law05_TrackAnswers_D2H2t (m0 m1 m2 m3 m4 m5 m6 m7 m8 m9 m10 m11 : Int) (b0 b1 b2 b3 b4 b5 : Int) (q0 q1 q2 q3 : Int) (l : List THit) (hl : (l).length ≤ 14) (hA : ((⟨m0, m1, m2, m3, m4, m5, m6, m7, m8, m9, m10, m11⟩ : TMod)).err = 0) (hB : ((⟨⟨b0, b1, b2⟩, ⟨b3, b4, b5⟩⟩ : TBox)).err = 0) (hD : momE ⟨q0, q1, q2⟩ q3 = 2) (hH : hitsE l = 2) (hC : canW (⟨m0, m1, m2, m3, m4, m5, m6, m7, m8, m9, m10, m11⟩ : TMod) (⟨⟨b0, b1, b2⟩, ⟨b3, b4, b5⟩⟩ : TBox) = true) : vc_law05_TrackAnswers_D2H2t m0 m1 m2 m3 m4 m5 m6 m7 m8 m9 m10 m11 b0 b1 b2 b3 b4 b5 q0 q1 q2 q3 l (fun r => LeD r (.t (.c (.v (.bool true))))) := by
  unfold vc_law05_TrackAnswers_D2H2t
  simp only [hits_listC]
  have hd : decide (l.length ≤ 14) = true := decide_eq_true hl
  have n := numsP_hits l
  have hE : firstNZ [firstNZ [(⟨m0, m1, m2, m3, m4, m5, m6, m7, m8, m9, m10, m11⟩ : TMod).err, (⟨⟨b0, b1, b2⟩, ⟨b3, b4, b5⟩⟩ : TBox).err], momE ⟨q0, q1, q2⟩ q3, unl (canW (⟨m0, m1, m2, m3, m4, m5, m6, m7, m8, m9, m10, m11⟩ : TMod) (⟨⟨b0, b1, b2⟩, ⟨b3, b4, b5⟩⟩ : TBox)) 12] = 2 := by simp [firstNZ, unl, hA, hB, hD, hH, hC]
  have hS : firstNZ [firstNZ [firstNZ [(⟨m0, m1, m2, m3, m4, m5, m6, m7, m8, m9, m10, m11⟩ : TMod).err, (⟨⟨b0, b1, b2⟩, ⟨b3, b4, b5⟩⟩ : TBox).err], hitsE l], unl (canW (⟨m0, m1, m2, m3, m4, m5, m6, m7, m8, m9, m10, m11⟩ : TMod) (⟨⟨b0, b1, b2⟩, ⟨b3, b4, b5⟩⟩ : TBox)) 12] = 2 := by simp [firstNZ, unl, hA, hB, hD, hH, hC]
  have hln : l.length ≤ 1000000 := by omega
  repeat' with_reducible first
    | (refine And.intro rfl ?_)
    | (refine And.intro trivial ?_)
    | (refine And.intro n ?_)
    | (refine And.intro ⟨n, hln⟩ ?_)
    | (refine And.intro (by assumption) ?_)
    | (refine And.intro ⟨n, hd⟩ ?_)
    | (refine And.intro ⟨n, hE⟩ ?_)
    | (refine And.intro ⟨n, hS⟩ ?_)
    | (refine And.intro ⟨n, hH⟩ ?_)
    | (refine And.intro ⟨by assumption, by assumption⟩ ?_)
    | (refine lt_i ?_; intro _ _)
    | (refine cond_i (fun h => ?_) (fun h => ?_))
  all_goals first | exact LeD.refl _ | (exfalso; simp at h; done) | (refine leB ?_; simp; done)
theorem law_law05_TrackAnswers_D2H2t (m0 m1 m2 m3 m4 m5 m6 m7 m8 m9 m10 m11 : Int) (b0 b1 b2 b3 b4 b5 : Int) (q0 q1 q2 q3 : Int) (l : List THit) (hl : (l).length ≤ 14) (hA : ((⟨m0, m1, m2, m3, m4, m5, m6, m7, m8, m9, m10, m11⟩ : TMod)).err = 0) (hB : ((⟨⟨b0, b1, b2⟩, ⟨b3, b4, b5⟩⟩ : TBox)).err = 0) (hD : momE ⟨q0, q1, q2⟩ q3 = 2) (hH : hitsE l = 2) (hC : canW (⟨m0, m1, m2, m3, m4, m5, m6, m7, m8, m9, m10, m11⟩ : TMod) (⟨⟨b0, b1, b2⟩, ⟨b3, b4, b5⟩⟩ : TBox) = true) (W : World) (N : Nat → Prop) (vs : List Value) (h : All2 (RelD (RelF W N)) [.t (.a [.v (.int .i64 m0), .v (.int .i64 m1), .v (.int .i64 m2), .v (.int .i64 m3), .v (.int .i64 m4), .v (.int .i64 m5), .v (.int .i64 m6), .v (.int .i64 m7), .v (.int .i64 m8), .v (.int .i64 m9), .v (.int .i64 m10), .v (.int .i64 m11)]), .t (.a [.v (.int .i64 b0), .v (.int .i64 b1), .v (.int .i64 b2), .v (.int .i64 b3), .v (.int .i64 b4), .v (.int .i64 b5)]), .t (.a [.v (.int .i64 q0), .v (.int .i64 q1), .v (.int .i64 q2), .v (.int .i64 q3), .sl 5 l.length (hitsC l)])] vs) : Calls Try.prog 6 vs.toArray W fun e w' => e = .returned (.bool true) ∧ Below W.heap.size W w' :=
  law_end (fn_sound mixed tabOK VS128 (ann := ann_law05_TrackAnswers_D2H2t) ValidIt.no (fn := Try.f6) (J := fun _ _ _ => False) (by kernel_rfl) fit_law05_TrackAnswers_D2H2t (args := [.t (.a [.v (.int .i64 m0), .v (.int .i64 m1), .v (.int .i64 m2), .v (.int .i64 m3), .v (.int .i64 m4), .v (.int .i64 m5), .v (.int .i64 m6), .v (.int .i64 m7), .v (.int .i64 m8), .v (.int .i64 m9), .v (.int .i64 m10), .v (.int .i64 m11)]), .t (.a [.v (.int .i64 b0), .v (.int .i64 b1), .v (.int .i64 b2), .v (.int .i64 b3), .v (.int .i64 b4), .v (.int .i64 b5)]), .t (.a [.v (.int .i64 q0), .v (.int .i64 q1), .v (.int .i64 q2), .v (.int .i64 q3), .sl 5 l.length (hitsC l)])]) (post := (fun r => LeD r (.t (.c (.v (.bool true)))))) (by rw [ev_law05_TrackAnswers_D2H2t]; exact spec_law05_TrackAnswers_D2H2t m0 m1 m2 m3 m4 m5 m6 m7 m8 m9 m10 m11 b0 b1 b2 b3 b4 b5 q0 q1 q2 q3 l hl hA hB hD hH hC) (by rw [lp_law05_TrackAnswers_D2H2t]; trivial) (Nat.le_of_ble_eq_true (by kernel_rfl)) W N vs h)

def S129 : Sum := addS S29 18 con_ref05_ModelErr_0
theorem VS129 : Valid Try.prog S129 := Valid.add VS29 ok_ref05_ModelErr_0
def S130 : Sum := addS S129 39 con_ref05_BoxErr_0
theorem VS130 : Valid Try.prog S130 := Valid.add VS129 ok_ref05_BoxErr_0
def S131 : Sum := addS S130 20 con_ref05_MomentErr_2
theorem VS131 : Valid Try.prog S131 := Valid.add VS130 ok_ref05_MomentErr_2
def S132 : Sum := addS S131 40 con_ref05_HitsErr_2
theorem VS132 : Valid Try.prog S132 := Valid.add VS131 ok_ref05_HitsErr_2
def S133 : Sum := addS S132 41 con_ref05_CanBe_f
theorem VS133 : Valid Try.prog S133 := Valid.add VS132 ok_ref05_CanBe_f
def S134 : Sum := addS S133 37 con_track_AnswerIn_e2
theorem VS134 : Valid Try.prog S134 := Valid.add VS133 ok_track_AnswerIn_e2
def S135 : Sum := addS S134 38 con_track_ScoresIn_e2
theorem VS135 : Valid Try.prog S135 := Valid.add VS134 ok_track_ScoresIn_e2
def S136 : Sum := addS S135 28 con_law05_few_t
theorem VS136 : Valid Try.prog S136 := Valid.add VS135 ok_law05_few_t
def vc_law05_TrackAnswers_D2H2f (m0 m1 m2 m3 m4 m5 m6 m7 m8 m9 m10 m11 : Int) (b0 b1 b2 b3 b4 b5 : Int) (q0 q1 q2 q3 : Int) (l : List THit) (post : DV → Prop) : Prop := (numsP 5 l.length (hitsC l) ∧ decide (((listC l.length mkHit (hitsC l))).length ≤ 14) = true) ∧ ((firstNZ [firstNZ [((⟨m0, m1, m2, m3, m4, m5, m6, m7, m8, m9, m10, m11⟩ : TMod)).err, ((⟨⟨b0, b1, b2⟩, ⟨b3, b4, b5⟩⟩ : TBox)).err], momE ⟨q0, q1, q2⟩ q3, unl (canW (⟨m0, m1, m2, m3, m4, m5, m6, m7, m8, m9, m10, m11⟩ : TMod) (⟨⟨b0, b1, b2⟩, ⟨b3, b4, b5⟩⟩ : TBox)) 12] = 2) ∧ ((numsP 5 l.length (hitsC l) ∧ ((listC l.length mkHit (hitsC l))).length ≤ 1000000) ∧ ((numsP 5 ((listC l.length mkHit (hitsC l)).length) (hitsC (listC l.length mkHit (hitsC l))) ∧ firstNZ [firstNZ [firstNZ [((⟨m0, m1, m2, m3, m4, m5, m6, m7, m8, m9, m10, m11⟩ : TMod)).err, ((⟨⟨b0, b1, b2⟩, ⟨b3, b4, b5⟩⟩ : TBox)).err], hitsE (listC ((listC l.length mkHit (hitsC l)).length) mkHit (hitsC (listC l.length mkHit (hitsC l))))], unl (canW (⟨m0, m1, m2, m3, m4, m5, m6, m7, m8, m9, m10, m11⟩ : TMod) (⟨⟨b0, b1, b2⟩, ⟨b3, b4, b5⟩⟩ : TBox)) 12] = 2) ∧ ((((⟨m0, m1, m2, m3, m4, m5, m6, m7, m8, m9, m10, m11⟩ : TMod)).err = 0) ∧ ((((⟨⟨b0, b1, b2⟩, ⟨b3, b4, b5⟩⟩ : TBox)).err = 0) ∧ ((momE ⟨q0, q1, q2⟩ q3 = 2) ∧ ((numsP 5 l.length (hitsC l) ∧ hitsE (listC l.length mkHit (hitsC l)) = 2) ∧ ((false = false) ∧ ((false = false) ∧ ((false = false) ∧ (post (.t (.c (.v (.bool (bif true then (bif true then true else false) else false))))))))))))))))
def ann_law05_TrackAnswers_D2H2f : Ann := ⟨fun r => lookA r [(6, ([[], [], [], [2], [2, 3], [0, 1, 2, 3, 4], [0, 1, 2, 3, 4, 5], [0, 1, 2, 3, 4, 5, 6], [0, 1, 2, 3, 4, 5, 6], [], [0, 1, 2, 3, 4, 5, 6, 7, 9], [0, 1, 2, 3, 4, 5, 6, 7, 8, 9, 10]], [[9], [9], [9], [9], [9], [9], [9], [9], [9], [], [], []])), (12, ([[], [0], [0, 1], [], [3], [0, 1, 2, 3, 4], [0, 1, 2, 3, 4, 5], [0, 1, 2, 3, 4, 5, 6]], [[], [], [], [], [], [], [], []])), (21, ([[], [0], [0, 1], [0, 1, 2], [0, 1, 2], [0, 1, 2], [0, 1, 2], [0, 1, 2, 6], [0, 1, 2, 4, 5, 6, 7], [0, 1, 2, 3, 4, 5, 6, 7, 8], [0, 1, 2, 3, 4, 5, 6, 7, 8, 9], [0, 1, 2, 3, 4, 5, 6, 7, 8, 9, 10]], [[], [], [], [], [], [], [], [], [], [], [], []]))], fun _ => none, fun _ => [], noIt⟩
theorem ev_law05_TrackAnswers_D2H2f (J : Inv) (m0 m1 m2 m3 m4 m5 m6 m7 m8 m9 m10 m11 : Int) (b0 b1 b2 b3 b4 b5 : Int) (q0 q1 q2 q3 : Int) (l : List THit) (post : DV → Prop) : evFn Try.prog tab S136 ann_law05_TrackAnswers_D2H2f J Try.f6 [.t (.a [.v (.int .i64 m0), .v (.int .i64 m1), .v (.int .i64 m2), .v (.int .i64 m3), .v (.int .i64 m4), .v (.int .i64 m5), .v (.int .i64 m6), .v (.int .i64 m7), .v (.int .i64 m8), .v (.int .i64 m9), .v (.int .i64 m10), .v (.int .i64 m11)]), .t (.a [.v (.int .i64 b0), .v (.int .i64 b1), .v (.int .i64 b2), .v (.int .i64 b3), .v (.int .i64 b4), .v (.int .i64 b5)]), .t (.a [.v (.int .i64 q0), .v (.int .i64 q1), .v (.int .i64 q2), .v (.int .i64 q3), .sl 5 l.length (hitsC l)])] post = vc_law05_TrackAnswers_D2H2f m0 m1 m2 m3 m4 m5 m6 m7 m8 m9 m10 m11 b0 b1 b2 b3 b4 b5 q0 q1 q2 q3 l post := by kernel_rfl
theorem fit_law05_TrackAnswers_D2H2f : okFn ann_law05_TrackAnswers_D2H2f Try.f6 = true := by kernel_rfl
theorem lp_law05_TrackAnswers_D2H2f (J : Inv) (post : DV → Prop) : AllG J (loopsFn Try.prog tab S136 ann_law05_TrackAnswers_D2H2f J Try.f6 post) = True := by kernel_rfl
theorem spec_law05_TrackAnswers_D2H2f (m0 m1 m2 m3 m4 m5 m6 m7 m8 m9 m10 m11 : Int) (b0 b1 b2 b3 b4 b5 : Int) (q0 q1 q2 q3 : Int) (l : List THit) (hl : (l).length ≤ 14) (hA : ((⟨m0, m1, m2, m3, m4, m5, m6, m7, m8, m9, m10, m11⟩ : TMod)).err = 0) (hB : ((⟨⟨b0, b1, b2⟩, ⟨b3, b4, b5⟩⟩ : TBox)).err = 0) (hD : momE ⟨q0, q1, q2⟩ q3 = 2) (hH : hitsE l = 2) (hC : canW (⟨m0, m1, m2, m3, m4, m5, m6, m7, m8, m9, m10, m11⟩ : TMod) (⟨⟨b0, b1, b2⟩, ⟨b3, b4, b5⟩⟩ : TBox) = false) : vc_law05_TrackAnswers_D2H2f m0 m1 m2 m3 m4 m5 m6 m7 m8 m9 m10 m11 b0 b1 b2 b3 b4 b5 q0 q1 q2 q3 l (fun r => LeD r (.t (.c (.v (.bool true))))) := by
  unfold vc_law05_TrackAnswers_D2H2f
  simp only [hits_listC]
  have hd : decide (l.length ≤ 14) = true := decide_eq_true hl
  have n := numsP_hits l
  have hE : firstNZ [firstNZ [(⟨m0, m1, m2, m3, m4, m5, m6, m7, m8, m9, m10, m11⟩ : TMod).err, (⟨⟨b0, b1, b2⟩, ⟨b3, b4, b5⟩⟩ : TBox).err], momE ⟨q0, q1, q2⟩ q3, unl (canW (⟨m0, m1, m2, m3, m4, m5, m6, m7, m8, m9, m10, m11⟩ : TMod) (⟨⟨b0, b1, b2⟩, ⟨b3, b4, b5⟩⟩ : TBox)) 12] = 2 := by simp [firstNZ, unl, hA, hB, hD, hH, hC]
  have hS : firstNZ [firstNZ [firstNZ [(⟨m0, m1, m2, m3, m4, m5, m6, m7, m8, m9, m10, m11⟩ : TMod).err, (⟨⟨b0, b1, b2⟩, ⟨b3, b4, b5⟩⟩ : TBox).err], hitsE l], unl (canW (⟨m0, m1, m2, m3, m4, m5, m6, m7, m8, m9, m10, m11⟩ : TMod) (⟨⟨b0, b1, b2⟩, ⟨b3, b4, b5⟩⟩ : TBox)) 12] = 2 := by simp [firstNZ, unl, hA, hB, hD, hH, hC]
  have hln : l.length ≤ 1000000 := by omega
  repeat' with_reducible first
    | (refine And.intro rfl ?_)
    | (refine And.intro trivial ?_)
    | (refine And.intro n ?_)
    | (refine And.intro ⟨n, hln⟩ ?_)
    | (refine And.intro (by assumption) ?_)
    | (refine And.intro ⟨n, hd⟩ ?_)
    | (refine And.intro ⟨n, hE⟩ ?_)
    | (refine And.intro ⟨n, hS⟩ ?_)
    | (refine And.intro ⟨n, hH⟩ ?_)
    | (refine And.intro ⟨by assumption, by assumption⟩ ?_)
    | (refine lt_i ?_; intro _ _)
    | (refine cond_i (fun h => ?_) (fun h => ?_))
  all_goals first | exact LeD.refl _ | (exfalso; simp at h; done) | (refine leB ?_; simp; done)
theorem law_law05_TrackAnswers_D2H2f (m0 m1 m2 m3 m4 m5 m6 m7 m8 m9 m10 m11 : Int) (b0 b1 b2 b3 b4 b5 : Int) (q0 q1 q2 q3 : Int) (l : List THit) (hl : (l).length ≤ 14) (hA : ((⟨m0, m1, m2, m3, m4, m5, m6, m7, m8, m9, m10, m11⟩ : TMod)).err = 0) (hB : ((⟨⟨b0, b1, b2⟩, ⟨b3, b4, b5⟩⟩ : TBox)).err = 0) (hD : momE ⟨q0, q1, q2⟩ q3 = 2) (hH : hitsE l = 2) (hC : canW (⟨m0, m1, m2, m3, m4, m5, m6, m7, m8, m9, m10, m11⟩ : TMod) (⟨⟨b0, b1, b2⟩, ⟨b3, b4, b5⟩⟩ : TBox) = false) (W : World) (N : Nat → Prop) (vs : List Value) (h : All2 (RelD (RelF W N)) [.t (.a [.v (.int .i64 m0), .v (.int .i64 m1), .v (.int .i64 m2), .v (.int .i64 m3), .v (.int .i64 m4), .v (.int .i64 m5), .v (.int .i64 m6), .v (.int .i64 m7), .v (.int .i64 m8), .v (.int .i64 m9), .v (.int .i64 m10), .v (.int .i64 m11)]), .t (.a [.v (.int .i64 b0), .v (.int .i64 b1), .v (.int .i64 b2), .v (.int .i64 b3), .v (.int .i64 b4), .v (.int .i64 b5)]), .t (.a [.v (.int .i64 q0), .v (.int .i64 q1), .v (.int .i64 q2), .v (.int .i64 q3), .sl 5 l.length (hitsC l)])] vs) : Calls Try.prog 6 vs.toArray W fun e w' => e = .returned (.bool true) ∧ Below W.heap.size W w' :=
  law_end (fn_sound mixed tabOK VS136 (ann := ann_law05_TrackAnswers_D2H2f) ValidIt.no (fn := Try.f6) (J := fun _ _ _ => False) (by kernel_rfl) fit_law05_TrackAnswers_D2H2f (args := [.t (.a [.v (.int .i64 m0), .v (.int .i64 m1), .v (.int .i64 m2), .v (.int .i64 m3), .v (.int .i64 m4), .v (.int .i64 m5), .v (.int .i64 m6), .v (.int .i64 m7), .v (.int .i64 m8), .v (.int .i64 m9), .v (.int .i64 m10), .v (.int .i64 m11)]), .t (.a [.v (.int .i64 b0), .v (.int .i64 b1), .v (.int .i64 b2), .v (.int .i64 b3), .v (.int .i64 b4), .v (.int .i64 b5)]), .t (.a [.v (.int .i64 q0), .v (.int .i64 q1), .v (.int .i64 q2), .v (.int .i64 q3), .sl 5 l.length (hitsC l)])]) (post := (fun r => LeD r (.t (.c (.v (.bool true)))))) (by rw [ev_law05_TrackAnswers_D2H2f]; exact spec_law05_TrackAnswers_D2H2f m0 m1 m2 m3 m4 m5 m6 m7 m8 m9 m10 m11 b0 b1 b2 b3 b4 b5 q0 q1 q2 q3 l hl hA hB hD hH hC) (by rw [lp_law05_TrackAnswers_D2H2f]; trivial) (Nat.le_of_ble_eq_true (by kernel_rfl)) W N vs h)

def S137 : Sum := addS S29 18 con_ref05_ModelErr_0
theorem VS137 : Valid Try.prog S137 := Valid.add VS29 ok_ref05_ModelErr_0
def S138 : Sum := addS S137 39 con_ref05_BoxErr_0
theorem VS138 : Valid Try.prog S138 := Valid.add VS137 ok_ref05_BoxErr_0
def S139 : Sum := addS S138 20 con_ref05_MomentErr_2
theorem VS139 : Valid Try.prog S139 := Valid.add VS138 ok_ref05_MomentErr_2
def S140 : Sum := addS S139 40 con_ref05_HitsErr_8
theorem VS140 : Valid Try.prog S140 := Valid.add VS139 ok_ref05_HitsErr_8
def S141 : Sum := addS S140 41 con_ref05_CanBe_t
theorem VS141 : Valid Try.prog S141 := Valid.add VS140 ok_ref05_CanBe_t
def S142 : Sum := addS S141 37 con_track_AnswerIn_e2
theorem VS142 : Valid Try.prog S142 := Valid.add VS141 ok_track_AnswerIn_e2
def S143 : Sum := addS S142 38 con_track_ScoresIn_e8
theorem VS143 : Valid Try.prog S143 := Valid.add VS142 ok_track_ScoresIn_e8
def S144 : Sum := addS S143 28 con_law05_few_t
theorem VS144 : Valid Try.prog S144 := Valid.add VS143 ok_law05_few_t
def vc_law05_TrackAnswers_D2H8t (m0 m1 m2 m3 m4 m5 m6 m7 m8 m9 m10 m11 : Int) (b0 b1 b2 b3 b4 b5 : Int) (q0 q1 q2 q3 : Int) (l : List THit) (post : DV → Prop) : Prop := (numsP 5 l.length (hitsC l) ∧ decide (((listC l.length mkHit (hitsC l))).length ≤ 14) = true) ∧ ((firstNZ [firstNZ [((⟨m0, m1, m2, m3, m4, m5, m6, m7, m8, m9, m10, m11⟩ : TMod)).err, ((⟨⟨b0, b1, b2⟩, ⟨b3, b4, b5⟩⟩ : TBox)).err], momE ⟨q0, q1, q2⟩ q3, unl (canW (⟨m0, m1, m2, m3, m4, m5, m6, m7, m8, m9, m10, m11⟩ : TMod) (⟨⟨b0, b1, b2⟩, ⟨b3, b4, b5⟩⟩ : TBox)) 12] = 2) ∧ ((numsP 5 l.length (hitsC l) ∧ ((listC l.length mkHit (hitsC l))).length ≤ 1000000) ∧ ((numsP 5 ((listC l.length mkHit (hitsC l)).length) (hitsC (listC l.length mkHit (hitsC l))) ∧ firstNZ [firstNZ [firstNZ [((⟨m0, m1, m2, m3, m4, m5, m6, m7, m8, m9, m10, m11⟩ : TMod)).err, ((⟨⟨b0, b1, b2⟩, ⟨b3, b4, b5⟩⟩ : TBox)).err], hitsE (listC ((listC l.length mkHit (hitsC l)).length) mkHit (hitsC (listC l.length mkHit (hitsC l))))], unl (canW (⟨m0, m1, m2, m3, m4, m5, m6, m7, m8, m9, m10, m11⟩ : TMod) (⟨⟨b0, b1, b2⟩, ⟨b3, b4, b5⟩⟩ : TBox)) 12] = 8) ∧ ((((⟨m0, m1, m2, m3, m4, m5, m6, m7, m8, m9, m10, m11⟩ : TMod)).err = 0) ∧ ((((⟨⟨b0, b1, b2⟩, ⟨b3, b4, b5⟩⟩ : TBox)).err = 0) ∧ ((momE ⟨q0, q1, q2⟩ q3 = 2) ∧ ((numsP 5 l.length (hitsC l) ∧ hitsE (listC l.length mkHit (hitsC l)) = 8) ∧ ((false = false) ∧ ((false = false) ∧ ((false = false) ∧ (post (.t (.c (.v (.bool (bif true then (bif true then true else false) else false))))))))))))))))
def ann_law05_TrackAnswers_D2H8t : Ann := ⟨fun r => lookA r [(6, ([[], [], [], [2], [2, 3], [0, 1, 2, 3, 4], [0, 1, 2, 3, 4, 5], [0, 1, 2, 3, 4, 5, 6], [0, 1, 2, 3, 4, 5, 6], [], [0, 1, 2, 3, 4, 5, 6, 7, 9], [0, 1, 2, 3, 4, 5, 6, 7, 8, 9, 10]], [[9], [9], [9], [9], [9], [9], [9], [9], [9], [], [], []])), (12, ([[], [0], [0, 1], [], [3], [0, 1, 2, 3, 4], [0, 1, 2, 3, 4, 5], [0, 1, 2, 3, 4, 5, 6]], [[], [], [], [], [], [], [], []])), (21, ([[], [0], [0, 1], [0, 1, 2], [0, 1, 2], [0, 1, 2], [0, 1, 2], [0, 1, 2, 6], [0, 1, 2, 4, 5, 6, 7], [0, 1, 2, 3, 4, 5, 6, 7, 8], [0, 1, 2, 3, 4, 5, 6, 7, 8, 9], [0, 1, 2, 3, 4, 5, 6, 7, 8, 9, 10]], [[], [], [], [], [], [], [], [], [], [], [], []]))], fun _ => none, fun _ => [], noIt⟩
theorem ev_law05_TrackAnswers_D2H8t (J : Inv) (m0 m1 m2 m3 m4 m5 m6 m7 m8 m9 m10 m11 : Int) (b0 b1 b2 b3 b4 b5 : Int) (q0 q1 q2 q3 : Int) (l : List THit) (post : DV → Prop) : evFn Try.prog tab S144 ann_law05_TrackAnswers_D2H8t J Try.f6 [.t (.a [.v (.int .i64 m0), .v (.int .i64 m1), .v (.int .i64 m2), .v (.int .i64 m3), .v (.int .i64 m4), .v (.int .i64 m5), .v (.int .i64 m6), .v (.int .i64 m7), .v (.int .i64 m8), .v (.int .i64 m9), .v (.int .i64 m10), .v (.int .i64 m11)]), .t (.a [.v (.int .i64 b0), .v (.int .i64 b1), .v (.int .i64 b2), .v (.int .i64 b3), .v (.int .i64 b4), .v (.int .i64 b5)]), .t (.a [.v (.int .i64 q0), .v (.int .i64 q1), .v (.int .i64 q2), .v (.int .i64 q3), .sl 5 l.length (hitsC l)])] post = vc_law05_TrackAnswers_D2H8t m0 m1 m2 m3 m4 m5 m6 m7 m8 m9 m10 m11 b0 b1 b2 b3 b4 b5 q0 q1 q2 q3 l post := by kernel_rfl
theorem fit_law05_TrackAnswers_D2H8t : okFn ann_law05_TrackAnswers_D2H8t Try.f6 = true := by kernel_rfl
theorem lp_law05_TrackAnswers_D2H8t (J : Inv) (post : DV → Prop) : AllG J (loopsFn Try.prog tab S144 ann_law05_TrackAnswers_D2H8t J Try.f6 post) = True := by kernel_rfl
theorem spec_law05_TrackAnswers_D2H8t (m0 m1 m2 m3 m4 m5 m6 m7 m8 m9 m10 m11 : Int) (b0 b1 b2 b3 b4 b5 : Int) (q0 q1 q2 q3 : Int) (l : List THit) (hl : (l).length ≤ 14) (hA : ((⟨m0, m1, m2, m3, m4, m5, m6, m7, m8, m9, m10, m11⟩ : TMod)).err = 0) (hB : ((⟨⟨b0, b1, b2⟩, ⟨b3, b4, b5⟩⟩ : TBox)).err = 0) (hD : momE ⟨q0, q1, q2⟩ q3 = 2) (hH : hitsE l = 8) (hC : canW (⟨m0, m1, m2, m3, m4, m5, m6, m7, m8, m9, m10, m11⟩ : TMod) (⟨⟨b0, b1, b2⟩, ⟨b3, b4, b5⟩⟩ : TBox) = true) : vc_law05_TrackAnswers_D2H8t m0 m1 m2 m3 m4 m5 m6 m7 m8 m9 m10 m11 b0 b1 b2 b3 b4 b5 q0 q1 q2 q3 l (fun r => LeD r (.t (.c (.v (.bool true))))) := by
  unfold vc_law05_TrackAnswers_D2H8t
  simp only [hits_listC]
  have hd : decide (l.length ≤ 14) = true := decide_eq_true hl
  have n := numsP_hits l
  have hE : firstNZ [firstNZ [(⟨m0, m1, m2, m3, m4, m5, m6, m7, m8, m9, m10, m11⟩ : TMod).err, (⟨⟨b0, b1, b2⟩, ⟨b3, b4, b5⟩⟩ : TBox).err], momE ⟨q0, q1, q2⟩ q3, unl (canW (⟨m0, m1, m2, m3, m4, m5, m6, m7, m8, m9, m10, m11⟩ : TMod) (⟨⟨b0, b1, b2⟩, ⟨b3, b4, b5⟩⟩ : TBox)) 12] = 2 := by simp [firstNZ, unl, hA, hB, hD, hH, hC]
  have hS : firstNZ [firstNZ [firstNZ [(⟨m0, m1, m2, m3, m4, m5, m6, m7, m8, m9, m10, m11⟩ : TMod).err, (⟨⟨b0, b1, b2⟩, ⟨b3, b4, b5⟩⟩ : TBox).err], hitsE l], unl (canW (⟨m0, m1, m2, m3, m4, m5, m6, m7, m8, m9, m10, m11⟩ : TMod) (⟨⟨b0, b1, b2⟩, ⟨b3, b4, b5⟩⟩ : TBox)) 12] = 8 := by simp [firstNZ, unl, hA, hB, hD, hH, hC]
  have hln : l.length ≤ 1000000 := by omega
  repeat' with_reducible first
    | (refine And.intro rfl ?_)
    | (refine And.intro trivial ?_)
    | (refine And.intro n ?_)
    | (refine And.intro ⟨n, hln⟩ ?_)
    | (refine And.intro (by assumption) ?_)
    | (refine And.intro ⟨n, hd⟩ ?_)
    | (refine And.intro ⟨n, hE⟩ ?_)
    | (refine And.intro ⟨n, hS⟩ ?_)
    | (refine And.intro ⟨n, hH⟩ ?_)
    | (refine And.intro ⟨by assumption, by assumption⟩ ?_)
    | (refine lt_i ?_; intro _ _)
    | (refine cond_i (fun h => ?_) (fun h => ?_))
  all_goals first | exact LeD.refl _ | (exfalso; simp at h; done) | (refine leB ?_; simp; done)
theorem law_law05_TrackAnswers_D2H8t (m0 m1 m2 m3 m4 m5 m6 m7 m8 m9 m10 m11 : Int) (b0 b1 b2 b3 b4 b5 : Int) (q0 q1 q2 q3 : Int) (l : List THit) (hl : (l).length ≤ 14) (hA : ((⟨m0, m1, m2, m3, m4, m5, m6, m7, m8, m9, m10, m11⟩ : TMod)).err = 0) (hB : ((⟨⟨b0, b1, b2⟩, ⟨b3, b4, b5⟩⟩ : TBox)).err = 0) (hD : momE ⟨q0, q1, q2⟩ q3 = 2) (hH : hitsE l = 8) (hC : canW (⟨m0, m1, m2, m3, m4, m5, m6, m7, m8, m9, m10, m11⟩ : TMod) (⟨⟨b0, b1, b2⟩, ⟨b3, b4, b5⟩⟩ : TBox) = true) (W : World) (N : Nat → Prop) (vs : List Value) (h : All2 (RelD (RelF W N)) [.t (.a [.v (.int .i64 m0), .v (.int .i64 m1), .v (.int .i64 m2), .v (.int .i64 m3), .v (.int .i64 m4), .v (.int .i64 m5), .v (.int .i64 m6), .v (.int .i64 m7), .v (.int .i64 m8), .v (.int .i64 m9), .v (.int .i64 m10), .v (.int .i64 m11)]), .t (.a [.v (.int .i64 b0), .v (.int .i64 b1), .v (.int .i64 b2), .v (.int .i64 b3), .v (.int .i64 b4), .v (.int .i64 b5)]), .t (.a [.v (.int .i64 q0), .v (.int .i64 q1), .v (.int .i64 q2), .v (.int .i64 q3), .sl 5 l.length (hitsC l)])] vs) : Calls Try.prog 6 vs.toArray W fun e w' => e = .returned (.bool true) ∧ Below W.heap.size W w' :=
  law_end (fn_sound mixed tabOK VS144 (ann := ann_law05_TrackAnswers_D2H8t) ValidIt.no (fn := Try.f6) (J := fun _ _ _ => False) (by kernel_rfl) fit_law05_TrackAnswers_D2H8t (args := [.t (.a [.v (.int .i64 m0), .v (.int .i64 m1), .v (.int .i64 m2), .v (.int .i64 m3), .v (.int .i64 m4), .v (.int .i64 m5), .v (.int .i64 m6), .v (.int .i64 m7), .v (.int .i64 m8), .v (.int .i64 m9), .v (.int .i64 m10), .v (.int .i64 m11)]), .t (.a [.v (.int .i64 b0), .v (.int .i64 b1), .v (.int .i64 b2), .v (.int .i64 b3), .v (.int .i64 b4), .v (.int .i64 b5)]), .t (.a [.v (.int .i64 q0), .v (.int .i64 q1), .v (.int .i64 q2), .v (.int .i64 q3), .sl 5 l.length (hitsC l)])]) (post := (fun r => LeD r (.t (.c (.v (.bool true)))))) (by rw [ev_law05_TrackAnswers_D2H8t]; exact spec_law05_TrackAnswers_D2H8t m0 m1 m2 m3 m4 m5 m6 m7 m8 m9 m10 m11 b0 b1 b2 b3 b4 b5 q0 q1 q2 q3 l hl hA hB hD hH hC) (by rw [lp_law05_TrackAnswers_D2H8t]; trivial) (Nat.le_of_ble_eq_true (by kernel_rfl)) W N vs h)

def S145 : Sum := addS S29 18 con_ref05_ModelErr_0
theorem VS145 : Valid Try.prog S145 := Valid.add VS29 ok_ref05_ModelErr_0
def S146 : Sum := addS S145 39 con_ref05_BoxErr_0
theorem VS146 : Valid Try.prog S146 := Valid.add VS145 ok_ref05_BoxErr_0
def S147 : Sum := addS S146 20 con_ref05_MomentErr_2
theorem VS147 : Valid Try.prog S147 := Valid.add VS146 ok_ref05_MomentErr_2
def S148 : Sum := addS S147 40 con_ref05_HitsErr_8
theorem VS148 : Valid Try.prog S148 := Valid.add VS147 ok_ref05_HitsErr_8
def S149 : Sum := addS S148 41 con_ref05_CanBe_f
theorem VS149 : Valid Try.prog S149 := Valid.add VS148 ok_ref05_CanBe_f
def S150 : Sum := addS S149 37 con_track_AnswerIn_e2
theorem VS150 : Valid Try.prog S150 := Valid.add VS149 ok_track_AnswerIn_e2
def S151 : Sum := addS S150 38 con_track_ScoresIn_e8
theorem VS151 : Valid Try.prog S151 := Valid.add VS150 ok_track_ScoresIn_e8
def S152 : Sum := addS S151 28 con_law05_few_t
theorem VS152 : Valid Try.prog S152 := Valid.add VS151 ok_law05_few_t
def vc_law05_TrackAnswers_D2H8f (m0 m1 m2 m3 m4 m5 m6 m7 m8 m9 m10 m11 : Int) (b0 b1 b2 b3 b4 b5 : Int) (q0 q1 q2 q3 : Int) (l : List THit) (post : DV → Prop) : Prop := (numsP 5 l.length (hitsC l) ∧ decide (((listC l.length mkHit (hitsC l))).length ≤ 14) = true) ∧ ((firstNZ [firstNZ [((⟨m0, m1, m2, m3, m4, m5, m6, m7, m8, m9, m10, m11⟩ : TMod)).err, ((⟨⟨b0, b1, b2⟩, ⟨b3, b4, b5⟩⟩ : TBox)).err], momE ⟨q0, q1, q2⟩ q3, unl (canW (⟨m0, m1, m2, m3, m4, m5, m6, m7, m8, m9, m10, m11⟩ : TMod) (⟨⟨b0, b1, b2⟩, ⟨b3, b4, b5⟩⟩ : TBox)) 12] = 2) ∧ ((numsP 5 l.length (hitsC l) ∧ ((listC l.length mkHit (hitsC l))).length ≤ 1000000) ∧ ((numsP 5 ((listC l.length mkHit (hitsC l)).length) (hitsC (listC l.length mkHit (hitsC l))) ∧ firstNZ [firstNZ [firstNZ [((⟨m0, m1, m2, m3, m4, m5, m6, m7, m8, m9, m10, m11⟩ : TMod)).err, ((⟨⟨b0, b1, b2⟩, ⟨b3, b4, b5⟩⟩ : TBox)).err], hitsE (listC ((listC l.length mkHit (hitsC l)).length) mkHit (hitsC (listC l.length mkHit (hitsC l))))], unl (canW (⟨m0, m1, m2, m3, m4, m5, m6, m7, m8, m9, m10, m11⟩ : TMod) (⟨⟨b0, b1, b2⟩, ⟨b3, b4, b5⟩⟩ : TBox)) 12] = 8) ∧ ((((⟨m0, m1, m2, m3, m4, m5, m6, m7, m8, m9, m10, m11⟩ : TMod)).err = 0) ∧ ((((⟨⟨b0, b1, b2⟩, ⟨b3, b4, b5⟩⟩ : TBox)).err = 0) ∧ ((momE ⟨q0, q1, q2⟩ q3 = 2) ∧ ((numsP 5 l.length (hitsC l) ∧ hitsE (listC l.length mkHit (hitsC l)) = 8) ∧ ((false = false) ∧ ((false = false) ∧ ((false = false) ∧ (post (.t (.c (.v (.bool (bif true then (bif true then true else false) else false))))))))))))))))
def ann_law05_TrackAnswers_D2H8f : Ann := ⟨fun r => lookA r [(6, ([[], [], [], [2], [2, 3], [0, 1, 2, 3, 4], [0, 1, 2, 3, 4, 5], [0, 1, 2, 3, 4, 5, 6], [0, 1, 2, 3, 4, 5, 6], [], [0, 1, 2, 3, 4, 5, 6, 7, 9], [0, 1, 2, 3, 4, 5, 6, 7, 8, 9, 10]], [[9], [9], [9], [9], [9], [9], [9], [9], [9], [], [], []])), (12, ([[], [0], [0, 1], [], [3], [0, 1, 2, 3, 4], [0, 1, 2, 3, 4, 5], [0, 1, 2, 3, 4, 5, 6]], [[], [], [], [], [], [], [], []])), (21, ([[], [0], [0, 1], [0, 1, 2], [0, 1, 2], [0, 1, 2], [0, 1, 2], [0, 1, 2, 6], [0, 1, 2, 4, 5, 6, 7], [0, 1, 2, 3, 4, 5, 6, 7, 8], [0, 1, 2, 3, 4, 5, 6, 7, 8, 9], [0, 1, 2, 3, 4, 5, 6, 7, 8, 9, 10]], [[], [], [], [], [], [], [], [], [], [], [], []]))], fun _ => none, fun _ => [], noIt⟩
theorem ev_law05_TrackAnswers_D2H8f (J : Inv) (m0 m1 m2 m3 m4 m5 m6 m7 m8 m9 m10 m11 : Int) (b0 b1 b2 b3 b4 b5 : Int) (q0 q1 q2 q3 : Int) (l : List THit) (post : DV → Prop) : evFn Try.prog tab S152 ann_law05_TrackAnswers_D2H8f J Try.f6 [.t (.a [.v (.int .i64 m0), .v (.int .i64 m1), .v (.int .i64 m2), .v (.int .i64 m3), .v (.int .i64 m4), .v (.int .i64 m5), .v (.int .i64 m6), .v (.int .i64 m7), .v (.int .i64 m8), .v (.int .i64 m9), .v (.int .i64 m10), .v (.int .i64 m11)]), .t (.a [.v (.int .i64 b0), .v (.int .i64 b1), .v (.int .i64 b2), .v (.int .i64 b3), .v (.int .i64 b4), .v (.int .i64 b5)]), .t (.a [.v (.int .i64 q0), .v (.int .i64 q1), .v (.int .i64 q2), .v (.int .i64 q3), .sl 5 l.length (hitsC l)])] post = vc_law05_TrackAnswers_D2H8f m0 m1 m2 m3 m4 m5 m6 m7 m8 m9 m10 m11 b0 b1 b2 b3 b4 b5 q0 q1 q2 q3 l post := by kernel_rfl
theorem fit_law05_TrackAnswers_D2H8f : okFn ann_law05_TrackAnswers_D2H8f Try.f6 = true := by kernel_rfl
theorem lp_law05_TrackAnswers_D2H8f (J : Inv) (post : DV → Prop) : AllG J (loopsFn Try.prog tab S152 ann_law05_TrackAnswers_D2H8f J Try.f6 post) = True := by kernel_rfl
theorem spec_law05_TrackAnswers_D2H8f (m0 m1 m2 m3 m4 m5 m6 m7 m8 m9 m10 m11 : Int) (b0 b1 b2 b3 b4 b5 : Int) (q0 q1 q2 q3 : Int) (l : List THit) (hl : (l).length ≤ 14) (hA : ((⟨m0, m1, m2, m3, m4, m5, m6, m7, m8, m9, m10, m11⟩ : TMod)).err = 0) (hB : ((⟨⟨b0, b1, b2⟩, ⟨b3, b4, b5⟩⟩ : TBox)).err = 0) (hD : momE ⟨q0, q1, q2⟩ q3 = 2) (hH : hitsE l = 8) (hC : canW (⟨m0, m1, m2, m3, m4, m5, m6, m7, m8, m9, m10, m11⟩ : TMod) (⟨⟨b0, b1, b2⟩, ⟨b3, b4, b5⟩⟩ : TBox) = false) : vc_law05_TrackAnswers_D2H8f m0 m1 m2 m3 m4 m5 m6 m7 m8 m9 m10 m11 b0 b1 b2 b3 b4 b5 q0 q1 q2 q3 l (fun r => LeD r (.t (.c (.v (.bool true))))) := by
  unfold vc_law05_TrackAnswers_D2H8f
  simp only [hits_listC]
  have hd : decide (l.length ≤ 14) = true := decide_eq_true hl
  have n := numsP_hits l
  have hE : firstNZ [firstNZ [(⟨m0, m1, m2, m3, m4, m5, m6, m7, m8, m9, m10, m11⟩ : TMod).err, (⟨⟨b0, b1, b2⟩, ⟨b3, b4, b5⟩⟩ : TBox).err], momE ⟨q0, q1, q2⟩ q3, unl (canW (⟨m0, m1, m2, m3, m4, m5, m6, m7, m8, m9, m10, m11⟩ : TMod) (⟨⟨b0, b1, b2⟩, ⟨b3, b4, b5⟩⟩ : TBox)) 12] = 2 := by simp [firstNZ, unl, hA, hB, hD, hH, hC]
  have hS : firstNZ [firstNZ [firstNZ [(⟨m0, m1, m2, m3, m4, m5, m6, m7, m8, m9, m10, m11⟩ : TMod).err, (⟨⟨b0, b1, b2⟩, ⟨b3, b4, b5⟩⟩ : TBox).err], hitsE l], unl (canW (⟨m0, m1, m2, m3, m4, m5, m6, m7, m8, m9, m10, m11⟩ : TMod) (⟨⟨b0, b1, b2⟩, ⟨b3, b4, b5⟩⟩ : TBox)) 12] = 8 := by simp [firstNZ, unl, hA, hB, hD, hH, hC]
  have hln : l.length ≤ 1000000 := by omega
  repeat' with_reducible first
    | (refine And.intro rfl ?_)
    | (refine And.intro trivial ?_)
    | (refine And.intro n ?_)
    | (refine And.intro ⟨n, hln⟩ ?_)
    | (refine And.intro (by assumption) ?_)
    | (refine And.intro ⟨n, hd⟩ ?_)
    | (refine And.intro ⟨n, hE⟩ ?_)
    | (refine And.intro ⟨n, hS⟩ ?_)
    | (refine And.intro ⟨n, hH⟩ ?_)
    | (refine And.intro ⟨by assumption, by assumption⟩ ?_)
    | (refine lt_i ?_; intro _ _)
    | (refine cond_i (fun h => ?_) (fun h => ?_))
  all_goals first | exact LeD.refl _ | (exfalso; simp at h; done) | (refine leB ?_; simp; done)
theorem law_law05_TrackAnswers_D2H8f (m0 m1 m2 m3 m4 m5 m6 m7 m8 m9 m10 m11 : Int) (b0 b1 b2 b3 b4 b5 : Int) (q0 q1 q2 q3 : Int) (l : List THit) (hl : (l).length ≤ 14) (hA : ((⟨m0, m1, m2, m3, m4, m5, m6, m7, m8, m9, m10, m11⟩ : TMod)).err = 0) (hB : ((⟨⟨b0, b1, b2⟩, ⟨b3, b4, b5⟩⟩ : TBox)).err = 0) (hD : momE ⟨q0, q1, q2⟩ q3 = 2) (hH : hitsE l = 8) (hC : canW (⟨m0, m1, m2, m3, m4, m5, m6, m7, m8, m9, m10, m11⟩ : TMod) (⟨⟨b0, b1, b2⟩, ⟨b3, b4, b5⟩⟩ : TBox) = false) (W : World) (N : Nat → Prop) (vs : List Value) (h : All2 (RelD (RelF W N)) [.t (.a [.v (.int .i64 m0), .v (.int .i64 m1), .v (.int .i64 m2), .v (.int .i64 m3), .v (.int .i64 m4), .v (.int .i64 m5), .v (.int .i64 m6), .v (.int .i64 m7), .v (.int .i64 m8), .v (.int .i64 m9), .v (.int .i64 m10), .v (.int .i64 m11)]), .t (.a [.v (.int .i64 b0), .v (.int .i64 b1), .v (.int .i64 b2), .v (.int .i64 b3), .v (.int .i64 b4), .v (.int .i64 b5)]), .t (.a [.v (.int .i64 q0), .v (.int .i64 q1), .v (.int .i64 q2), .v (.int .i64 q3), .sl 5 l.length (hitsC l)])] vs) : Calls Try.prog 6 vs.toArray W fun e w' => e = .returned (.bool true) ∧ Below W.heap.size W w' :=
  law_end (fn_sound mixed tabOK VS152 (ann := ann_law05_TrackAnswers_D2H8f) ValidIt.no (fn := Try.f6) (J := fun _ _ _ => False) (by kernel_rfl) fit_law05_TrackAnswers_D2H8f (args := [.t (.a [.v (.int .i64 m0), .v (.int .i64 m1), .v (.int .i64 m2), .v (.int .i64 m3), .v (.int .i64 m4), .v (.int .i64 m5), .v (.int .i64 m6), .v (.int .i64 m7), .v (.int .i64 m8), .v (.int .i64 m9), .v (.int .i64 m10), .v (.int .i64 m11)]), .t (.a [.v (.int .i64 b0), .v (.int .i64 b1), .v (.int .i64 b2), .v (.int .i64 b3), .v (.int .i64 b4), .v (.int .i64 b5)]), .t (.a [.v (.int .i64 q0), .v (.int .i64 q1), .v (.int .i64 q2), .v (.int .i64 q3), .sl 5 l.length (hitsC l)])]) (post := (fun r => LeD r (.t (.c (.v (.bool true)))))) (by rw [ev_law05_TrackAnswers_D2H8f]; exact spec_law05_TrackAnswers_D2H8f m0 m1 m2 m3 m4 m5 m6 m7 m8 m9 m10 m11 b0 b1 b2 b3 b4 b5 q0 q1 q2 q3 l hl hA hB hD hH hC) (by rw [lp_law05_TrackAnswers_D2H8f]; trivial) (Nat.le_of_ble_eq_true (by kernel_rfl)) W N vs h)

end Go.Proofs.Ytlmdmpjfehpjeaa

/- Tracks, by the checker: the law of answers, joined. -/
set_option linter.unusedVariables false
set_option linter.unusedSimpArgs false
namespace Go.Proofs.Ytlmdmpjfehpjeaa
open Go.RowKit Ev

theorem err_vals (m : TMod) : m.err = 0 ∨ m.err = 2 ∨ m.err = 9 ∨ m.err = 13 := by
  unfold TMod.err plE tmE unl
  cases m.pl.inS 1000 <;> cases inB m.tm (-10000) 10000 <;> cases m.right <;> cases decide (m.lo ≤ m.hi) <;> cases decide (m.slow < m.lo) <;> simp [firstNZ]
theorem berr_vals (b : TBox) : b.err = 0 ∨ b.err = 2 ∨ b.err = 9 ∨ b.err = 8 := by
  unfold TBox.err unl
  cases (b.lo.inS 20 && b.hi.inS 20) <;> cases (decide (b.lo.x ≤ b.hi.x) && decide (b.lo.y ≤ b.hi.y) && decide (b.lo.z ≤ b.hi.z)) <;> cases decide (b.count ≤ 700) <;> simp [firstNZ]
theorem mom_vals (p : V3) (t : Int) : momE p t = 0 ∨ momE p t = 2 := by
  unfold momE plE unl
  cases p.inS 1000 <;> cases inB t (-1000000) 1000000 <;> simp [firstNZ]
theorem hit_vals (h : THit) : h.err = 0 ∨ h.err = 2 := by
  unfold THit.err plE tmE unl
  cases h.p.inS 1000 <;> cases inB h.t (-10000) 10000 <;> cases inB h.w 0 100 <;> simp [firstNZ]
theorem scan_vals {f : Nat → Int} {a : Int} (h : ∀ i, f i = 0 ∨ f i = a) : ∀ n, scan f n = 0 ∨ scan f n = a := by
  intro n
  by_cases hz : ∀ j, j < n → f j = 0
  · exact Or.inl (scan_end hz)
  · have hz : ∃ j, j < n ∧ f j ≠ 0 := Classical.byContradiction fun g => hz fun j hj => Classical.byContradiction fun q => g ⟨j, hj, q⟩
    have key : ∀ k, k ≤ n → (∀ j, j < k → f j = 0) ∨ ∃ i, i < n ∧ (∀ j, j < i → f j = 0) ∧ f i ≠ 0 := by
      intro k
      induction k with
      | zero => intro _; exact Or.inl fun j hj => by omega
      | succ k ih =>
        intro hk
        rcases ih (by omega) with g | g
        · by_cases e : f k = 0
          · exact Or.inl fun j hj => by
              by_cases q : j = k
              · rw [q]; exact e
              · exact g j (by omega)
          · exact Or.inr ⟨k, by omega, g, e⟩
        · exact Or.inr g
    obtain ⟨j, hj, hj2⟩ := hz
    rcases key n (Nat.le_refl _) with g | ⟨i, h1, h2, h3⟩
    · exact (hj2 (g j hj)).elim
    · rw [scan_at h2 h1 h3]; exact h i
theorem hits_vals (l : List THit) : hitsE l = 0 ∨ hitsE l = 2 ∨ hitsE l = 8 := by
  unfold hitsE
  split
  · exact Or.inr (Or.inr rfl)
  · rcases scan_vals (f := fun i => (hitAt l i).err) (a := 2) (fun i => hit_vals _) l.length with h | h
    · exact Or.inl h
    · exact Or.inr (Or.inl h)
theorem law_Answers_few (m0 m1 m2 m3 m4 m5 m6 m7 m8 m9 m10 m11 : Int) (b0 b1 b2 b3 b4 b5 : Int) (q0 q1 q2 q3 : Int) (l : List THit) (hl : l.length ≤ 14) (W : World) (N : Nat → Prop) (vs : List Value) (h : All2 (RelD (RelF W N)) [.t (.a [.v (.int .i64 m0), .v (.int .i64 m1), .v (.int .i64 m2), .v (.int .i64 m3), .v (.int .i64 m4), .v (.int .i64 m5), .v (.int .i64 m6), .v (.int .i64 m7), .v (.int .i64 m8), .v (.int .i64 m9), .v (.int .i64 m10), .v (.int .i64 m11)]), .t (.a [.v (.int .i64 b0), .v (.int .i64 b1), .v (.int .i64 b2), .v (.int .i64 b3), .v (.int .i64 b4), .v (.int .i64 b5)]), .t (.a [.v (.int .i64 q0), .v (.int .i64 q1), .v (.int .i64 q2), .v (.int .i64 q3), .sl 5 l.length (hitsC l)])] vs) : Calls Try.prog 6 vs.toArray W fun e w' => e = .returned (.bool true) ∧ Below W.heap.size W w' := by
  rcases err_vals (⟨m0, m1, m2, m3, m4, m5, m6, m7, m8, m9, m10, m11⟩ : TMod) with hA | hA | hA | hA
  · rcases berr_vals (⟨⟨b0, b1, b2⟩, ⟨b3, b4, b5⟩⟩ : TBox) with hB | hB | hB | hB
    · rcases mom_vals ⟨q0, q1, q2⟩ q3 with hD | hD <;> rcases hits_vals l with hH | hH | hH <;> cases hC : canW (⟨m0, m1, m2, m3, m4, m5, m6, m7, m8, m9, m10, m11⟩ : TMod) (⟨⟨b0, b1, b2⟩, ⟨b3, b4, b5⟩⟩ : TBox)
      · exact law_law05_TrackAnswers_D0H0f m0 m1 m2 m3 m4 m5 m6 m7 m8 m9 m10 m11 b0 b1 b2 b3 b4 b5 q0 q1 q2 q3 l hl hA hB hD hH hC W N vs h
      · exact law_law05_TrackAnswers_D0H0t m0 m1 m2 m3 m4 m5 m6 m7 m8 m9 m10 m11 b0 b1 b2 b3 b4 b5 q0 q1 q2 q3 l hl hA hB hD hH hC W N vs h
      · exact law_law05_TrackAnswers_D0H2f m0 m1 m2 m3 m4 m5 m6 m7 m8 m9 m10 m11 b0 b1 b2 b3 b4 b5 q0 q1 q2 q3 l hl hA hB hD hH hC W N vs h
      · exact law_law05_TrackAnswers_D0H2t m0 m1 m2 m3 m4 m5 m6 m7 m8 m9 m10 m11 b0 b1 b2 b3 b4 b5 q0 q1 q2 q3 l hl hA hB hD hH hC W N vs h
      · exact law_law05_TrackAnswers_D0H8f m0 m1 m2 m3 m4 m5 m6 m7 m8 m9 m10 m11 b0 b1 b2 b3 b4 b5 q0 q1 q2 q3 l hl hA hB hD hH hC W N vs h
      · exact law_law05_TrackAnswers_D0H8t m0 m1 m2 m3 m4 m5 m6 m7 m8 m9 m10 m11 b0 b1 b2 b3 b4 b5 q0 q1 q2 q3 l hl hA hB hD hH hC W N vs h
      · exact law_law05_TrackAnswers_D2H0f m0 m1 m2 m3 m4 m5 m6 m7 m8 m9 m10 m11 b0 b1 b2 b3 b4 b5 q0 q1 q2 q3 l hl hA hB hD hH hC W N vs h
      · exact law_law05_TrackAnswers_D2H0t m0 m1 m2 m3 m4 m5 m6 m7 m8 m9 m10 m11 b0 b1 b2 b3 b4 b5 q0 q1 q2 q3 l hl hA hB hD hH hC W N vs h
      · exact law_law05_TrackAnswers_D2H2f m0 m1 m2 m3 m4 m5 m6 m7 m8 m9 m10 m11 b0 b1 b2 b3 b4 b5 q0 q1 q2 q3 l hl hA hB hD hH hC W N vs h
      · exact law_law05_TrackAnswers_D2H2t m0 m1 m2 m3 m4 m5 m6 m7 m8 m9 m10 m11 b0 b1 b2 b3 b4 b5 q0 q1 q2 q3 l hl hA hB hD hH hC W N vs h
      · exact law_law05_TrackAnswers_D2H8f m0 m1 m2 m3 m4 m5 m6 m7 m8 m9 m10 m11 b0 b1 b2 b3 b4 b5 q0 q1 q2 q3 l hl hA hB hD hH hC W N vs h
      · exact law_law05_TrackAnswers_D2H8t m0 m1 m2 m3 m4 m5 m6 m7 m8 m9 m10 m11 b0 b1 b2 b3 b4 b5 q0 q1 q2 q3 l hl hA hB hD hH hC W N vs h
    · exact law_law05_TrackAnswers_B2 m0 m1 m2 m3 m4 m5 m6 m7 m8 m9 m10 m11 b0 b1 b2 b3 b4 b5 q0 q1 q2 q3 l hl hA hB W N vs h
    · exact law_law05_TrackAnswers_B9 m0 m1 m2 m3 m4 m5 m6 m7 m8 m9 m10 m11 b0 b1 b2 b3 b4 b5 q0 q1 q2 q3 l hl hA hB W N vs h
    · exact law_law05_TrackAnswers_B8 m0 m1 m2 m3 m4 m5 m6 m7 m8 m9 m10 m11 b0 b1 b2 b3 b4 b5 q0 q1 q2 q3 l hl hA hB W N vs h
  · exact law_law05_TrackAnswers_A2 m0 m1 m2 m3 m4 m5 m6 m7 m8 m9 m10 m11 b0 b1 b2 b3 b4 b5 q0 q1 q2 q3 l hl hA W N vs h
  · exact law_law05_TrackAnswers_A9 m0 m1 m2 m3 m4 m5 m6 m7 m8 m9 m10 m11 b0 b1 b2 b3 b4 b5 q0 q1 q2 q3 l hl hA W N vs h
  · exact law_law05_TrackAnswers_A13 m0 m1 m2 m3 m4 m5 m6 m7 m8 m9 m10 m11 b0 b1 b2 b3 b4 b5 q0 q1 q2 q3 l hl hA W N vs h
end Go.Proofs.Ytlmdmpjfehpjeaa

/- Tracks, by the checker: the law of answers, for each input. -/
set_option linter.unusedVariables false
set_option linter.unusedSimpArgs false
namespace Go.Proofs.Ytlmdmpjfehpjeaa
open Go.RowKit Ev

theorem hits_rel {l : List THit} {v : Value} {W : World} (h : HitsAt W v l) : RelF W (fun _ => True) (.sl 5 l.length (hitsC l)) v := by
  refine SlAt_sl h (fun _ _ => trivial) fun i j hi hj => ?_
  rcases (by omega : j = 0 ∨ j = 1 ∨ j = 2 ∨ j = 3 ∨ j = 4) with rfl | rfl | rfl | rfl | rfl <;> exact ⟨rfl, rfl⟩
section
variable {H : Type} {enc : TypeId × Value → H} {w : World} {base : Nat} {spare : Nat → Bool} {held : Bool}
set_option maxRecDepth 100000 in
theorem hits_of_trod2 {fuel : Nat} {v : Value} {x : DataW H × List MemPlace} (h : DataW.trod enc Try.prog w base spare held fuel 61 [v] = some x) : ∃ l, HitsAt w v l := by
  obtain ⟨n, css, h1, h2⟩ := slAt_of_trod (sz := 5) Try.underlying61 (by kernel_rfl) (by omega) h
  have each : ∀ i, i < n → ∃ x : THit, ∀ j, j < 5 → (css i).getD j undef = x.cell j := by
    intro i hi
    obtain ⟨hl, m, y, hy⟩ := h2 i hi
    have hc := cells_of_trod 4 92 m _ _ (by kernel_rfl) hy
    have hn : Try.prog.cellsOf 92 = 5 := by kernel_rfl
    rw [hn] at hc
    obtain ⟨n0, e0, _⟩ := hc 0 (by omega)
    obtain ⟨n1, e1, _⟩ := hc 1 (by omega)
    obtain ⟨n2, e2, _⟩ := hc 2 (by omega)
    obtain ⟨n3, e3, _⟩ := hc 3 (by omega)
    obtain ⟨n4, e4, _⟩ := hc 4 (by omega)
    refine ⟨⟨⟨n0, n1, n2⟩, n3, n4⟩, fun j hj => ?_⟩
    rcases (by omega : j = 0 ∨ j = 1 ∨ j = 2 ∨ j = 3 ∨ j = 4) with rfl | rfl | rfl | rfl | rfl
    · simp only [List.getD, e0, Option.getD_some]; rfl
    · simp only [List.getD, e1, Option.getD_some]; rfl
    · simp only [List.getD, e2, Option.getD_some]; rfl
    · simp only [List.getD, e3, Option.getD_some]; rfl
    · simp only [List.getD, e4, Option.getD_some]; rfl
  obtain ⟨l, hl, hr⟩ := list_of THit.zero n each
  refine ⟨l, ?_⟩
  unfold HitsAt
  rw [hl]
  exact h1.congr fun i j hi hj => hr i hi j hj
set_option maxRecDepth 100000 in
theorem question_of_trod {r : Reach} {b0 : Nat} {v : Value} {d : DataW H} {ps : List MemPlace} (hw : Value.okWide Try.prog w r b0 77 v) (h : DataW.Trod enc Try.prog w base spare held 77 v d ps) : ∃ (p : V3) (t : Int) (u : Value) (l : List THit), HitsAt w u l ∧ v = .agg #[.int .i64 p.x, .int .i64 p.y, .int .i64 p.z, .int .i64 t, u] := by
  obtain ⟨cs, rfl, hs⟩ := WideShapes.okWide_struct Try.underlying77 hw
  have hs : cs.size = 5 := hs.trans (by kernel_rfl)
  obtain ⟨fuel, hf⟩ := h
  obtain ⟨xs, m, _, _, hl, hxs, hff⟩ := DataW.trod_struct Try.underlying77 hf
  have f0 := hff 0 _ rfl
  have f1 := hff 1 _ rfl
  have hx2 : xs.length = 2 := hxs
  have hxl : ∃ x y, xs = [x, y] := by
    match xs, hx2 with
    | [x, y], _ => exact ⟨x, y, rfl⟩
  obtain ⟨x0, x1, rfl⟩ := hxl
  have f0 : DataW.trod enc Try.prog w base spare held m 28 _ = some x0 := f0
  have hc := cells_of_trod 4 28 m _ _ (by kernel_rfl) f0
  have hn : Try.prog.cellsOf 28 = 4 := by kernel_rfl
  rw [hn] at hc
  have hlist : ∃ a b c d e, cs = #[a, b, c, d, e] := by
    obtain ⟨l⟩ := cs
    match l, hs with
    | [a, b, c, d, e], _ => exact ⟨a, b, c, d, e, rfl⟩
  obtain ⟨a, b, c, d, e, rfl⟩ := hlist
  obtain ⟨n0, k0, _⟩ := hc 0 (by omega)
  obtain ⟨n1, k1, _⟩ := hc 1 (by omega)
  obtain ⟨n2, k2, _⟩ := hc 2 (by omega)
  obtain ⟨n3, k3, _⟩ := hc 3 (by omega)
  have f1' : DataW.trod enc Try.prog w base spare held m 61 [e] = some x1 := f1
  obtain ⟨l, hl⟩ := hits_of_trod2 f1'
  have k0 : a = .int .i64 n0 := by simpa [Value.cells, hn] using k0
  have k1 : b = .int .i64 n1 := by simpa [Value.cells, hn] using k1
  have k2 : c = .int .i64 n2 := by simpa [Value.cells, hn] using k2
  have k3 : d = .int .i64 n3 := by simpa [Value.cells, hn] using k3
  exact ⟨⟨n0, n1, n2⟩, n3, e, l, hl, by rw [k0, k1, k2, k3]⟩
end
def con_law05_few_f : Con := fun args => match args with
  | [.t (.c (.sl 5 n_l c_l))] => some (.t (.c (.v (.bool false))), some (numsP 5 n_l c_l ∧ decide (((listC n_l mkHit c_l)).length ≤ 14) = false), false)
  | _ => none
theorem ok_law05_few_f : Ok Try.prog 28 con_law05_few_f := by
  refine Ok.over ok_law05_few fun args r pre fresh h hp => ?_
  unfold con_law05_few_f at h
  split at h
  · rename_i n_l c_l
    cases h
    have hq := hp.2
    (try simp only [okP] at hq)
    refine ⟨_, _, rfl, hp.1, ?_⟩
    simp_all
  · cases h
def S153 : Sum := addS S29 28 con_law05_few_f
theorem VS153 : Valid Try.prog S153 := Valid.add VS29 ok_law05_few_f
def vc_law05_TrackAnswers_big (m0 m1 m2 m3 m4 m5 m6 m7 m8 m9 m10 m11 : Int) (b0 b1 b2 b3 b4 b5 : Int) (q0 q1 q2 q3 : Int) (l : List THit) (post : DV → Prop) : Prop := (numsP 5 l.length (hitsC l) ∧ decide (((listC l.length mkHit (hitsC l))).length ≤ 14) = false) ∧ (post (.t (.c (.v (.bool true)))))
def ann_law05_TrackAnswers_big : Ann := ⟨fun r => lookA r [(6, ([[], [], [], [2], [2, 3], [0, 1, 2, 3, 4], [0, 1, 2, 3, 4, 5], [0, 1, 2, 3, 4, 5, 6], [0, 1, 2, 3, 4, 5, 6], [], [0, 1, 2, 3, 4, 5, 6, 7, 9], [0, 1, 2, 3, 4, 5, 6, 7, 8, 9, 10]], [[9], [9], [9], [9], [9], [9], [9], [9], [9], [], [], []])), (12, ([[], [0], [0, 1], [], [3], [0, 1, 2, 3, 4], [0, 1, 2, 3, 4, 5], [0, 1, 2, 3, 4, 5, 6]], [[], [], [], [], [], [], [], []])), (21, ([[], [0], [0, 1], [0, 1, 2], [0, 1, 2], [0, 1, 2], [0, 1, 2], [0, 1, 2, 6], [0, 1, 2, 4, 5, 6, 7], [0, 1, 2, 3, 4, 5, 6, 7, 8], [0, 1, 2, 3, 4, 5, 6, 7, 8, 9], [0, 1, 2, 3, 4, 5, 6, 7, 8, 9, 10]], [[], [], [], [], [], [], [], [], [], [], [], []]))], fun _ => none, fun _ => [], noIt⟩
theorem ev_law05_TrackAnswers_big (J : Inv) (m0 m1 m2 m3 m4 m5 m6 m7 m8 m9 m10 m11 : Int) (b0 b1 b2 b3 b4 b5 : Int) (q0 q1 q2 q3 : Int) (l : List THit) (post : DV → Prop) : evFn Try.prog tab S153 ann_law05_TrackAnswers_big J Try.f6 [.t (.a [.v (.int .i64 m0), .v (.int .i64 m1), .v (.int .i64 m2), .v (.int .i64 m3), .v (.int .i64 m4), .v (.int .i64 m5), .v (.int .i64 m6), .v (.int .i64 m7), .v (.int .i64 m8), .v (.int .i64 m9), .v (.int .i64 m10), .v (.int .i64 m11)]), .t (.a [.v (.int .i64 b0), .v (.int .i64 b1), .v (.int .i64 b2), .v (.int .i64 b3), .v (.int .i64 b4), .v (.int .i64 b5)]), .t (.a [.v (.int .i64 q0), .v (.int .i64 q1), .v (.int .i64 q2), .v (.int .i64 q3), .sl 5 l.length (hitsC l)])] post = vc_law05_TrackAnswers_big m0 m1 m2 m3 m4 m5 m6 m7 m8 m9 m10 m11 b0 b1 b2 b3 b4 b5 q0 q1 q2 q3 l post := by kernel_rfl
theorem fit_law05_TrackAnswers_big : okFn ann_law05_TrackAnswers_big Try.f6 = true := by kernel_rfl
theorem lp_law05_TrackAnswers_big (J : Inv) (post : DV → Prop) : AllG J (loopsFn Try.prog tab S153 ann_law05_TrackAnswers_big J Try.f6 post) = True := by kernel_rfl
theorem spec_law05_TrackAnswers_big (m0 m1 m2 m3 m4 m5 m6 m7 m8 m9 m10 m11 : Int) (b0 b1 b2 b3 b4 b5 : Int) (q0 q1 q2 q3 : Int) (l : List THit) (hl : decide ((l).length ≤ 14) = false) : vc_law05_TrackAnswers_big m0 m1 m2 m3 m4 m5 m6 m7 m8 m9 m10 m11 b0 b1 b2 b3 b4 b5 q0 q1 q2 q3 l (fun r => LeD r (.t (.c (.v (.bool true))))) := by
  unfold vc_law05_TrackAnswers_big
  simp only [hits_listC]
  exact ⟨⟨numsP_hits l, hl⟩, LeD.refl _⟩
theorem law_law05_TrackAnswers_big (m0 m1 m2 m3 m4 m5 m6 m7 m8 m9 m10 m11 : Int) (b0 b1 b2 b3 b4 b5 : Int) (q0 q1 q2 q3 : Int) (l : List THit) (hl : decide ((l).length ≤ 14) = false) (W : World) (N : Nat → Prop) (vs : List Value) (h : All2 (RelD (RelF W N)) [.t (.a [.v (.int .i64 m0), .v (.int .i64 m1), .v (.int .i64 m2), .v (.int .i64 m3), .v (.int .i64 m4), .v (.int .i64 m5), .v (.int .i64 m6), .v (.int .i64 m7), .v (.int .i64 m8), .v (.int .i64 m9), .v (.int .i64 m10), .v (.int .i64 m11)]), .t (.a [.v (.int .i64 b0), .v (.int .i64 b1), .v (.int .i64 b2), .v (.int .i64 b3), .v (.int .i64 b4), .v (.int .i64 b5)]), .t (.a [.v (.int .i64 q0), .v (.int .i64 q1), .v (.int .i64 q2), .v (.int .i64 q3), .sl 5 l.length (hitsC l)])] vs) : Calls Try.prog 6 vs.toArray W fun e w' => e = .returned (.bool true) ∧ Below W.heap.size W w' :=
  law_end (fn_sound mixed tabOK VS153 (ann := ann_law05_TrackAnswers_big) ValidIt.no (fn := Try.f6) (J := fun _ _ _ => False) (by kernel_rfl) fit_law05_TrackAnswers_big (args := [.t (.a [.v (.int .i64 m0), .v (.int .i64 m1), .v (.int .i64 m2), .v (.int .i64 m3), .v (.int .i64 m4), .v (.int .i64 m5), .v (.int .i64 m6), .v (.int .i64 m7), .v (.int .i64 m8), .v (.int .i64 m9), .v (.int .i64 m10), .v (.int .i64 m11)]), .t (.a [.v (.int .i64 b0), .v (.int .i64 b1), .v (.int .i64 b2), .v (.int .i64 b3), .v (.int .i64 b4), .v (.int .i64 b5)]), .t (.a [.v (.int .i64 q0), .v (.int .i64 q1), .v (.int .i64 q2), .v (.int .i64 q3), .sl 5 l.length (hitsC l)])]) (post := (fun r => LeD r (.t (.c (.v (.bool true)))))) (by rw [ev_law05_TrackAnswers_big]; exact spec_law05_TrackAnswers_big m0 m1 m2 m3 m4 m5 m6 m7 m8 m9 m10 m11 b0 b1 b2 b3 b4 b5 q0 q1 q2 q3 l hl) (by rw [lp_law05_TrackAnswers_big]; trivial) (Nat.le_of_ble_eq_true (by kernel_rfl)) W N vs h)

theorem law_TrackAnswers (m : TMod) (b : TBox) (p : V3) (t : Int) (l : List THit) (v : Value) (W : World) (h : HitsAt W v l) :
    Calls Try.prog 6 #[m.v, b.v, .agg #[.int .i64 p.x, .int .i64 p.y, .int .i64 p.z, .int .i64 t, v]] W fun e w' => e = .returned (.bool true) ∧ Below W.heap.size W w' := by
  obtain ⟨m0, m1, m2, m3, m4, m5, m6, m7, m8, m9, m10, m11⟩ := m
  obtain ⟨⟨b0, b1, b2⟩, ⟨b3, b4, b5⟩⟩ := b
  obtain ⟨q0, q1, q2⟩ := p
  have hv : RelF W (fun _ => True) (.sl 5 l.length (hitsC l)) v := hits_rel h
  have ha : All2 (RelD (RelF W (fun _ => True))) [.t (.a [.v (.int .i64 m0), .v (.int .i64 m1), .v (.int .i64 m2), .v (.int .i64 m3), .v (.int .i64 m4), .v (.int .i64 m5), .v (.int .i64 m6), .v (.int .i64 m7), .v (.int .i64 m8), .v (.int .i64 m9), .v (.int .i64 m10), .v (.int .i64 m11)]), .t (.a [.v (.int .i64 b0), .v (.int .i64 b1), .v (.int .i64 b2), .v (.int .i64 b3), .v (.int .i64 b4), .v (.int .i64 b5)]), .t (.a [.v (.int .i64 q0), .v (.int .i64 q1), .v (.int .i64 q2), .v (.int .i64 t), .sl 5 l.length (hitsC l)])] [TMod.v ⟨m0, m1, m2, m3, m4, m5, m6, m7, m8, m9, m10, m11⟩, TBox.v ⟨⟨b0, b1, b2⟩, ⟨b3, b4, b5⟩⟩, .agg #[.int .i64 q0, .int .i64 q1, .int .i64 q2, .int .i64 t, v]] := by
    refine ⟨dvV_rel rfl, dvV_rel rfl, ⟨[.int .i64 q0, .int .i64 q1, .int .i64 q2, .int .i64 t, v], rfl, ⟨rfl, rfl⟩, ⟨rfl, rfl⟩, ⟨rfl, rfl⟩, ⟨rfl, rfl⟩, hv, trivial⟩, trivial⟩
  by_cases hl : l.length ≤ 14
  · exact law_Answers_few m0 m1 m2 m3 m4 m5 m6 m7 m8 m9 m10 m11 b0 b1 b2 b3 b4 b5 q0 q1 q2 t l hl W _ _ ha
  · exact law_law05_TrackAnswers_big m0 m1 m2 m3 m4 m5 m6 m7 m8 m9 m10 m11 b0 b1 b2 b3 b4 b5 q0 q1 q2 t l (decide_eq_false hl) W _ _ ha
end Go.Proofs.Ytlmdmpjfehpjeaa
