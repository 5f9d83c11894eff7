/- Texts of this claim, together. -/
import Derived.Test.YtlmdmpjfehpjeaaN12

/- Tracks, by the checker: the law of answers, cases. -/
set_option linter.unusedVariables false
set_option linter.unusedSimpArgs false
namespace Go.Proofs.Ytlmdmpjfehpjeaa
open Go.RowKit Ev

def con_ref05_BoxErr_0 : Con := fun args => match args with
  | [.t (.a [.v (.int .i64 b0), .v (.int .i64 b1), .v (.int .i64 b2), .v (.int .i64 b3), .v (.int .i64 b4), .v (.int .i64 b5)])] => some (.t (.c (.v (.int .i64 0))), some (((⟨⟨b0, b1, b2⟩, ⟨b3, b4, b5⟩⟩ : TBox)).err = 0), false)
  | _ => none
theorem ok_ref05_BoxErr_0 : Ok Try.prog 39 con_ref05_BoxErr_0 := by
  refine Ok.over ok_ref05_BoxErr fun args r pre fresh h hp => ?_
  unfold con_ref05_BoxErr_0 at h
  split at h
  · rename_i b0 b1 b2 b3 b4 b5
    cases h
    have hq := hp
    (try simp only [okP] at hq)
    refine ⟨_, _, rfl, trivial, ?_⟩
    simp_all
  · cases h
def con_ref05_MomentErr_0 : Con := fun args => match args with
  | [.t (.a [.v (.int .i64 p0), .v (.int .i64 p1), .v (.int .i64 p2), .v (.int .i64 p3)])] => some (.t (.c (.v (.int .i64 0))), some (momE ⟨p0, p1, p2⟩ p3 = 0), false)
  | _ => none
theorem ok_ref05_MomentErr_0 : Ok Try.prog 20 con_ref05_MomentErr_0 := by
  refine Ok.over ok_ref05_MomentErr fun args r pre fresh h hp => ?_
  unfold con_ref05_MomentErr_0 at h
  split at h
  · rename_i p0 p1 p2 p3
    cases h
    have hq := hp
    (try simp only [okP] at hq)
    refine ⟨_, _, rfl, trivial, ?_⟩
    simp_all
  · cases h
def con_ref05_HitsErr_0 : Con := fun args => match args with
  | [.t (.c (.sl 5 n_l c_l))] => some (.t (.c (.v (.int .i64 0))), some (numsP 5 n_l c_l ∧ hitsE (listC n_l mkHit c_l) = 0), false)
  | _ => none
theorem ok_ref05_HitsErr_0 : Ok Try.prog 40 con_ref05_HitsErr_0 := by
  refine Ok.over ok_ref05_HitsErr fun args r pre fresh h hp => ?_
  unfold con_ref05_HitsErr_0 at h
  split at h
  · rename_i n_l c_l
    cases h
    have hq := hp.2
    (try simp only [okP] at hq)
    refine ⟨_, _, rfl, hp.1, ?_⟩
    simp_all
  · cases h
def con_ref05_CanBe_t : Con := fun args => match args with
  | [.t (.a [.v (.int .i64 m0), .v (.int .i64 m1), .v (.int .i64 m2), .v (.int .i64 m3), .v (.int .i64 m4), .v (.int .i64 m5), .v (.int .i64 m6), .v (.int .i64 m7), .v (.int .i64 m8), .v (.int .i64 m9), .v (.int .i64 m10), .v (.int .i64 m11)]), .t (.a [.v (.int .i64 b0), .v (.int .i64 b1), .v (.int .i64 b2), .v (.int .i64 b3), .v (.int .i64 b4), .v (.int .i64 b5)])] => some (.t (.c (.v (.bool true))), some (canW (⟨m0, m1, m2, m3, m4, m5, m6, m7, m8, m9, m10, m11⟩ : TMod) (⟨⟨b0, b1, b2⟩, ⟨b3, b4, b5⟩⟩ : TBox) = true), false)
  | _ => none
theorem ok_ref05_CanBe_t : Ok Try.prog 41 con_ref05_CanBe_t := by
  refine Ok.over ok_ref05_CanBe fun args r pre fresh h hp => ?_
  unfold con_ref05_CanBe_t at h
  split at h
  · rename_i m0 m1 m2 m3 m4 m5 m6 m7 m8 m9 m10 m11 b0 b1 b2 b3 b4 b5
    cases h
    have hq := hp
    (try simp only [okP] at hq)
    refine ⟨_, _, rfl, trivial, ?_⟩
    simp_all
  · cases h
def con_track_AnswerIn_ok : Con := fun args => match args with
  | [.t (.a [.v (.int .i64 m0), .v (.int .i64 m1), .v (.int .i64 m2), .v (.int .i64 m3), .v (.int .i64 m4), .v (.int .i64 m5), .v (.int .i64 m6), .v (.int .i64 m7), .v (.int .i64 m8), .v (.int .i64 m9), .v (.int .i64 m10), .v (.int .i64 m11)]), .t (.a [.v (.int .i64 b0), .v (.int .i64 b1), .v (.int .i64 b2), .v (.int .i64 b3), .v (.int .i64 b4), .v (.int .i64 b5)]), .t (.a [.v (.int .i64 p0), .v (.int .i64 p1), .v (.int .i64 p2), .v (.int .i64 p3)])] => some (.tu [.c (.v (.int .i64 (((⟨m0, m1, m2, m3, m4, m5, m6, m7, m8, m9, m10, m11⟩ : TMod)).ans (⟨⟨b0, b1, b2⟩, ⟨b3, b4, b5⟩⟩ : TBox) ⟨p0, p1, p2⟩ p3))), .c (.v (.int .i64 0))], some (firstNZ [firstNZ [((⟨m0, m1, m2, m3, m4, m5, m6, m7, m8, m9, m10, m11⟩ : TMod)).err, ((⟨⟨b0, b1, b2⟩, ⟨b3, b4, b5⟩⟩ : TBox)).err], momE ⟨p0, p1, p2⟩ p3, unl (canW (⟨m0, m1, m2, m3, m4, m5, m6, m7, m8, m9, m10, m11⟩ : TMod) (⟨⟨b0, b1, b2⟩, ⟨b3, b4, b5⟩⟩ : TBox)) 12] = 0), false)
  | _ => none
theorem ok_track_AnswerIn_ok : Ok Try.prog 37 con_track_AnswerIn_ok := by
  refine Ok.over ok_track_AnswerIn fun args r pre fresh h hp => ?_
  unfold con_track_AnswerIn_ok at h
  split at h
  · rename_i m0 m1 m2 m3 m4 m5 m6 m7 m8 m9 m10 m11 b0 b1 b2 b3 b4 b5 p0 p1 p2 p3
    cases h
    have hq := hp
    (try simp only [okP] at hq)
    refine ⟨_, _, rfl, trivial, ?_⟩
    simp_all
  · cases h
def con_track_ScoresIn_ok : Con := fun args => match args with
  | [.t (.a [.v (.int .i64 m0), .v (.int .i64 m1), .v (.int .i64 m2), .v (.int .i64 m3), .v (.int .i64 m4), .v (.int .i64 m5), .v (.int .i64 m6), .v (.int .i64 m7), .v (.int .i64 m8), .v (.int .i64 m9), .v (.int .i64 m10), .v (.int .i64 m11)]), .t (.a [.v (.int .i64 b0), .v (.int .i64 b1), .v (.int .i64 b2), .v (.int .i64 b3), .v (.int .i64 b4), .v (.int .i64 b5)]), .t (.c (.sl 5 n_l c_l))] => some (.tu [.a [.v (.int .i64 ((((⟨m0, m1, m2, m3, m4, m5, m6, m7, m8, m9, m10, m11⟩ : TMod)).scores (⟨⟨b0, b1, b2⟩, ⟨b3, b4, b5⟩⟩ : TBox) (listC n_l mkHit c_l)).lo)), .v (.int .i64 ((((⟨m0, m1, m2, m3, m4, m5, m6, m7, m8, m9, m10, m11⟩ : TMod)).scores (⟨⟨b0, b1, b2⟩, ⟨b3, b4, b5⟩⟩ : TBox) (listC n_l mkHit c_l)).hi))], .c (.v (.int .i64 0))], some (numsP 5 n_l c_l ∧ firstNZ [firstNZ [firstNZ [((⟨m0, m1, m2, m3, m4, m5, m6, m7, m8, m9, m10, m11⟩ : TMod)).err, ((⟨⟨b0, b1, b2⟩, ⟨b3, b4, b5⟩⟩ : TBox)).err], hitsE (listC n_l mkHit c_l)], unl (canW (⟨m0, m1, m2, m3, m4, m5, m6, m7, m8, m9, m10, m11⟩ : TMod) (⟨⟨b0, b1, b2⟩, ⟨b3, b4, b5⟩⟩ : TBox)) 12] = 0), false)
  | _ => none
theorem ok_track_ScoresIn_ok : Ok Try.prog 38 con_track_ScoresIn_ok := by
  refine Ok.over ok_track_ScoresIn fun args r pre fresh h hp => ?_
  unfold con_track_ScoresIn_ok at h
  split at h
  · rename_i m0 m1 m2 m3 m4 m5 m6 m7 m8 m9 m10 m11 b0 b1 b2 b3 b4 b5 n_l c_l
    cases h
    have hq := hp.2
    (try simp only [okP] at hq)
    refine ⟨_, _, rfl, hp.1, ?_⟩
    simp_all
  · cases h
def S57 : Sum := addS S29 18 con_ref05_ModelErr_0
theorem VS57 : Valid Try.prog S57 := Valid.add VS29 ok_ref05_ModelErr_0
def S58 : Sum := addS S57 39 con_ref05_BoxErr_0
theorem VS58 : Valid Try.prog S58 := Valid.add VS57 ok_ref05_BoxErr_0
def S59 : Sum := addS S58 20 con_ref05_MomentErr_0
theorem VS59 : Valid Try.prog S59 := Valid.add VS58 ok_ref05_MomentErr_0
def S60 : Sum := addS S59 40 con_ref05_HitsErr_0
theorem VS60 : Valid Try.prog S60 := Valid.add VS59 ok_ref05_HitsErr_0
def S61 : Sum := addS S60 41 con_ref05_CanBe_t
theorem VS61 : Valid Try.prog S61 := Valid.add VS60 ok_ref05_CanBe_t
def S62 : Sum := addS S61 37 con_track_AnswerIn_ok
theorem VS62 : Valid Try.prog S62 := Valid.add VS61 ok_track_AnswerIn_ok
def S63 : Sum := addS S62 38 con_track_ScoresIn_ok
theorem VS63 : Valid Try.prog S63 := Valid.add VS62 ok_track_ScoresIn_ok
def S64 : Sum := addS S63 28 con_law05_few_t
theorem VS64 : Valid Try.prog S64 := Valid.add VS63 ok_law05_few_t
def vc_law05_TrackAnswers_D0H0t (m0 m1 m2 m3 m4 m5 m6 m7 m8 m9 m10 m11 : Int) (b0 b1 b2 b3 b4 b5 : Int) (q0 q1 q2 q3 : Int) (l : List THit) (post : DV → Prop) : Prop := (numsP 5 l.length (hitsC l) ∧ decide (((listC l.length mkHit (hitsC l))).length ≤ 14) = true) ∧ ((firstNZ [firstNZ [((⟨m0, m1, m2, m3, m4, m5, m6, m7, m8, m9, m10, m11⟩ : TMod)).err, ((⟨⟨b0, b1, b2⟩, ⟨b3, b4, b5⟩⟩ : TBox)).err], momE ⟨q0, q1, q2⟩ q3, unl (canW (⟨m0, m1, m2, m3, m4, m5, m6, m7, m8, m9, m10, m11⟩ : TMod) (⟨⟨b0, b1, b2⟩, ⟨b3, b4, b5⟩⟩ : TBox)) 12] = 0) ∧ ((numsP 5 l.length (hitsC l) ∧ ((listC l.length mkHit (hitsC l))).length ≤ 1000000) ∧ ((numsP 5 ((listC l.length mkHit (hitsC l)).length) (hitsC (listC l.length mkHit (hitsC l))) ∧ firstNZ [firstNZ [firstNZ [((⟨m0, m1, m2, m3, m4, m5, m6, m7, m8, m9, m10, m11⟩ : TMod)).err, ((⟨⟨b0, b1, b2⟩, ⟨b3, b4, b5⟩⟩ : TBox)).err], hitsE (listC ((listC l.length mkHit (hitsC l)).length) mkHit (hitsC (listC l.length mkHit (hitsC l))))], unl (canW (⟨m0, m1, m2, m3, m4, m5, m6, m7, m8, m9, m10, m11⟩ : TMod) (⟨⟨b0, b1, b2⟩, ⟨b3, b4, b5⟩⟩ : TBox)) 12] = 0) ∧ ((((⟨m0, m1, m2, m3, m4, m5, m6, m7, m8, m9, m10, m11⟩ : TMod)).err = 0) ∧ ((((⟨⟨b0, b1, b2⟩, ⟨b3, b4, b5⟩⟩ : TBox)).err = 0) ∧ ((momE ⟨q0, q1, q2⟩ q3 = 0) ∧ ((numsP 5 l.length (hitsC l) ∧ hitsE (listC l.length mkHit (hitsC l)) = 0) ∧ ((canW (⟨m0, m1, m2, m3, m4, m5, m6, m7, m8, m9, m10, m11⟩ : TMod) (⟨⟨b0, b1, b2⟩, ⟨b3, b4, b5⟩⟩ : TBox) = true) ∧ ((canW (⟨m0, m1, m2, m3, m4, m5, m6, m7, m8, m9, m10, m11⟩ : TMod) (⟨⟨b0, b1, b2⟩, ⟨b3, b4, b5⟩⟩ : TBox) = true) ∧ ((false = false) ∧ ((((⟨m0, m1, m2, m3, m4, m5, m6, m7, m8, m9, m10, m11⟩ : TMod)).Ok ∧ ((⟨⟨b0, b1, b2⟩, ⟨b3, b4, b5⟩⟩ : TBox)).lo.inS 20 = true ∧ ((⟨⟨b0, b1, b2⟩, ⟨b3, b4, b5⟩⟩ : TBox)).hi.inS 20 = true ∧ ((⟨m0, m1, m2, m3, m4, m5, m6, m7, m8, m9, m10, m11⟩ : TMod)).canBe (⟨⟨b0, b1, b2⟩, ⟨b3, b4, b5⟩⟩ : TBox) ∧ ((⟨q0, q1, q2⟩ : V3)).inS 1000 = true ∧ -1000101 ≤ q3 ∧ q3 ≤ 1000100) ∧ (cond ((((⟨m0, m1, m2, m3, m4, m5, m6, m7, m8, m9, m10, m11⟩ : TMod)).ans (⟨⟨b0, b1, b2⟩, ⟨b3, b4, b5⟩⟩ : TBox) ⟨q0, q1, q2⟩ q3) != (((⟨m0, m1, m2, m3, m4, m5, m6, m7, m8, m9, m10, m11⟩ : TMod)).ans (⟨⟨b0, b1, b2⟩, ⟨b3, b4, b5⟩⟩ : TBox) (⟨q0, q1, q2⟩ : V3) q3)) (post (.t (.c (.v (.bool false))))) ((numsP 5 l.length (hitsC l) ∧ ((⟨m0, m1, m2, m3, m4, m5, m6, m7, m8, m9, m10, m11⟩ : TMod)).Ok ∧ ((⟨⟨b0, b1, b2⟩, ⟨b3, b4, b5⟩⟩ : TBox)).lo.inS 20 = true ∧ ((⟨⟨b0, b1, b2⟩, ⟨b3, b4, b5⟩⟩ : TBox)).hi.inS 20 = true ∧ ((⟨m0, m1, m2, m3, m4, m5, m6, m7, m8, m9, m10, m11⟩ : TMod)).canBe (⟨⟨b0, b1, b2⟩, ⟨b3, b4, b5⟩⟩ : TBox) ∧ ((listC l.length mkHit (hitsC l))).length ≤ 12 ∧ ∀ i, i < ((listC l.length mkHit (hitsC l))).length → (hitAt (listC l.length mkHit (hitsC l)) i).Ok) ∧ (post (.t (.c (.v (.bool (bif (((((⟨m0, m1, m2, m3, m4, m5, m6, m7, m8, m9, m10, m11⟩ : TMod)).scores (⟨⟨b0, b1, b2⟩, ⟨b3, b4, b5⟩⟩ : TBox) (listC ((listC l.length mkHit (hitsC l)).length) mkHit (hitsC (listC l.length mkHit (hitsC l))))).lo) == ((((⟨m0, m1, m2, m3, m4, m5, m6, m7, m8, m9, m10, m11⟩ : TMod)).scores (⟨⟨b0, b1, b2⟩, ⟨b3, b4, b5⟩⟩ : TBox) (listC l.length mkHit (hitsC l))).lo)) then (bif (((((⟨m0, m1, m2, m3, m4, m5, m6, m7, m8, m9, m10, m11⟩ : TMod)).scores (⟨⟨b0, b1, b2⟩, ⟨b3, b4, b5⟩⟩ : TBox) (listC ((listC l.length mkHit (hitsC l)).length) mkHit (hitsC (listC l.length mkHit (hitsC l))))).hi) == ((((⟨m0, m1, m2, m3, m4, m5, m6, m7, m8, m9, m10, m11⟩ : TMod)).scores (⟨⟨b0, b1, b2⟩, ⟨b3, b4, b5⟩⟩ : TBox) (listC l.length mkHit (hitsC l))).hi)) then true else false) else false)))))))))))))))))))
def ann_law05_TrackAnswers_D0H0t : Ann := ⟨fun r => lookA r [(6, ([[], [], [], [2], [2, 3], [0, 1, 2, 3, 4], [0, 1, 2, 3, 4, 5], [0, 1, 2, 3, 4, 5, 6], [0, 1, 2, 3, 4, 5, 6], [], [0, 1, 2, 3, 4, 5, 6, 7, 9], [0, 1, 2, 3, 4, 5, 6, 7, 8, 9, 10]], [[9], [9], [9], [9], [9], [9], [9], [9], [9], [], [], []])), (12, ([[], [0], [0, 1], [], [3], [0, 1, 2, 3, 4], [0, 1, 2, 3, 4, 5], [0, 1, 2, 3, 4, 5, 6]], [[], [], [], [], [], [], [], []])), (21, ([[], [0], [0, 1], [0, 1, 2], [0, 1, 2], [0, 1, 2], [0, 1, 2], [0, 1, 2, 6], [0, 1, 2, 4, 5, 6, 7], [0, 1, 2, 3, 4, 5, 6, 7, 8], [0, 1, 2, 3, 4, 5, 6, 7, 8, 9], [0, 1, 2, 3, 4, 5, 6, 7, 8, 9, 10]], [[], [], [], [], [], [], [], [], [], [], [], []]))], fun _ => none, fun _ => [], noIt⟩
theorem ev_law05_TrackAnswers_D0H0t (J : Inv) (m0 m1 m2 m3 m4 m5 m6 m7 m8 m9 m10 m11 : Int) (b0 b1 b2 b3 b4 b5 : Int) (q0 q1 q2 q3 : Int) (l : List THit) (post : DV → Prop) : evFn Try.prog tab S64 ann_law05_TrackAnswers_D0H0t J Try.f6 [.t (.a [.v (.int .i64 m0), .v (.int .i64 m1), .v (.int .i64 m2), .v (.int .i64 m3), .v (.int .i64 m4), .v (.int .i64 m5), .v (.int .i64 m6), .v (.int .i64 m7), .v (.int .i64 m8), .v (.int .i64 m9), .v (.int .i64 m10), .v (.int .i64 m11)]), .t (.a [.v (.int .i64 b0), .v (.int .i64 b1), .v (.int .i64 b2), .v (.int .i64 b3), .v (.int .i64 b4), .v (.int .i64 b5)]), .t (.a [.v (.int .i64 q0), .v (.int .i64 q1), .v (.int .i64 q2), .v (.int .i64 q3), .sl 5 l.length (hitsC l)])] post = vc_law05_TrackAnswers_D0H0t m0 m1 m2 m3 m4 m5 m6 m7 m8 m9 m10 m11 b0 b1 b2 b3 b4 b5 q0 q1 q2 q3 l post := by kernel_rfl
theorem fit_law05_TrackAnswers_D0H0t : okFn ann_law05_TrackAnswers_D0H0t Try.f6 = true := by kernel_rfl
theorem lp_law05_TrackAnswers_D0H0t (J : Inv) (post : DV → Prop) : AllG J (loopsFn Try.prog tab S64 ann_law05_TrackAnswers_D0H0t J Try.f6 post) = True := by kernel_rfl
theorem spec_law05_TrackAnswers_D0H0t (m0 m1 m2 m3 m4 m5 m6 m7 m8 m9 m10 m11 : Int) (b0 b1 b2 b3 b4 b5 : Int) (q0 q1 q2 q3 : Int) (l : List THit) (hl : (l).length ≤ 14) (hA : ((⟨m0, m1, m2, m3, m4, m5, m6, m7, m8, m9, m10, m11⟩ : TMod)).err = 0) (hB : ((⟨⟨b0, b1, b2⟩, ⟨b3, b4, b5⟩⟩ : TBox)).err = 0) (hD : momE ⟨q0, q1, q2⟩ q3 = 0) (hH : hitsE l = 0) (hC : canW (⟨m0, m1, m2, m3, m4, m5, m6, m7, m8, m9, m10, m11⟩ : TMod) (⟨⟨b0, b1, b2⟩, ⟨b3, b4, b5⟩⟩ : TBox) = true) : vc_law05_TrackAnswers_D0H0t m0 m1 m2 m3 m4 m5 m6 m7 m8 m9 m10 m11 b0 b1 b2 b3 b4 b5 q0 q1 q2 q3 l (fun r => LeD r (.t (.c (.v (.bool true))))) := by
  unfold vc_law05_TrackAnswers_D0H0t
  simp only [hits_listC]
  have hd : decide (l.length ≤ 14) = true := decide_eq_true hl
  have n := numsP_hits l
  have hE : firstNZ [firstNZ [(⟨m0, m1, m2, m3, m4, m5, m6, m7, m8, m9, m10, m11⟩ : TMod).err, (⟨⟨b0, b1, b2⟩, ⟨b3, b4, b5⟩⟩ : TBox).err], momE ⟨q0, q1, q2⟩ q3, unl (canW (⟨m0, m1, m2, m3, m4, m5, m6, m7, m8, m9, m10, m11⟩ : TMod) (⟨⟨b0, b1, b2⟩, ⟨b3, b4, b5⟩⟩ : TBox)) 12] = 0 := by simp [firstNZ, unl, hA, hB, hD, hH, hC]
  have hS : firstNZ [firstNZ [firstNZ [(⟨m0, m1, m2, m3, m4, m5, m6, m7, m8, m9, m10, m11⟩ : TMod).err, (⟨⟨b0, b1, b2⟩, ⟨b3, b4, b5⟩⟩ : TBox).err], hitsE l], unl (canW (⟨m0, m1, m2, m3, m4, m5, m6, m7, m8, m9, m10, m11⟩ : TMod) (⟨⟨b0, b1, b2⟩, ⟨b3, b4, b5⟩⟩ : TBox)) 12] = 0 := by simp [firstNZ, unl, hA, hB, hD, hH, hC]
  have hP1 : ((⟨m0, m1, m2, m3, m4, m5, m6, m7, m8, m9, m10, m11⟩ : TMod).Ok ∧ (⟨⟨b0, b1, b2⟩, ⟨b3, b4, b5⟩⟩ : TBox).lo.inS 20 = true ∧ (⟨⟨b0, b1, b2⟩, ⟨b3, b4, b5⟩⟩ : TBox).hi.inS 20 = true ∧ (⟨m0, m1, m2, m3, m4, m5, m6, m7, m8, m9, m10, m11⟩ : TMod).canBe (⟨⟨b0, b1, b2⟩, ⟨b3, b4, b5⟩⟩ : TBox) ∧ (⟨q0, q1, q2⟩ : V3).inS 1000 = true ∧ -1000101 ≤ q3 ∧ q3 ≤ 1000100) := by
    have hb := box_in hB
    rw [canW_eq hb.1 hb.2] at hC
    exact ⟨err_ok hA, hb.1, hb.2, canB_iff.1 hC, mom_ok hD⟩
  simp only at hP1
  have hP2 : (numsP 5 l.length (hitsC l) ∧ (⟨m0, m1, m2, m3, m4, m5, m6, m7, m8, m9, m10, m11⟩ : TMod).Ok ∧ (⟨⟨b0, b1, b2⟩, ⟨b3, b4, b5⟩⟩ : TBox).lo.inS 20 = true ∧ (⟨⟨b0, b1, b2⟩, ⟨b3, b4, b5⟩⟩ : TBox).hi.inS 20 = true ∧ (⟨m0, m1, m2, m3, m4, m5, m6, m7, m8, m9, m10, m11⟩ : TMod).canBe (⟨⟨b0, b1, b2⟩, ⟨b3, b4, b5⟩⟩ : TBox) ∧ l.length ≤ 12 ∧ ∀ i, i < l.length → (hitAt l i).Ok) := by
    have hb := box_in hB
    rw [canW_eq hb.1 hb.2] at hC
    exact ⟨numsP_hits l, err_ok hA, hb.1, hb.2, canB_iff.1 hC, hitsE_ok hH⟩
  simp only at hP2
  have hln : l.length ≤ 1000000 := by omega
  repeat' with_reducible first
    | (refine And.intro rfl ?_)
    | (refine And.intro trivial ?_)
    | (refine And.intro n ?_)
    | (refine And.intro ⟨n, hln⟩ ?_)
    | (refine And.intro (by assumption) ?_)
    | (refine And.intro ⟨n, hd⟩ ?_)
    | (refine And.intro ⟨n, hE⟩ ?_)
    | (refine And.intro ⟨n, hS⟩ ?_)
    | (refine And.intro ⟨n, hH⟩ ?_)
    | (refine And.intro ⟨by assumption, by assumption⟩ ?_)
    | (refine lt_i ?_; intro _ _)
    | (refine cond_i (fun h => ?_) (fun h => ?_))
  all_goals first | exact LeD.refl _ | (exfalso; simp at h; done) | (refine leB ?_; simp; done)
theorem law_law05_TrackAnswers_D0H0t (m0 m1 m2 m3 m4 m5 m6 m7 m8 m9 m10 m11 : Int) (b0 b1 b2 b3 b4 b5 : Int) (q0 q1 q2 q3 : Int) (l : List THit) (hl : (l).length ≤ 14) (hA : ((⟨m0, m1, m2, m3, m4, m5, m6, m7, m8, m9, m10, m11⟩ : TMod)).err = 0) (hB : ((⟨⟨b0, b1, b2⟩, ⟨b3, b4, b5⟩⟩ : TBox)).err = 0) (hD : momE ⟨q0, q1, q2⟩ q3 = 0) (hH : hitsE l = 0) (hC : canW (⟨m0, m1, m2, m3, m4, m5, m6, m7, m8, m9, m10, m11⟩ : TMod) (⟨⟨b0, b1, b2⟩, ⟨b3, b4, b5⟩⟩ : TBox) = true) (W : World) (N : Nat → Prop) (vs : List Value) (h : All2 (RelD (RelF W N)) [.t (.a [.v (.int .i64 m0), .v (.int .i64 m1), .v (.int .i64 m2), .v (.int .i64 m3), .v (.int .i64 m4), .v (.int .i64 m5), .v (.int .i64 m6), .v (.int .i64 m7), .v (.int .i64 m8), .v (.int .i64 m9), .v (.int .i64 m10), .v (.int .i64 m11)]), .t (.a [.v (.int .i64 b0), .v (.int .i64 b1), .v (.int .i64 b2), .v (.int .i64 b3), .v (.int .i64 b4), .v (.int .i64 b5)]), .t (.a [.v (.int .i64 q0), .v (.int .i64 q1), .v (.int .i64 q2), .v (.int .i64 q3), .sl 5 l.length (hitsC l)])] vs) : Calls Try.prog 6 vs.toArray W fun e w' => e = .returned (.bool true) ∧ Below W.heap.size W w' :=
  law_end (fn_sound mixed tabOK VS64 (ann := ann_law05_TrackAnswers_D0H0t) ValidIt.no (fn := Try.f6) (J := fun _ _ _ => False) (by kernel_rfl) fit_law05_TrackAnswers_D0H0t (args := [.t (.a [.v (.int .i64 m0), .v (.int .i64 m1), .v (.int .i64 m2), .v (.int .i64 m3), .v (.int .i64 m4), .v (.int .i64 m5), .v (.int .i64 m6), .v (.int .i64 m7), .v (.int .i64 m8), .v (.int .i64 m9), .v (.int .i64 m10), .v (.int .i64 m11)]), .t (.a [.v (.int .i64 b0), .v (.int .i64 b1), .v (.int .i64 b2), .v (.int .i64 b3), .v (.int .i64 b4), .v (.int .i64 b5)]), .t (.a [.v (.int .i64 q0), .v (.int .i64 q1), .v (.int .i64 q2), .v (.int .i64 q3), .sl 5 l.length (hitsC l)])]) (post := (fun r => LeD r (.t (.c (.v (.bool true)))))) (by rw [ev_law05_TrackAnswers_D0H0t]; exact spec_law05_TrackAnswers_D0H0t m0 m1 m2 m3 m4 m5 m6 m7 m8 m9 m10 m11 b0 b1 b2 b3 b4 b5 q0 q1 q2 q3 l hl hA hB hD hH hC) (by rw [lp_law05_TrackAnswers_D0H0t]; trivial) (Nat.le_of_ble_eq_true (by kernel_rfl)) W N vs h)

def con_ref05_CanBe_f : Con := fun args => match args with
  | [.t (.a [.v (.int .i64 m0), .v (.int .i64 m1), .v (.int .i64 m2), .v (.int .i64 m3), .v (.int .i64 m4), .v (.int .i64 m5), .v (.int .i64 m6), .v (.int .i64 m7), .v (.int .i64 m8), .v (.int .i64 m9), .v (.int .i64 m10), .v (.int .i64 m11)]), .t (.a [.v (.int .i64 b0), .v (.int .i64 b1), .v (.int .i64 b2), .v (.int .i64 b3), .v (.int .i64 b4), .v (.int .i64 b5)])] => some (.t (.c (.v (.bool false))), some (canW (⟨m0, m1, m2, m3, m4, m5, m6, m7, m8, m9, m10, m11⟩ : TMod) (⟨⟨b0, b1, b2⟩, ⟨b3, b4, b5⟩⟩ : TBox) = false), false)
  | _ => none
theorem ok_ref05_CanBe_f : Ok Try.prog 41 con_ref05_CanBe_f := by
  refine Ok.over ok_ref05_CanBe fun args r pre fresh h hp => ?_
  unfold con_ref05_CanBe_f at h
  split at h
  · rename_i m0 m1 m2 m3 m4 m5 m6 m7 m8 m9 m10 m11 b0 b1 b2 b3 b4 b5
    cases h
    have hq := hp
    (try simp only [okP] at hq)
    refine ⟨_, _, rfl, trivial, ?_⟩
    simp_all
  · cases h
def con_track_AnswerIn_e12 : Con := fun args => match args with
  | [.t (.a [.v (.int .i64 m0), .v (.int .i64 m1), .v (.int .i64 m2), .v (.int .i64 m3), .v (.int .i64 m4), .v (.int .i64 m5), .v (.int .i64 m6), .v (.int .i64 m7), .v (.int .i64 m8), .v (.int .i64 m9), .v (.int .i64 m10), .v (.int .i64 m11)]), .t (.a [.v (.int .i64 b0), .v (.int .i64 b1), .v (.int .i64 b2), .v (.int .i64 b3), .v (.int .i64 b4), .v (.int .i64 b5)]), .t (.a [.v (.int .i64 p0), .v (.int .i64 p1), .v (.int .i64 p2), .v (.int .i64 p3)])] => some (.tu [.c (.v (.int .i64 0)), .c (.v (.int .i64 12))], some (firstNZ [firstNZ [((⟨m0, m1, m2, m3, m4, m5, m6, m7, m8, m9, m10, m11⟩ : TMod)).err, ((⟨⟨b0, b1, b2⟩, ⟨b3, b4, b5⟩⟩ : TBox)).err], momE ⟨p0, p1, p2⟩ p3, unl (canW (⟨m0, m1, m2, m3, m4, m5, m6, m7, m8, m9, m10, m11⟩ : TMod) (⟨⟨b0, b1, b2⟩, ⟨b3, b4, b5⟩⟩ : TBox)) 12] = 12), false)
  | _ => none
theorem ok_track_AnswerIn_e12 : Ok Try.prog 37 con_track_AnswerIn_e12 := by
  refine Ok.over ok_track_AnswerIn fun args r pre fresh h hp => ?_
  unfold con_track_AnswerIn_e12 at h
  split at h
  · rename_i m0 m1 m2 m3 m4 m5 m6 m7 m8 m9 m10 m11 b0 b1 b2 b3 b4 b5 p0 p1 p2 p3
    cases h
    have hq := hp
    (try simp only [okP] at hq)
    refine ⟨_, _, rfl, trivial, ?_⟩
    simp_all
  · cases h
def con_track_ScoresIn_e12 : Con := fun args => match args with
  | [.t (.a [.v (.int .i64 m0), .v (.int .i64 m1), .v (.int .i64 m2), .v (.int .i64 m3), .v (.int .i64 m4), .v (.int .i64 m5), .v (.int .i64 m6), .v (.int .i64 m7), .v (.int .i64 m8), .v (.int .i64 m9), .v (.int .i64 m10), .v (.int .i64 m11)]), .t (.a [.v (.int .i64 b0), .v (.int .i64 b1), .v (.int .i64 b2), .v (.int .i64 b3), .v (.int .i64 b4), .v (.int .i64 b5)]), .t (.c (.sl 5 n_l c_l))] => some (.tu [.a [.v (.int .i64 0), .v (.int .i64 0)], .c (.v (.int .i64 12))], some (numsP 5 n_l c_l ∧ firstNZ [firstNZ [firstNZ [((⟨m0, m1, m2, m3, m4, m5, m6, m7, m8, m9, m10, m11⟩ : TMod)).err, ((⟨⟨b0, b1, b2⟩, ⟨b3, b4, b5⟩⟩ : TBox)).err], hitsE (listC n_l mkHit c_l)], unl (canW (⟨m0, m1, m2, m3, m4, m5, m6, m7, m8, m9, m10, m11⟩ : TMod) (⟨⟨b0, b1, b2⟩, ⟨b3, b4, b5⟩⟩ : TBox)) 12] = 12), false)
  | _ => none
theorem ok_track_ScoresIn_e12 : Ok Try.prog 38 con_track_ScoresIn_e12 := by
  refine Ok.over ok_track_ScoresIn fun args r pre fresh h hp => ?_
  unfold con_track_ScoresIn_e12 at h
  split at h
  · rename_i m0 m1 m2 m3 m4 m5 m6 m7 m8 m9 m10 m11 b0 b1 b2 b3 b4 b5 n_l c_l
    cases h
    have hq := hp.2
    (try simp only [okP] at hq)
    refine ⟨_, _, rfl, hp.1, ?_⟩
    simp_all
  · cases h
def S65 : Sum := addS S29 18 con_ref05_ModelErr_0
theorem VS65 : Valid Try.prog S65 := Valid.add VS29 ok_ref05_ModelErr_0
def S66 : Sum := addS S65 39 con_ref05_BoxErr_0
theorem VS66 : Valid Try.prog S66 := Valid.add VS65 ok_ref05_BoxErr_0
def S67 : Sum := addS S66 20 con_ref05_MomentErr_0
theorem VS67 : Valid Try.prog S67 := Valid.add VS66 ok_ref05_MomentErr_0
def S68 : Sum := addS S67 40 con_ref05_HitsErr_0
theorem VS68 : Valid Try.prog S68 := Valid.add VS67 ok_ref05_HitsErr_0
def S69 : Sum := addS S68 41 con_ref05_CanBe_f
theorem VS69 : Valid Try.prog S69 := Valid.add VS68 ok_ref05_CanBe_f
def S70 : Sum := addS S69 37 con_track_AnswerIn_e12
theorem VS70 : Valid Try.prog S70 := Valid.add VS69 ok_track_AnswerIn_e12
def S71 : Sum := addS S70 38 con_track_ScoresIn_e12
theorem VS71 : Valid Try.prog S71 := Valid.add VS70 ok_track_ScoresIn_e12
def S72 : Sum := addS S71 28 con_law05_few_t
theorem VS72 : Valid Try.prog S72 := Valid.add VS71 ok_law05_few_t
def vc_law05_TrackAnswers_D0H0f (m0 m1 m2 m3 m4 m5 m6 m7 m8 m9 m10 m11 : Int) (b0 b1 b2 b3 b4 b5 : Int) (q0 q1 q2 q3 : Int) (l : List THit) (post : DV → Prop) : Prop := (numsP 5 l.length (hitsC l) ∧ decide (((listC l.length mkHit (hitsC l))).length ≤ 14) = true) ∧ ((firstNZ [firstNZ [((⟨m0, m1, m2, m3, m4, m5, m6, m7, m8, m9, m10, m11⟩ : TMod)).err, ((⟨⟨b0, b1, b2⟩, ⟨b3, b4, b5⟩⟩ : TBox)).err], momE ⟨q0, q1, q2⟩ q3, unl (canW (⟨m0, m1, m2, m3, m4, m5, m6, m7, m8, m9, m10, m11⟩ : TMod) (⟨⟨b0, b1, b2⟩, ⟨b3, b4, b5⟩⟩ : TBox)) 12] = 12) ∧ ((numsP 5 l.length (hitsC l) ∧ ((listC l.length mkHit (hitsC l))).length ≤ 1000000) ∧ ((numsP 5 ((listC l.length mkHit (hitsC l)).length) (hitsC (listC l.length mkHit (hitsC l))) ∧ firstNZ [firstNZ [firstNZ [((⟨m0, m1, m2, m3, m4, m5, m6, m7, m8, m9, m10, m11⟩ : TMod)).err, ((⟨⟨b0, b1, b2⟩, ⟨b3, b4, b5⟩⟩ : TBox)).err], hitsE (listC ((listC l.length mkHit (hitsC l)).length) mkHit (hitsC (listC l.length mkHit (hitsC l))))], unl (canW (⟨m0, m1, m2, m3, m4, m5, m6, m7, m8, m9, m10, m11⟩ : TMod) (⟨⟨b0, b1, b2⟩, ⟨b3, b4, b5⟩⟩ : TBox)) 12] = 12) ∧ ((((⟨m0, m1, m2, m3, m4, m5, m6, m7, m8, m9, m10, m11⟩ : TMod)).err = 0) ∧ ((((⟨⟨b0, b1, b2⟩, ⟨b3, b4, b5⟩⟩ : TBox)).err = 0) ∧ ((momE ⟨q0, q1, q2⟩ q3 = 0) ∧ ((numsP 5 l.length (hitsC l) ∧ hitsE (listC l.length mkHit (hitsC l)) = 0) ∧ ((canW (⟨m0, m1, m2, m3, m4, m5, m6, m7, m8, m9, m10, m11⟩ : TMod) (⟨⟨b0, b1, b2⟩, ⟨b3, b4, b5⟩⟩ : TBox) = false) ∧ ((canW (⟨m0, m1, m2, m3, m4, m5, m6, m7, m8, m9, m10, m11⟩ : TMod) (⟨⟨b0, b1, b2⟩, ⟨b3, b4, b5⟩⟩ : TBox) = false) ∧ ((false = false) ∧ (post (.t (.c (.v (.bool (bif true then (bif true then true else false) else false))))))))))))))))
def ann_law05_TrackAnswers_D0H0f : Ann := ⟨fun r => lookA r [(6, ([[], [], [], [2], [2, 3], [0, 1, 2, 3, 4], [0, 1, 2, 3, 4, 5], [0, 1, 2, 3, 4, 5, 6], [0, 1, 2, 3, 4, 5, 6], [], [0, 1, 2, 3, 4, 5, 6, 7, 9], [0, 1, 2, 3, 4, 5, 6, 7, 8, 9, 10]], [[9], [9], [9], [9], [9], [9], [9], [9], [9], [], [], []])), (12, ([[], [0], [0, 1], [], [3], [0, 1, 2, 3, 4], [0, 1, 2, 3, 4, 5], [0, 1, 2, 3, 4, 5, 6]], [[], [], [], [], [], [], [], []])), (21, ([[], [0], [0, 1], [0, 1, 2], [0, 1, 2], [0, 1, 2], [0, 1, 2], [0, 1, 2, 6], [0, 1, 2, 4, 5, 6, 7], [0, 1, 2, 3, 4, 5, 6, 7, 8], [0, 1, 2, 3, 4, 5, 6, 7, 8, 9], [0, 1, 2, 3, 4, 5, 6, 7, 8, 9, 10]], [[], [], [], [], [], [], [], [], [], [], [], []]))], fun _ => none, fun _ => [], noIt⟩
theorem ev_law05_TrackAnswers_D0H0f (J : Inv) (m0 m1 m2 m3 m4 m5 m6 m7 m8 m9 m10 m11 : Int) (b0 b1 b2 b3 b4 b5 : Int) (q0 q1 q2 q3 : Int) (l : List THit) (post : DV → Prop) : evFn Try.prog tab S72 ann_law05_TrackAnswers_D0H0f J Try.f6 [.t (.a [.v (.int .i64 m0), .v (.int .i64 m1), .v (.int .i64 m2), .v (.int .i64 m3), .v (.int .i64 m4), .v (.int .i64 m5), .v (.int .i64 m6), .v (.int .i64 m7), .v (.int .i64 m8), .v (.int .i64 m9), .v (.int .i64 m10), .v (.int .i64 m11)]), .t (.a [.v (.int .i64 b0), .v (.int .i64 b1), .v (.int .i64 b2), .v (.int .i64 b3), .v (.int .i64 b4), .v (.int .i64 b5)]), .t (.a [.v (.int .i64 q0), .v (.int .i64 q1), .v (.int .i64 q2), .v (.int .i64 q3), .sl 5 l.length (hitsC l)])] post = vc_law05_TrackAnswers_D0H0f m0 m1 m2 m3 m4 m5 m6 m7 m8 m9 m10 m11 b0 b1 b2 b3 b4 b5 q0 q1 q2 q3 l post := by kernel_rfl
theorem fit_law05_TrackAnswers_D0H0f : okFn ann_law05_TrackAnswers_D0H0f Try.f6 = true := by kernel_rfl
theorem lp_law05_TrackAnswers_D0H0f (J : Inv) (post : DV → Prop) : AllG J (loopsFn Try.prog tab S72 ann_law05_TrackAnswers_D0H0f J Try.f6 post) = True := by kernel_rfl
theorem spec_law05_TrackAnswers_D0H0f (m0 m1 m2 m3 m4 m5 m6 m7 m8 m9 m10 m11 : Int) (b0 b1 b2 b3 b4 b5 : Int) (q0 q1 q2 q3 : Int) (l : List THit) (hl : (l).length ≤ 14) (hA : ((⟨m0, m1, m2, m3, m4, m5, m6, m7, m8, m9, m10, m11⟩ : TMod)).err = 0) (hB : ((⟨⟨b0, b1, b2⟩, ⟨b3, b4, b5⟩⟩ : TBox)).err = 0) (hD : momE ⟨q0, q1, q2⟩ q3 = 0) (hH : hitsE l = 0) (hC : canW (⟨m0, m1, m2, m3, m4, m5, m6, m7, m8, m9, m10, m11⟩ : TMod) (⟨⟨b0, b1, b2⟩, ⟨b3, b4, b5⟩⟩ : TBox) = false) : vc_law05_TrackAnswers_D0H0f m0 m1 m2 m3 m4 m5 m6 m7 m8 m9 m10 m11 b0 b1 b2 b3 b4 b5 q0 q1 q2 q3 l (fun r => LeD r (.t (.c (.v (.bool true))))) := by
  unfold vc_law05_TrackAnswers_D0H0f
  simp only [hits_listC]
  have hd : decide (l.length ≤ 14) = true := decide_eq_true hl
  have n := numsP_hits l
  have hE : firstNZ [firstNZ [(⟨m0, m1, m2, m3, m4, m5, m6, m7, m8, m9, m10, m11⟩ : TMod).err, (⟨⟨b0, b1, b2⟩, ⟨b3, b4, b5⟩⟩ : TBox).err], momE ⟨q0, q1, q2⟩ q3, unl (canW (⟨m0, m1, m2, m3, m4, m5, m6, m7, m8, m9, m10, m11⟩ : TMod) (⟨⟨b0, b1, b2⟩, ⟨b3, b4, b5⟩⟩ : TBox)) 12] = 12 := by simp [firstNZ, unl, hA, hB, hD, hH, hC]
  have hS : firstNZ [firstNZ [firstNZ [(⟨m0, m1, m2, m3, m4, m5, m6, m7, m8, m9, m10, m11⟩ : TMod).err, (⟨⟨b0, b1, b2⟩, ⟨b3, b4, b5⟩⟩ : TBox).err], hitsE l], unl (canW (⟨m0, m1, m2, m3, m4, m5, m6, m7, m8, m9, m10, m11⟩ : TMod) (⟨⟨b0, b1, b2⟩, ⟨b3, b4, b5⟩⟩ : TBox)) 12] = 12 := by simp [firstNZ, unl, hA, hB, hD, hH, hC]
  have hln : l.length ≤ 1000000 := by omega
  repeat' with_reducible first
    | (refine And.intro rfl ?_)
    | (refine And.intro trivial ?_)
    | (refine And.intro n ?_)
    | (refine And.intro ⟨n, hln⟩ ?_)
    | (refine And.intro (by assumption) ?_)
    | (refine And.intro ⟨n, hd⟩ ?_)
    | (refine And.intro ⟨n, hE⟩ ?_)
    | (refine And.intro ⟨n, hS⟩ ?_)
    | (refine And.intro ⟨n, hH⟩ ?_)
    | (refine And.intro ⟨by assumption, by assumption⟩ ?_)
    | (refine lt_i ?_; intro _ _)
    | (refine cond_i (fun h => ?_) (fun h => ?_))
  all_goals first | exact LeD.refl _ | (exfalso; simp at h; done) | (refine leB ?_; simp; done)
theorem law_law05_TrackAnswers_D0H0f (m0 m1 m2 m3 m4 m5 m6 m7 m8 m9 m10 m11 : Int) (b0 b1 b2 b3 b4 b5 : Int) (q0 q1 q2 q3 : Int) (l : List THit) (hl : (l).length ≤ 14) (hA : ((⟨m0, m1, m2, m3, m4, m5, m6, m7, m8, m9, m10, m11⟩ : TMod)).err = 0) (hB : ((⟨⟨b0, b1, b2⟩, ⟨b3, b4, b5⟩⟩ : TBox)).err = 0) (hD : momE ⟨q0, q1, q2⟩ q3 = 0) (hH : hitsE l = 0) (hC : canW (⟨m0, m1, m2, m3, m4, m5, m6, m7, m8, m9, m10, m11⟩ : TMod) (⟨⟨b0, b1, b2⟩, ⟨b3, b4, b5⟩⟩ : TBox) = false) (W : World) (N : Nat → Prop) (vs : List Value) (h : All2 (RelD (RelF W N)) [.t (.a [.v (.int .i64 m0), .v (.int .i64 m1), .v (.int .i64 m2), .v (.int .i64 m3), .v (.int .i64 m4), .v (.int .i64 m5), .v (.int .i64 m6), .v (.int .i64 m7), .v (.int .i64 m8), .v (.int .i64 m9), .v (.int .i64 m10), .v (.int .i64 m11)]), .t (.a [.v (.int .i64 b0), .v (.int .i64 b1), .v (.int .i64 b2), .v (.int .i64 b3), .v (.int .i64 b4), .v (.int .i64 b5)]), .t (.a [.v (.int .i64 q0), .v (.int .i64 q1), .v (.int .i64 q2), .v (.int .i64 q3), .sl 5 l.length (hitsC l)])] vs) : Calls Try.prog 6 vs.toArray W fun e w' => e = .returned (.bool true) ∧ Below W.heap.size W w' :=
  law_end (fn_sound mixed tabOK VS72 (ann := ann_law05_TrackAnswers_D0H0f) ValidIt.no (fn := Try.f6) (J := fun _ _ _ => False) (by kernel_rfl) fit_law05_TrackAnswers_D0H0f (args := [.t (.a [.v (.int .i64 m0), .v (.int .i64 m1), .v (.int .i64 m2), .v (.int .i64 m3), .v (.int .i64 m4), .v (.int .i64 m5), .v (.int .i64 m6), .v (.int .i64 m7), .v (.int .i64 m8), .v (.int .i64 m9), .v (.int .i64 m10), .v (.int .i64 m11)]), .t (.a [.v (.int .i64 b0), .v (.int .i64 b1), .v (.int .i64 b2), .v (.int .i64 b3), .v (.int .i64 b4), .v (.int .i64 b5)]), .t (.a [.v (.int .i64 q0), .v (.int .i64 q1), .v (.int .i64 q2), .v (.int .i64 q3), .sl 5 l.length (hitsC l)])]) (post := (fun r => LeD r (.t (.c (.v (.bool true)))))) (by rw [ev_law05_TrackAnswers_D0H0f]; exact spec_law05_TrackAnswers_D0H0f m0 m1 m2 m3 m4 m5 m6 m7 m8 m9 m10 m11 b0 b1 b2 b3 b4 b5 q0 q1 q2 q3 l hl hA hB hD hH hC) (by rw [lp_law05_TrackAnswers_D0H0f]; trivial) (Nat.le_of_ble_eq_true (by kernel_rfl)) W N vs h)

def con_ref05_HitsErr_2 : Con := fun args => match args with
  | [.t (.c (.sl 5 n_l c_l))] => some (.t (.c (.v (.int .i64 2))), some (numsP 5 n_l c_l ∧ hitsE (listC n_l mkHit c_l) = 2), false)
  | _ => none
theorem ok_ref05_HitsErr_2 : Ok Try.prog 40 con_ref05_HitsErr_2 := by
  refine Ok.over ok_ref05_HitsErr fun args r pre fresh h hp => ?_
  unfold con_ref05_HitsErr_2 at h
  split at h
  · rename_i n_l c_l
    cases h
    have hq := hp.2
    (try simp only [okP] at hq)
    refine ⟨_, _, rfl, hp.1, ?_⟩
    simp_all
  · cases h
def S73 : Sum := addS S29 18 con_ref05_ModelErr_0
theorem VS73 : Valid Try.prog S73 := Valid.add VS29 ok_ref05_ModelErr_0
def S74 : Sum := addS S73 39 con_ref05_BoxErr_0
theorem VS74 : Valid Try.prog S74 := Valid.add VS73 ok_ref05_BoxErr_0
def S75 : Sum := addS S74 20 con_ref05_MomentErr_0
theorem VS75 : Valid Try.prog S75 := Valid.add VS74 ok_ref05_MomentErr_0
def S76 : Sum := addS S75 40 con_ref05_HitsErr_2
theorem VS76 : Valid Try.prog S76 := Valid.add VS75 ok_ref05_HitsErr_2
def S77 : Sum := addS S76 41 con_ref05_CanBe_t
theorem VS77 : Valid Try.prog S77 := Valid.add VS76 ok_ref05_CanBe_t
def S78 : Sum := addS S77 37 con_track_AnswerIn_ok
theorem VS78 : Valid Try.prog S78 := Valid.add VS77 ok_track_AnswerIn_ok
def S79 : Sum := addS S78 38 con_track_ScoresIn_e2
theorem VS79 : Valid Try.prog S79 := Valid.add VS78 ok_track_ScoresIn_e2
def S80 : Sum := addS S79 28 con_law05_few_t
theorem VS80 : Valid Try.prog S80 := Valid.add VS79 ok_law05_few_t
def vc_law05_TrackAnswers_D0H2t (m0 m1 m2 m3 m4 m5 m6 m7 m8 m9 m10 m11 : Int) (b0 b1 b2 b3 b4 b5 : Int) (q0 q1 q2 q3 : Int) (l : List THit) (post : DV → Prop) : Prop := (numsP 5 l.length (hitsC l) ∧ decide (((listC l.length mkHit (hitsC l))).length ≤ 14) = true) ∧ ((firstNZ [firstNZ [((⟨m0, m1, m2, m3, m4, m5, m6, m7, m8, m9, m10, m11⟩ : TMod)).err, ((⟨⟨b0, b1, b2⟩, ⟨b3, b4, b5⟩⟩ : TBox)).err], momE ⟨q0, q1, q2⟩ q3, unl (canW (⟨m0, m1, m2, m3, m4, m5, m6, m7, m8, m9, m10, m11⟩ : TMod) (⟨⟨b0, b1, b2⟩, ⟨b3, b4, b5⟩⟩ : TBox)) 12] = 0) ∧ ((numsP 5 l.length (hitsC l) ∧ ((listC l.length mkHit (hitsC l))).length ≤ 1000000) ∧ ((numsP 5 ((listC l.length mkHit (hitsC l)).length) (hitsC (listC l.length mkHit (hitsC l))) ∧ firstNZ [firstNZ [firstNZ [((⟨m0, m1, m2, m3, m4, m5, m6, m7, m8, m9, m10, m11⟩ : TMod)).err, ((⟨⟨b0, b1, b2⟩, ⟨b3, b4, b5⟩⟩ : TBox)).err], hitsE (listC ((listC l.length mkHit (hitsC l)).length) mkHit (hitsC (listC l.length mkHit (hitsC l))))], unl (canW (⟨m0, m1, m2, m3, m4, m5, m6, m7, m8, m9, m10, m11⟩ : TMod) (⟨⟨b0, b1, b2⟩, ⟨b3, b4, b5⟩⟩ : TBox)) 12] = 2) ∧ ((((⟨m0, m1, m2, m3, m4, m5, m6, m7, m8, m9, m10, m11⟩ : TMod)).err = 0) ∧ ((((⟨⟨b0, b1, b2⟩, ⟨b3, b4, b5⟩⟩ : TBox)).err = 0) ∧ ((momE ⟨q0, q1, q2⟩ q3 = 0) ∧ ((numsP 5 l.length (hitsC l) ∧ hitsE (listC l.length mkHit (hitsC l)) = 2) ∧ ((canW (⟨m0, m1, m2, m3, m4, m5, m6, m7, m8, m9, m10, m11⟩ : TMod) (⟨⟨b0, b1, b2⟩, ⟨b3, b4, b5⟩⟩ : TBox) = true) ∧ ((false = false) ∧ ((false = false) ∧ ((((⟨m0, m1, m2, m3, m4, m5, m6, m7, m8, m9, m10, m11⟩ : TMod)).Ok ∧ ((⟨⟨b0, b1, b2⟩, ⟨b3, b4, b5⟩⟩ : TBox)).lo.inS 20 = true ∧ ((⟨⟨b0, b1, b2⟩, ⟨b3, b4, b5⟩⟩ : TBox)).hi.inS 20 = true ∧ ((⟨m0, m1, m2, m3, m4, m5, m6, m7, m8, m9, m10, m11⟩ : TMod)).canBe (⟨⟨b0, b1, b2⟩, ⟨b3, b4, b5⟩⟩ : TBox) ∧ ((⟨q0, q1, q2⟩ : V3)).inS 1000 = true ∧ -1000101 ≤ q3 ∧ q3 ≤ 1000100) ∧ (cond ((((⟨m0, m1, m2, m3, m4, m5, m6, m7, m8, m9, m10, m11⟩ : TMod)).ans (⟨⟨b0, b1, b2⟩, ⟨b3, b4, b5⟩⟩ : TBox) ⟨q0, q1, q2⟩ q3) != (((⟨m0, m1, m2, m3, m4, m5, m6, m7, m8, m9, m10, m11⟩ : TMod)).ans (⟨⟨b0, b1, b2⟩, ⟨b3, b4, b5⟩⟩ : TBox) (⟨q0, q1, q2⟩ : V3) q3)) (post (.t (.c (.v (.bool false))))) (post (.t (.c (.v (.bool (bif true then (bif true then true else false) else false))))))))))))))))))
def ann_law05_TrackAnswers_D0H2t : Ann := ⟨fun r => lookA r [(6, ([[], [], [], [2], [2, 3], [0, 1, 2, 3, 4], [0, 1, 2, 3, 4, 5], [0, 1, 2, 3, 4, 5, 6], [0, 1, 2, 3, 4, 5, 6], [], [0, 1, 2, 3, 4, 5, 6, 7, 9], [0, 1, 2, 3, 4, 5, 6, 7, 8, 9, 10]], [[9], [9], [9], [9], [9], [9], [9], [9], [9], [], [], []])), (12, ([[], [0], [0, 1], [], [3], [0, 1, 2, 3, 4], [0, 1, 2, 3, 4, 5], [0, 1, 2, 3, 4, 5, 6]], [[], [], [], [], [], [], [], []])), (21, ([[], [0], [0, 1], [0, 1, 2], [0, 1, 2], [0, 1, 2], [0, 1, 2], [0, 1, 2, 6], [0, 1, 2, 4, 5, 6, 7], [0, 1, 2, 3, 4, 5, 6, 7, 8], [0, 1, 2, 3, 4, 5, 6, 7, 8, 9], [0, 1, 2, 3, 4, 5, 6, 7, 8, 9, 10]], [[], [], [], [], [], [], [], [], [], [], [], []]))], fun _ => none, fun _ => [], noIt⟩
theorem ev_law05_TrackAnswers_D0H2t (J : Inv) (m0 m1 m2 m3 m4 m5 m6 m7 m8 m9 m10 m11 : Int) (b0 b1 b2 b3 b4 b5 : Int) (q0 q1 q2 q3 : Int) (l : List THit) (post : DV → Prop) : evFn Try.prog tab S80 ann_law05_TrackAnswers_D0H2t J Try.f6 [.t (.a [.v (.int .i64 m0), .v (.int .i64 m1), .v (.int .i64 m2), .v (.int .i64 m3), .v (.int .i64 m4), .v (.int .i64 m5), .v (.int .i64 m6), .v (.int .i64 m7), .v (.int .i64 m8), .v (.int .i64 m9), .v (.int .i64 m10), .v (.int .i64 m11)]), .t (.a [.v (.int .i64 b0), .v (.int .i64 b1), .v (.int .i64 b2), .v (.int .i64 b3), .v (.int .i64 b4), .v (.int .i64 b5)]), .t (.a [.v (.int .i64 q0), .v (.int .i64 q1), .v (.int .i64 q2), .v (.int .i64 q3), .sl 5 l.length (hitsC l)])] post = vc_law05_TrackAnswers_D0H2t m0 m1 m2 m3 m4 m5 m6 m7 m8 m9 m10 m11 b0 b1 b2 b3 b4 b5 q0 q1 q2 q3 l post := by kernel_rfl
theorem fit_law05_TrackAnswers_D0H2t : okFn ann_law05_TrackAnswers_D0H2t Try.f6 = true := by kernel_rfl
theorem lp_law05_TrackAnswers_D0H2t (J : Inv) (post : DV → Prop) : AllG J (loopsFn Try.prog tab S80 ann_law05_TrackAnswers_D0H2t J Try.f6 post) = True := by kernel_rfl
theorem spec_law05_TrackAnswers_D0H2t (m0 m1 m2 m3 m4 m5 m6 m7 m8 m9 m10 m11 : Int) (b0 b1 b2 b3 b4 b5 : Int) (q0 q1 q2 q3 : Int) (l : List THit) (hl : (l).length ≤ 14) (hA : ((⟨m0, m1, m2, m3, m4, m5, m6, m7, m8, m9, m10, m11⟩ : TMod)).err = 0) (hB : ((⟨⟨b0, b1, b2⟩, ⟨b3, b4, b5⟩⟩ : TBox)).err = 0) (hD : momE ⟨q0, q1, q2⟩ q3 = 0) (hH : hitsE l = 2) (hC : canW (⟨m0, m1, m2, m3, m4, m5, m6, m7, m8, m9, m10, m11⟩ : TMod) (⟨⟨b0, b1, b2⟩, ⟨b3, b4, b5⟩⟩ : TBox) = true) : vc_law05_TrackAnswers_D0H2t m0 m1 m2 m3 m4 m5 m6 m7 m8 m9 m10 m11 b0 b1 b2 b3 b4 b5 q0 q1 q2 q3 l (fun r => LeD r (.t (.c (.v (.bool true))))) := by
  unfold vc_law05_TrackAnswers_D0H2t
  simp only [hits_listC]
  have hd : decide (l.length ≤ 14) = true := decide_eq_true hl
  have n := numsP_hits l
  have hE : firstNZ [firstNZ [(⟨m0, m1, m2, m3, m4, m5, m6, m7, m8, m9, m10, m11⟩ : TMod).err, (⟨⟨b0, b1, b2⟩, ⟨b3, b4, b5⟩⟩ : TBox).err], momE ⟨q0, q1, q2⟩ q3, unl (canW (⟨m0, m1, m2, m3, m4, m5, m6, m7, m8, m9, m10, m11⟩ : TMod) (⟨⟨b0, b1, b2⟩, ⟨b3, b4, b5⟩⟩ : TBox)) 12] = 0 := by simp [firstNZ, unl, hA, hB, hD, hH, hC]
  have hS : firstNZ [firstNZ [firstNZ [(⟨m0, m1, m2, m3, m4, m5, m6, m7, m8, m9, m10, m11⟩ : TMod).err, (⟨⟨b0, b1, b2⟩, ⟨b3, b4, b5⟩⟩ : TBox).err], hitsE l], unl (canW (⟨m0, m1, m2, m3, m4, m5, m6, m7, m8, m9, m10, m11⟩ : TMod) (⟨⟨b0, b1, b2⟩, ⟨b3, b4, b5⟩⟩ : TBox)) 12] = 2 := by simp [firstNZ, unl, hA, hB, hD, hH, hC]
  have hP1 : ((⟨m0, m1, m2, m3, m4, m5, m6, m7, m8, m9, m10, m11⟩ : TMod).Ok ∧ (⟨⟨b0, b1, b2⟩, ⟨b3, b4, b5⟩⟩ : TBox).lo.inS 20 = true ∧ (⟨⟨b0, b1, b2⟩, ⟨b3, b4, b5⟩⟩ : TBox).hi.inS 20 = true ∧ (⟨m0, m1, m2, m3, m4, m5, m6, m7, m8, m9, m10, m11⟩ : TMod).canBe (⟨⟨b0, b1, b2⟩, ⟨b3, b4, b5⟩⟩ : TBox) ∧ (⟨q0, q1, q2⟩ : V3).inS 1000 = true ∧ -1000101 ≤ q3 ∧ q3 ≤ 1000100) := by
    have hb := box_in hB
    rw [canW_eq hb.1 hb.2] at hC
    exact ⟨err_ok hA, hb.1, hb.2, canB_iff.1 hC, mom_ok hD⟩
  simp only at hP1
  have hln : l.length ≤ 1000000 := by omega
  repeat' with_reducible first
    | (refine And.intro rfl ?_)
    | (refine And.intro trivial ?_)
    | (refine And.intro n ?_)
    | (refine And.intro ⟨n, hln⟩ ?_)
    | (refine And.intro (by assumption) ?_)
    | (refine And.intro ⟨n, hd⟩ ?_)
    | (refine And.intro ⟨n, hE⟩ ?_)
    | (refine And.intro ⟨n, hS⟩ ?_)
    | (refine And.intro ⟨n, hH⟩ ?_)
    | (refine And.intro ⟨by assumption, by assumption⟩ ?_)
    | (refine lt_i ?_; intro _ _)
    | (refine cond_i (fun h => ?_) (fun h => ?_))
  all_goals first | exact LeD.refl _ | (exfalso; simp at h; done) | (refine leB ?_; simp; done)
theorem law_law05_TrackAnswers_D0H2t (m0 m1 m2 m3 m4 m5 m6 m7 m8 m9 m10 m11 : Int) (b0 b1 b2 b3 b4 b5 : Int) (q0 q1 q2 q3 : Int) (l : List THit) (hl : (l).length ≤ 14) (hA : ((⟨m0, m1, m2, m3, m4, m5, m6, m7, m8, m9, m10, m11⟩ : TMod)).err = 0) (hB : ((⟨⟨b0, b1, b2⟩, ⟨b3, b4, b5⟩⟩ : TBox)).err = 0) (hD : momE ⟨q0, q1, q2⟩ q3 = 0) (hH : hitsE l = 2) (hC : canW (⟨m0, m1, m2, m3, m4, m5, m6, m7, m8, m9, m10, m11⟩ : TMod) (⟨⟨b0, b1, b2⟩, ⟨b3, b4, b5⟩⟩ : TBox) = true) (W : World) (N : Nat → Prop) (vs : List Value) (h : All2 (RelD (RelF W N)) [.t (.a [.v (.int .i64 m0), .v (.int .i64 m1), .v (.int .i64 m2), .v (.int .i64 m3), .v (.int .i64 m4), .v (.int .i64 m5), .v (.int .i64 m6), .v (.int .i64 m7), .v (.int .i64 m8), .v (.int .i64 m9), .v (.int .i64 m10), .v (.int .i64 m11)]), .t (.a [.v (.int .i64 b0), .v (.int .i64 b1), .v (.int .i64 b2), .v (.int .i64 b3), .v (.int .i64 b4), .v (.int .i64 b5)]), .t (.a [.v (.int .i64 q0), .v (.int .i64 q1), .v (.int .i64 q2), .v (.int .i64 q3), .sl 5 l.length (hitsC l)])] vs) : Calls Try.prog 6 vs.toArray W fun e w' => e = .returned (.bool true) ∧ Below W.heap.size W w' :=
  law_end (fn_sound mixed tabOK VS80 (ann := ann_law05_TrackAnswers_D0H2t) ValidIt.no (fn := Try.f6) (J := fun _ _ _ => False) (by kernel_rfl) fit_law05_TrackAnswers_D0H2t (args := [.t (.a [.v (.int .i64 m0), .v (.int .i64 m1), .v (.int .i64 m2), .v (.int .i64 m3), .v (.int .i64 m4), .v (.int .i64 m5), .v (.int .i64 m6), .v (.int .i64 m7), .v (.int .i64 m8), .v (.int .i64 m9), .v (.int .i64 m10), .v (.int .i64 m11)]), .t (.a [.v (.int .i64 b0), .v (.int .i64 b1), .v (.int .i64 b2), .v (.int .i64 b3), .v (.int .i64 b4), .v (.int .i64 b5)]), .t (.a [.v (.int .i64 q0), .v (.int .i64 q1), .v (.int .i64 q2), .v (.int .i64 q3), .sl 5 l.length (hitsC l)])]) (post := (fun r => LeD r (.t (.c (.v (.bool true)))))) (by rw [ev_law05_TrackAnswers_D0H2t]; exact spec_law05_TrackAnswers_D0H2t m0 m1 m2 m3 m4 m5 m6 m7 m8 m9 m10 m11 b0 b1 b2 b3 b4 b5 q0 q1 q2 q3 l hl hA hB hD hH hC) (by rw [lp_law05_TrackAnswers_D0H2t]; trivial) (Nat.le_of_ble_eq_true (by kernel_rfl)) W N vs h)

def S81 : Sum := addS S29 18 con_ref05_ModelErr_0
theorem VS81 : Valid Try.prog S81 := Valid.add VS29 ok_ref05_ModelErr_0
def S82 : Sum := addS S81 39 con_ref05_BoxErr_0
theorem VS82 : Valid Try.prog S82 := Valid.add VS81 ok_ref05_BoxErr_0
def S83 : Sum := addS S82 20 con_ref05_MomentErr_0
theorem VS83 : Valid Try.prog S83 := Valid.add VS82 ok_ref05_MomentErr_0
def S84 : Sum := addS S83 40 con_ref05_HitsErr_2
theorem VS84 : Valid Try.prog S84 := Valid.add VS83 ok_ref05_HitsErr_2
def S85 : Sum := addS S84 41 con_ref05_CanBe_f
theorem VS85 : Valid Try.prog S85 := Valid.add VS84 ok_ref05_CanBe_f
def S86 : Sum := addS S85 37 con_track_AnswerIn_e12
theorem VS86 : Valid Try.prog S86 := Valid.add VS85 ok_track_AnswerIn_e12
def S87 : Sum := addS S86 38 con_track_ScoresIn_e2
theorem VS87 : Valid Try.prog S87 := Valid.add VS86 ok_track_ScoresIn_e2
def S88 : Sum := addS S87 28 con_law05_few_t
theorem VS88 : Valid Try.prog S88 := Valid.add VS87 ok_law05_few_t
def vc_law05_TrackAnswers_D0H2f (m0 m1 m2 m3 m4 m5 m6 m7 m8 m9 m10 m11 : Int) (b0 b1 b2 b3 b4 b5 : Int) (q0 q1 q2 q3 : Int) (l : List THit) (post : DV → Prop) : Prop := (numsP 5 l.length (hitsC l) ∧ decide (((listC l.length mkHit (hitsC l))).length ≤ 14) = true) ∧ ((firstNZ [firstNZ [((⟨m0, m1, m2, m3, m4, m5, m6, m7, m8, m9, m10, m11⟩ : TMod)).err, ((⟨⟨b0, b1, b2⟩, ⟨b3, b4, b5⟩⟩ : TBox)).err], momE ⟨q0, q1, q2⟩ q3, unl (canW (⟨m0, m1, m2, m3, m4, m5, m6, m7, m8, m9, m10, m11⟩ : TMod) (⟨⟨b0, b1, b2⟩, ⟨b3, b4, b5⟩⟩ : TBox)) 12] = 12) ∧ ((numsP 5 l.length (hitsC l) ∧ ((listC l.length mkHit (hitsC l))).length ≤ 1000000) ∧ ((numsP 5 ((listC l.length mkHit (hitsC l)).length) (hitsC (listC l.length mkHit (hitsC l))) ∧ firstNZ [firstNZ [firstNZ [((⟨m0, m1, m2, m3, m4, m5, m6, m7, m8, m9, m10, m11⟩ : TMod)).err, ((⟨⟨b0, b1, b2⟩, ⟨b3, b4, b5⟩⟩ : TBox)).err], hitsE (listC ((listC l.length mkHit (hitsC l)).length) mkHit (hitsC (listC l.length mkHit (hitsC l))))], unl (canW (⟨m0, m1, m2, m3, m4, m5, m6, m7, m8, m9, m10, m11⟩ : TMod) (⟨⟨b0, b1, b2⟩, ⟨b3, b4, b5⟩⟩ : TBox)) 12] = 2) ∧ ((((⟨m0, m1, m2, m3, m4, m5, m6, m7, m8, m9, m10, m11⟩ : TMod)).err = 0) ∧ ((((⟨⟨b0, b1, b2⟩, ⟨b3, b4, b5⟩⟩ : TBox)).err = 0) ∧ ((momE ⟨q0, q1, q2⟩ q3 = 0) ∧ ((numsP 5 l.length (hitsC l) ∧ hitsE (listC l.length mkHit (hitsC l)) = 2) ∧ ((canW (⟨m0, m1, m2, m3, m4, m5, m6, m7, m8, m9, m10, m11⟩ : TMod) (⟨⟨b0, b1, b2⟩, ⟨b3, b4, b5⟩⟩ : TBox) = false) ∧ ((false = false) ∧ ((false = false) ∧ (post (.t (.c (.v (.bool (bif true then (bif true then true else false) else false))))))))))))))))
def ann_law05_TrackAnswers_D0H2f : Ann := ⟨fun r => lookA r [(6, ([[], [], [], [2], [2, 3], [0, 1, 2, 3, 4], [0, 1, 2, 3, 4, 5], [0, 1, 2, 3, 4, 5, 6], [0, 1, 2, 3, 4, 5, 6], [], [0, 1, 2, 3, 4, 5, 6, 7, 9], [0, 1, 2, 3, 4, 5, 6, 7, 8, 9, 10]], [[9], [9], [9], [9], [9], [9], [9], [9], [9], [], [], []])), (12, ([[], [0], [0, 1], [], [3], [0, 1, 2, 3, 4], [0, 1, 2, 3, 4, 5], [0, 1, 2, 3, 4, 5, 6]], [[], [], [], [], [], [], [], []])), (21, ([[], [0], [0, 1], [0, 1, 2], [0, 1, 2], [0, 1, 2], [0, 1, 2], [0, 1, 2, 6], [0, 1, 2, 4, 5, 6, 7], [0, 1, 2, 3, 4, 5, 6, 7, 8], [0, 1, 2, 3, 4, 5, 6, 7, 8, 9], [0, 1, 2, 3, 4, 5, 6, 7, 8, 9, 10]], [[], [], [], [], [], [], [], [], [], [], [], []]))], fun _ => none, fun _ => [], noIt⟩
theorem ev_law05_TrackAnswers_D0H2f (J : Inv) (m0 m1 m2 m3 m4 m5 m6 m7 m8 m9 m10 m11 : Int) (b0 b1 b2 b3 b4 b5 : Int) (q0 q1 q2 q3 : Int) (l : List THit) (post : DV → Prop) : evFn Try.prog tab S88 ann_law05_TrackAnswers_D0H2f J Try.f6 [.t (.a [.v (.int .i64 m0), .v (.int .i64 m1), .v (.int .i64 m2), .v (.int .i64 m3), .v (.int .i64 m4), .v (.int .i64 m5), .v (.int .i64 m6), .v (.int .i64 m7), .v (.int .i64 m8), .v (.int .i64 m9), .v (.int .i64 m10), .v (.int .i64 m11)]), .t (.a [.v (.int .i64 b0), .v (.int .i64 b1), .v (.int .i64 b2), .v (.int .i64 b3), .v (.int .i64 b4), .v (.int .i64 b5)]), .t (.a [.v (.int .i64 q0), .v (.int .i64 q1), .v (.int .i64 q2), .v (.int .i64 q3), .sl 5 l.length (hitsC l)])] post = vc_law05_TrackAnswers_D0H2f m0 m1 m2 m3 m4 m5 m6 m7 m8 m9 m10 m11 b0 b1 b2 b3 b4 b5 q0 q1 q2 q3 l post := by kernel_rfl
theorem fit_law05_TrackAnswers_D0H2f : okFn ann_law05_TrackAnswers_D0H2f Try.f6 = true := by kernel_rfl
theorem lp_law05_TrackAnswers_D0H2f (J : Inv) (post : DV → Prop) : AllG J (loopsFn Try.prog tab S88 ann_law05_TrackAnswers_D0H2f J Try.f6 post) = True := by kernel_rfl
theorem spec_law05_TrackAnswers_D0H2f (m0 m1 m2 m3 m4 m5 m6 m7 m8 m9 m10 m11 : Int) (b0 b1 b2 b3 b4 b5 : Int) (q0 q1 q2 q3 : Int) (l : List THit) (hl : (l).length ≤ 14) (hA : ((⟨m0, m1, m2, m3, m4, m5, m6, m7, m8, m9, m10, m11⟩ : TMod)).err = 0) (hB : ((⟨⟨b0, b1, b2⟩, ⟨b3, b4, b5⟩⟩ : TBox)).err = 0) (hD : momE ⟨q0, q1, q2⟩ q3 = 0) (hH : hitsE l = 2) (hC : canW (⟨m0, m1, m2, m3, m4, m5, m6, m7, m8, m9, m10, m11⟩ : TMod) (⟨⟨b0, b1, b2⟩, ⟨b3, b4, b5⟩⟩ : TBox) = false) : vc_law05_TrackAnswers_D0H2f m0 m1 m2 m3 m4 m5 m6 m7 m8 m9 m10 m11 b0 b1 b2 b3 b4 b5 q0 q1 q2 q3 l (fun r => LeD r (.t (.c (.v (.bool true))))) := by
  unfold vc_law05_TrackAnswers_D0H2f
  simp only [hits_listC]
  have hd : decide (l.length ≤ 14) = true := decide_eq_true hl
  have n := numsP_hits l
  have hE : firstNZ [firstNZ [(⟨m0, m1, m2, m3, m4, m5, m6, m7, m8, m9, m10, m11⟩ : TMod).err, (⟨⟨b0, b1, b2⟩, ⟨b3, b4, b5⟩⟩ : TBox).err], momE ⟨q0, q1, q2⟩ q3, unl (canW (⟨m0, m1, m2, m3, m4, m5, m6, m7, m8, m9, m10, m11⟩ : TMod) (⟨⟨b0, b1, b2⟩, ⟨b3, b4, b5⟩⟩ : TBox)) 12] = 12 := by simp [firstNZ, unl, hA, hB, hD, hH, hC]
  have hS : firstNZ [firstNZ [firstNZ [(⟨m0, m1, m2, m3, m4, m5, m6, m7, m8, m9, m10, m11⟩ : TMod).err, (⟨⟨b0, b1, b2⟩, ⟨b3, b4, b5⟩⟩ : TBox).err], hitsE l], unl (canW (⟨m0, m1, m2, m3, m4, m5, m6, m7, m8, m9, m10, m11⟩ : TMod) (⟨⟨b0, b1, b2⟩, ⟨b3, b4, b5⟩⟩ : TBox)) 12] = 2 := by simp [firstNZ, unl, hA, hB, hD, hH, hC]
  have hln : l.length ≤ 1000000 := by omega
  repeat' with_reducible first
    | (refine And.intro rfl ?_)
    | (refine And.intro trivial ?_)
    | (refine And.intro n ?_)
    | (refine And.intro ⟨n, hln⟩ ?_)
    | (refine And.intro (by assumption) ?_)
    | (refine And.intro ⟨n, hd⟩ ?_)
    | (refine And.intro ⟨n, hE⟩ ?_)
    | (refine And.intro ⟨n, hS⟩ ?_)
    | (refine And.intro ⟨n, hH⟩ ?_)
    | (refine And.intro ⟨by assumption, by assumption⟩ ?_)
    | (refine lt_i ?_; intro _ _)
    | (refine cond_i (fun h => ?_) (fun h => ?_))
  all_goals first | exact LeD.refl _ | (exfalso; simp at h; done) | (refine leB ?_; simp; done)
theorem law_law05_TrackAnswers_D0H2f (m0 m1 m2 m3 m4 m5 m6 m7 m8 m9 m10 m11 : Int) (b0 b1 b2 b3 b4 b5 : Int) (q0 q1 q2 q3 : Int) (l : List THit) (hl : (l).length ≤ 14) (hA : ((⟨m0, m1, m2, m3, m4, m5, m6, m7, m8, m9, m10, m11⟩ : TMod)).err = 0) (hB : ((⟨⟨b0, b1, b2⟩, ⟨b3, b4, b5⟩⟩ : TBox)).err = 0) (hD : momE ⟨q0, q1, q2⟩ q3 = 0) (hH : hitsE l = 2) (hC : canW (⟨m0, m1, m2, m3, m4, m5, m6, m7, m8, m9, m10, m11⟩ : TMod) (⟨⟨b0, b1, b2⟩, ⟨b3, b4, b5⟩⟩ : TBox) = false) (W : World) (N : Nat → Prop) (vs : List Value) (h : All2 (RelD (RelF W N)) [.t (.a [.v (.int .i64 m0), .v (.int .i64 m1), .v (.int .i64 m2), .v (.int .i64 m3), .v (.int .i64 m4), .v (.int .i64 m5), .v (.int .i64 m6), .v (.int .i64 m7), .v (.int .i64 m8), .v (.int .i64 m9), .v (.int .i64 m10), .v (.int .i64 m11)]), .t (.a [.v (.int .i64 b0), .v (.int .i64 b1), .v (.int .i64 b2), .v (.int .i64 b3), .v (.int .i64 b4), .v (.int .i64 b5)]), .t (.a [.v (.int .i64 q0), .v (.int .i64 q1), .v (.int .i64 q2), .v (.int .i64 q3), .sl 5 l.length (hitsC l)])] vs) : Calls Try.prog 6 vs.toArray W fun e w' => e = .returned (.bool true) ∧ Below W.heap.size W w' :=
  law_end (fn_sound mixed tabOK VS88 (ann := ann_law05_TrackAnswers_D0H2f) ValidIt.no (fn := Try.f6) (J := fun _ _ _ => False) (by kernel_rfl) fit_law05_TrackAnswers_D0H2f (args := [.t (.a [.v (.int .i64 m0), .v (.int .i64 m1), .v (.int .i64 m2), .v (.int .i64 m3), .v (.int .i64 m4), .v (.int .i64 m5), .v (.int .i64 m6), .v (.int .i64 m7), .v (.int .i64 m8), .v (.int .i64 m9), .v (.int .i64 m10), .v (.int .i64 m11)]), .t (.a [.v (.int .i64 b0), .v (.int .i64 b1), .v (.int .i64 b2), .v (.int .i64 b3), .v (.int .i64 b4), .v (.int .i64 b5)]), .t (.a [.v (.int .i64 q0), .v (.int .i64 q1), .v (.int .i64 q2), .v (.int .i64 q3), .sl 5 l.length (hitsC l)])]) (post := (fun r => LeD r (.t (.c (.v (.bool true)))))) (by rw [ev_law05_TrackAnswers_D0H2f]; exact spec_law05_TrackAnswers_D0H2f m0 m1 m2 m3 m4 m5 m6 m7 m8 m9 m10 m11 b0 b1 b2 b3 b4 b5 q0 q1 q2 q3 l hl hA hB hD hH hC) (by rw [lp_law05_TrackAnswers_D0H2f]; trivial) (Nat.le_of_ble_eq_true (by kernel_rfl)) W N vs h)

def con_ref05_HitsErr_8 : Con := fun args => match args with
  | [.t (.c (.sl 5 n_l c_l))] => some (.t (.c (.v (.int .i64 8))), some (numsP 5 n_l c_l ∧ hitsE (listC n_l mkHit c_l) = 8), false)
  | _ => none
theorem ok_ref05_HitsErr_8 : Ok Try.prog 40 con_ref05_HitsErr_8 := by
  refine Ok.over ok_ref05_HitsErr fun args r pre fresh h hp => ?_
  unfold con_ref05_HitsErr_8 at h
  split at h
  · rename_i n_l c_l
    cases h
    have hq := hp.2
    (try simp only [okP] at hq)
    refine ⟨_, _, rfl, hp.1, ?_⟩
    simp_all
  · cases h
def S89 : Sum := addS S29 18 con_ref05_ModelErr_0
theorem VS89 : Valid Try.prog S89 := Valid.add VS29 ok_ref05_ModelErr_0
def S90 : Sum := addS S89 39 con_ref05_BoxErr_0
theorem VS90 : Valid Try.prog S90 := Valid.add VS89 ok_ref05_BoxErr_0
def S91 : Sum := addS S90 20 con_ref05_MomentErr_0
theorem VS91 : Valid Try.prog S91 := Valid.add VS90 ok_ref05_MomentErr_0
def S92 : Sum := addS S91 40 con_ref05_HitsErr_8
theorem VS92 : Valid Try.prog S92 := Valid.add VS91 ok_ref05_HitsErr_8
def S93 : Sum := addS S92 41 con_ref05_CanBe_t
theorem VS93 : Valid Try.prog S93 := Valid.add VS92 ok_ref05_CanBe_t
def S94 : Sum := addS S93 37 con_track_AnswerIn_ok
theorem VS94 : Valid Try.prog S94 := Valid.add VS93 ok_track_AnswerIn_ok
def S95 : Sum := addS S94 38 con_track_ScoresIn_e8
theorem VS95 : Valid Try.prog S95 := Valid.add VS94 ok_track_ScoresIn_e8
def S96 : Sum := addS S95 28 con_law05_few_t
theorem VS96 : Valid Try.prog S96 := Valid.add VS95 ok_law05_few_t
def vc_law05_TrackAnswers_D0H8t (m0 m1 m2 m3 m4 m5 m6 m7 m8 m9 m10 m11 : Int) (b0 b1 b2 b3 b4 b5 : Int) (q0 q1 q2 q3 : Int) (l : List THit) (post : DV → Prop) : Prop := (numsP 5 l.length (hitsC l) ∧ decide (((listC l.length mkHit (hitsC l))).length ≤ 14) = true) ∧ ((firstNZ [firstNZ [((⟨m0, m1, m2, m3, m4, m5, m6, m7, m8, m9, m10, m11⟩ : TMod)).err, ((⟨⟨b0, b1, b2⟩, ⟨b3, b4, b5⟩⟩ : TBox)).err], momE ⟨q0, q1, q2⟩ q3, unl (canW (⟨m0, m1, m2, m3, m4, m5, m6, m7, m8, m9, m10, m11⟩ : TMod) (⟨⟨b0, b1, b2⟩, ⟨b3, b4, b5⟩⟩ : TBox)) 12] = 0) ∧ ((numsP 5 l.length (hitsC l) ∧ ((listC l.length mkHit (hitsC l))).length ≤ 1000000) ∧ ((numsP 5 ((listC l.length mkHit (hitsC l)).length) (hitsC (listC l.length mkHit (hitsC l))) ∧ firstNZ [firstNZ [firstNZ [((⟨m0, m1, m2, m3, m4, m5, m6, m7, m8, m9, m10, m11⟩ : TMod)).err, ((⟨⟨b0, b1, b2⟩, ⟨b3, b4, b5⟩⟩ : TBox)).err], hitsE (listC ((listC l.length mkHit (hitsC l)).length) mkHit (hitsC (listC l.length mkHit (hitsC l))))], unl (canW (⟨m0, m1, m2, m3, m4, m5, m6, m7, m8, m9, m10, m11⟩ : TMod) (⟨⟨b0, b1, b2⟩, ⟨b3, b4, b5⟩⟩ : TBox)) 12] = 8) ∧ ((((⟨m0, m1, m2, m3, m4, m5, m6, m7, m8, m9, m10, m11⟩ : TMod)).err = 0) ∧ ((((⟨⟨b0, b1, b2⟩, ⟨b3, b4, b5⟩⟩ : TBox)).err = 0) ∧ ((momE ⟨q0, q1, q2⟩ q3 = 0) ∧ ((numsP 5 l.length (hitsC l) ∧ hitsE (listC l.length mkHit (hitsC l)) = 8) ∧ ((canW (⟨m0, m1, m2, m3, m4, m5, m6, m7, m8, m9, m10, m11⟩ : TMod) (⟨⟨b0, b1, b2⟩, ⟨b3, b4, b5⟩⟩ : TBox) = true) ∧ ((false = false) ∧ ((false = false) ∧ ((((⟨m0, m1, m2, m3, m4, m5, m6, m7, m8, m9, m10, m11⟩ : TMod)).Ok ∧ ((⟨⟨b0, b1, b2⟩, ⟨b3, b4, b5⟩⟩ : TBox)).lo.inS 20 = true ∧ ((⟨⟨b0, b1, b2⟩, ⟨b3, b4, b5⟩⟩ : TBox)).hi.inS 20 = true ∧ ((⟨m0, m1, m2, m3, m4, m5, m6, m7, m8, m9, m10, m11⟩ : TMod)).canBe (⟨⟨b0, b1, b2⟩, ⟨b3, b4, b5⟩⟩ : TBox) ∧ ((⟨q0, q1, q2⟩ : V3)).inS 1000 = true ∧ -1000101 ≤ q3 ∧ q3 ≤ 1000100) ∧ (cond ((((⟨m0, m1, m2, m3, m4, m5, m6, m7, m8, m9, m10, m11⟩ : TMod)).ans (⟨⟨b0, b1, b2⟩, ⟨b3, b4, b5⟩⟩ : TBox) ⟨q0, q1, q2⟩ q3) != (((⟨m0, m1, m2, m3, m4, m5, m6, m7, m8, m9, m10, m11⟩ : TMod)).ans (⟨⟨b0, b1, b2⟩, ⟨b3, b4, b5⟩⟩ : TBox) (⟨q0, q1, q2⟩ : V3) q3)) (post (.t (.c (.v (.bool false))))) (post (.t (.c (.v (.bool (bif true then (bif true then true else false) else false))))))))))))))))))
def ann_law05_TrackAnswers_D0H8t : Ann := ⟨fun r => lookA r [(6, ([[], [], [], [2], [2, 3], [0, 1, 2, 3, 4], [0, 1, 2, 3, 4, 5], [0, 1, 2, 3, 4, 5, 6], [0, 1, 2, 3, 4, 5, 6], [], [0, 1, 2, 3, 4, 5, 6, 7, 9], [0, 1, 2, 3, 4, 5, 6, 7, 8, 9, 10]], [[9], [9], [9], [9], [9], [9], [9], [9], [9], [], [], []])), (12, ([[], [0], [0, 1], [], [3], [0, 1, 2, 3, 4], [0, 1, 2, 3, 4, 5], [0, 1, 2, 3, 4, 5, 6]], [[], [], [], [], [], [], [], []])), (21, ([[], [0], [0, 1], [0, 1, 2], [0, 1, 2], [0, 1, 2], [0, 1, 2], [0, 1, 2, 6], [0, 1, 2, 4, 5, 6, 7], [0, 1, 2, 3, 4, 5, 6, 7, 8], [0, 1, 2, 3, 4, 5, 6, 7, 8, 9], [0, 1, 2, 3, 4, 5, 6, 7, 8, 9, 10]], [[], [], [], [], [], [], [], [], [], [], [], []]))], fun _ => none, fun _ => [], noIt⟩
theorem ev_law05_TrackAnswers_D0H8t (J : Inv) (m0 m1 m2 m3 m4 m5 m6 m7 m8 m9 m10 m11 : Int) (b0 b1 b2 b3 b4 b5 : Int) (q0 q1 q2 q3 : Int) (l : List THit) (post : DV → Prop) : evFn Try.prog tab S96 ann_law05_TrackAnswers_D0H8t J Try.f6 [.t (.a [.v (.int .i64 m0), .v (.int .i64 m1), .v (.int .i64 m2), .v (.int .i64 m3), .v (.int .i64 m4), .v (.int .i64 m5), .v (.int .i64 m6), .v (.int .i64 m7), .v (.int .i64 m8), .v (.int .i64 m9), .v (.int .i64 m10), .v (.int .i64 m11)]), .t (.a [.v (.int .i64 b0), .v (.int .i64 b1), .v (.int .i64 b2), .v (.int .i64 b3), .v (.int .i64 b4), .v (.int .i64 b5)]), .t (.a [.v (.int .i64 q0), .v (.int .i64 q1), .v (.int .i64 q2), .v (.int .i64 q3), .sl 5 l.length (hitsC l)])] post = vc_law05_TrackAnswers_D0H8t m0 m1 m2 m3 m4 m5 m6 m7 m8 m9 m10 m11 b0 b1 b2 b3 b4 b5 q0 q1 q2 q3 l post := by kernel_rfl
theorem fit_law05_TrackAnswers_D0H8t : okFn ann_law05_TrackAnswers_D0H8t Try.f6 = true := by kernel_rfl
theorem lp_law05_TrackAnswers_D0H8t (J : Inv) (post : DV → Prop) : AllG J (loopsFn Try.prog tab S96 ann_law05_TrackAnswers_D0H8t J Try.f6 post) = True := by kernel_rfl
theorem spec_law05_TrackAnswers_D0H8t (m0 m1 m2 m3 m4 m5 m6 m7 m8 m9 m10 m11 : Int) (b0 b1 b2 b3 b4 b5 : Int) (q0 q1 q2 q3 : Int) (l : List THit) (hl : (l).length ≤ 14) (hA : ((⟨m0, m1, m2, m3, m4, m5, m6, m7, m8, m9, m10, m11⟩ : TMod)).err = 0) (hB : ((⟨⟨b0, b1, b2⟩, ⟨b3, b4, b5⟩⟩ : TBox)).err = 0) (hD : momE ⟨q0, q1, q2⟩ q3 = 0) (hH : hitsE l = 8) (hC : canW (⟨m0, m1, m2, m3, m4, m5, m6, m7, m8, m9, m10, m11⟩ : TMod) (⟨⟨b0, b1, b2⟩, ⟨b3, b4, b5⟩⟩ : TBox) = true) : vc_law05_TrackAnswers_D0H8t m0 m1 m2 m3 m4 m5 m6 m7 m8 m9 m10 m11 b0 b1 b2 b3 b4 b5 q0 q1 q2 q3 l (fun r => LeD r (.t (.c (.v (.bool true))))) := by
  unfold vc_law05_TrackAnswers_D0H8t
  simp only [hits_listC]
  have hd : decide (l.length ≤ 14) = true := decide_eq_true hl
  have n := numsP_hits l
  have hE : firstNZ [firstNZ [(⟨m0, m1, m2, m3, m4, m5, m6, m7, m8, m9, m10, m11⟩ : TMod).err, (⟨⟨b0, b1, b2⟩, ⟨b3, b4, b5⟩⟩ : TBox).err], momE ⟨q0, q1, q2⟩ q3, unl (canW (⟨m0, m1, m2, m3, m4, m5, m6, m7, m8, m9, m10, m11⟩ : TMod) (⟨⟨b0, b1, b2⟩, ⟨b3, b4, b5⟩⟩ : TBox)) 12] = 0 := by simp [firstNZ, unl, hA, hB, hD, hH, hC]
  have hS : firstNZ [firstNZ [firstNZ [(⟨m0, m1, m2, m3, m4, m5, m6, m7, m8, m9, m10, m11⟩ : TMod).err, (⟨⟨b0, b1, b2⟩, ⟨b3, b4, b5⟩⟩ : TBox).err], hitsE l], unl (canW (⟨m0, m1, m2, m3, m4, m5, m6, m7, m8, m9, m10, m11⟩ : TMod) (⟨⟨b0, b1, b2⟩, ⟨b3, b4, b5⟩⟩ : TBox)) 12] = 8 := by simp [firstNZ, unl, hA, hB, hD, hH, hC]
  have hP1 : ((⟨m0, m1, m2, m3, m4, m5, m6, m7, m8, m9, m10, m11⟩ : TMod).Ok ∧ (⟨⟨b0, b1, b2⟩, ⟨b3, b4, b5⟩⟩ : TBox).lo.inS 20 = true ∧ (⟨⟨b0, b1, b2⟩, ⟨b3, b4, b5⟩⟩ : TBox).hi.inS 20 = true ∧ (⟨m0, m1, m2, m3, m4, m5, m6, m7, m8, m9, m10, m11⟩ : TMod).canBe (⟨⟨b0, b1, b2⟩, ⟨b3, b4, b5⟩⟩ : TBox) ∧ (⟨q0, q1, q2⟩ : V3).inS 1000 = true ∧ -1000101 ≤ q3 ∧ q3 ≤ 1000100) := by
    have hb := box_in hB
    rw [canW_eq hb.1 hb.2] at hC
    exact ⟨err_ok hA, hb.1, hb.2, canB_iff.1 hC, mom_ok hD⟩
  simp only at hP1
  have hln : l.length ≤ 1000000 := by omega
  repeat' with_reducible first
    | (refine And.intro rfl ?_)
    | (refine And.intro trivial ?_)
    | (refine And.intro n ?_)
    | (refine And.intro ⟨n, hln⟩ ?_)
    | (refine And.intro (by assumption) ?_)
    | (refine And.intro ⟨n, hd⟩ ?_)
    | (refine And.intro ⟨n, hE⟩ ?_)
    | (refine And.intro ⟨n, hS⟩ ?_)
    | (refine And.intro ⟨n, hH⟩ ?_)
    | (refine And.intro ⟨by assumption, by assumption⟩ ?_)
    | (refine lt_i ?_; intro _ _)
    | (refine cond_i (fun h => ?_) (fun h => ?_))
  all_goals first | exact LeD.refl _ | (exfalso; simp at h; done) | (refine leB ?_; simp; done)
theorem law_law05_TrackAnswers_D0H8t (m0 m1 m2 m3 m4 m5 m6 m7 m8 m9 m10 m11 : Int) (b0 b1 b2 b3 b4 b5 : Int) (q0 q1 q2 q3 : Int) (l : List THit) (hl : (l).length ≤ 14) (hA : ((⟨m0, m1, m2, m3, m4, m5, m6, m7, m8, m9, m10, m11⟩ : TMod)).err = 0) (hB : ((⟨⟨b0, b1, b2⟩, ⟨b3, b4, b5⟩⟩ : TBox)).err = 0) (hD : momE ⟨q0, q1, q2⟩ q3 = 0) (hH : hitsE l = 8) (hC : canW (⟨m0, m1, m2, m3, m4, m5, m6, m7, m8, m9, m10, m11⟩ : TMod) (⟨⟨b0, b1, b2⟩, ⟨b3, b4, b5⟩⟩ : TBox) = true) (W : World) (N : Nat → Prop) (vs : List Value) (h : All2 (RelD (RelF W N)) [.t (.a [.v (.int .i64 m0), .v (.int .i64 m1), .v (.int .i64 m2), .v (.int .i64 m3), .v (.int .i64 m4), .v (.int .i64 m5), .v (.int .i64 m6), .v (.int .i64 m7), .v (.int .i64 m8), .v (.int .i64 m9), .v (.int .i64 m10), .v (.int .i64 m11)]), .t (.a [.v (.int .i64 b0), .v (.int .i64 b1), .v (.int .i64 b2), .v (.int .i64 b3), .v (.int .i64 b4), .v (.int .i64 b5)]), .t (.a [.v (.int .i64 q0), .v (.int .i64 q1), .v (.int .i64 q2), .v (.int .i64 q3), .sl 5 l.length (hitsC l)])] vs) : Calls Try.prog 6 vs.toArray W fun e w' => e = .returned (.bool true) ∧ Below W.heap.size W w' :=
  law_end (fn_sound mixed tabOK VS96 (ann := ann_law05_TrackAnswers_D0H8t) ValidIt.no (fn := Try.f6) (J := fun _ _ _ => False) (by kernel_rfl) fit_law05_TrackAnswers_D0H8t (args := [.t (.a [.v (.int .i64 m0), .v (.int .i64 m1), .v (.int .i64 m2), .v (.int .i64 m3), .v (.int .i64 m4), .v (.int .i64 m5), .v (.int .i64 m6), .v (.int .i64 m7), .v (.int .i64 m8), .v (.int .i64 m9), .v (.int .i64 m10), .v (.int .i64 m11)]), .t (.a [.v (.int .i64 b0), .v (.int .i64 b1), .v (.int .i64 b2), .v (.int .i64 b3), .v (.int .i64 b4), .v (.int .i64 b5)]), .t (.a [.v (.int .i64 q0), .v (.int .i64 q1), .v (.int .i64 q2), .v (.int .i64 q3), .sl 5 l.length (hitsC l)])]) (post := (fun r => LeD r (.t (.c (.v (.bool true)))))) (by rw [ev_law05_TrackAnswers_D0H8t]; exact spec_law05_TrackAnswers_D0H8t m0 m1 m2 m3 m4 m5 m6 m7 m8 m9 m10 m11 b0 b1 b2 b3 b4 b5 q0 q1 q2 q3 l hl hA hB hD hH hC) (by rw [lp_law05_TrackAnswers_D0H8t]; trivial) (Nat.le_of_ble_eq_true (by kernel_rfl)) W N vs h)

def S97 : Sum := addS S29 18 con_ref05_ModelErr_0
theorem VS97 : Valid Try.prog S97 := Valid.add VS29 ok_ref05_ModelErr_0
def S98 : Sum := addS S97 39 con_ref05_BoxErr_0
theorem VS98 : Valid Try.prog S98 := Valid.add VS97 ok_ref05_BoxErr_0
def S99 : Sum := addS S98 20 con_ref05_MomentErr_0
theorem VS99 : Valid Try.prog S99 := Valid.add VS98 ok_ref05_MomentErr_0
def S100 : Sum := addS S99 40 con_ref05_HitsErr_8
theorem VS100 : Valid Try.prog S100 := Valid.add VS99 ok_ref05_HitsErr_8
def S101 : Sum := addS S100 41 con_ref05_CanBe_f
theorem VS101 : Valid Try.prog S101 := Valid.add VS100 ok_ref05_CanBe_f
def S102 : Sum := addS S101 37 con_track_AnswerIn_e12
theorem VS102 : Valid Try.prog S102 := Valid.add VS101 ok_track_AnswerIn_e12
def S103 : Sum := addS S102 38 con_track_ScoresIn_e8
theorem VS103 : Valid Try.prog S103 := Valid.add VS102 ok_track_ScoresIn_e8
def S104 : Sum := addS S103 28 con_law05_few_t
theorem VS104 : Valid Try.prog S104 := Valid.add VS103 ok_law05_few_t
def vc_law05_TrackAnswers_D0H8f (m0 m1 m2 m3 m4 m5 m6 m7 m8 m9 m10 m11 : Int) (b0 b1 b2 b3 b4 b5 : Int) (q0 q1 q2 q3 : Int) (l : List THit) (post : DV → Prop) : Prop := (numsP 5 l.length (hitsC l) ∧ decide (((listC l.length mkHit (hitsC l))).length ≤ 14) = true) ∧ ((firstNZ [firstNZ [((⟨m0, m1, m2, m3, m4, m5, m6, m7, m8, m9, m10, m11⟩ : TMod)).err, ((⟨⟨b0, b1, b2⟩, ⟨b3, b4, b5⟩⟩ : TBox)).err], momE ⟨q0, q1, q2⟩ q3, unl (canW (⟨m0, m1, m2, m3, m4, m5, m6, m7, m8, m9, m10, m11⟩ : TMod) (⟨⟨b0, b1, b2⟩, ⟨b3, b4, b5⟩⟩ : TBox)) 12] = 12) ∧ ((numsP 5 l.length (hitsC l) ∧ ((listC l.length mkHit (hitsC l))).length ≤ 1000000) ∧ ((numsP 5 ((listC l.length mkHit (hitsC l)).length) (hitsC (listC l.length mkHit (hitsC l))) ∧ firstNZ [firstNZ [firstNZ [((⟨m0, m1, m2, m3, m4, m5, m6, m7, m8, m9, m10, m11⟩ : TMod)).err, ((⟨⟨b0, b1, b2⟩, ⟨b3, b4, b5⟩⟩ : TBox)).err], hitsE (listC ((listC l.length mkHit (hitsC l)).length) mkHit (hitsC (listC l.length mkHit (hitsC l))))], unl (canW (⟨m0, m1, m2, m3, m4, m5, m6, m7, m8, m9, m10, m11⟩ : TMod) (⟨⟨b0, b1, b2⟩, ⟨b3, b4, b5⟩⟩ : TBox)) 12] = 8) ∧ ((((⟨m0, m1, m2, m3, m4, m5, m6, m7, m8, m9, m10, m11⟩ : TMod)).err = 0) ∧ ((((⟨⟨b0, b1, b2⟩, ⟨b3, b4, b5⟩⟩ : TBox)).err = 0) ∧ ((momE ⟨q0, q1, q2⟩ q3 = 0) ∧ ((numsP 5 l.length (hitsC l) ∧ hitsE (listC l.length mkHit (hitsC l)) = 8) ∧ ((canW (⟨m0, m1, m2, m3, m4, m5, m6, m7, m8, m9, m10, m11⟩ : TMod) (⟨⟨b0, b1, b2⟩, ⟨b3, b4, b5⟩⟩ : TBox) = false) ∧ ((false = false) ∧ ((false = false) ∧ (post (.t (.c (.v (.bool (bif true then (bif true then true else false) else false))))))))))))))))
def ann_law05_TrackAnswers_D0H8f : Ann := ⟨fun r => lookA r [(6, ([[], [], [], [2], [2, 3], [0, 1, 2, 3, 4], [0, 1, 2, 3, 4, 5], [0, 1, 2, 3, 4, 5, 6], [0, 1, 2, 3, 4, 5, 6], [], [0, 1, 2, 3, 4, 5, 6, 7, 9], [0, 1, 2, 3, 4, 5, 6, 7, 8, 9, 10]], [[9], [9], [9], [9], [9], [9], [9], [9], [9], [], [], []])), (12, ([[], [0], [0, 1], [], [3], [0, 1, 2, 3, 4], [0, 1, 2, 3, 4, 5], [0, 1, 2, 3, 4, 5, 6]], [[], [], [], [], [], [], [], []])), (21, ([[], [0], [0, 1], [0, 1, 2], [0, 1, 2], [0, 1, 2], [0, 1, 2], [0, 1, 2, 6], [0, 1, 2, 4, 5, 6, 7], [0, 1, 2, 3, 4, 5, 6, 7, 8], [0, 1, 2, 3, 4, 5, 6, 7, 8, 9], [0, 1, 2, 3, 4, 5, 6, 7, 8, 9, 10]], [[], [], [], [], [], [], [], [], [], [], [], []]))], fun _ => none, fun _ => [], noIt⟩
theorem ev_law05_TrackAnswers_D0H8f (J : Inv) (m0 m1 m2 m3 m4 m5 m6 m7 m8 m9 m10 m11 : Int) (b0 b1 b2 b3 b4 b5 : Int) (q0 q1 q2 q3 : Int) (l : List THit) (post : DV → Prop) : evFn Try.prog tab S104 ann_law05_TrackAnswers_D0H8f J Try.f6 [.t (.a [.v (.int .i64 m0), .v (.int .i64 m1), .v (.int .i64 m2), .v (.int .i64 m3), .v (.int .i64 m4), .v (.int .i64 m5), .v (.int .i64 m6), .v (.int .i64 m7), .v (.int .i64 m8), .v (.int .i64 m9), .v (.int .i64 m10), .v (.int .i64 m11)]), .t (.a [.v (.int .i64 b0), .v (.int .i64 b1), .v (.int .i64 b2), .v (.int .i64 b3), .v (.int .i64 b4), .v (.int .i64 b5)]), .t (.a [.v (.int .i64 q0), .v (.int .i64 q1), .v (.int .i64 q2), .v (.int .i64 q3), .sl 5 l.length (hitsC l)])] post = vc_law05_TrackAnswers_D0H8f m0 m1 m2 m3 m4 m5 m6 m7 m8 m9 m10 m11 b0 b1 b2 b3 b4 b5 q0 q1 q2 q3 l post := by kernel_rfl
theorem fit_law05_TrackAnswers_D0H8f : okFn ann_law05_TrackAnswers_D0H8f Try.f6 = true := by kernel_rfl
theorem lp_law05_TrackAnswers_D0H8f (J : Inv) (post : DV → Prop) : AllG J (loopsFn Try.prog tab S104 ann_law05_TrackAnswers_D0H8f J Try.f6 post) = True := by kernel_rfl
theorem spec_law05_TrackAnswers_D0H8f (m0 m1 m2 m3 m4 m5 m6 m7 m8 m9 m10 m11 : Int) (b0 b1 b2 b3 b4 b5 : Int) (q0 q1 q2 q3 : Int) (l : List THit) (hl : (l).length ≤ 14) (hA : ((⟨m0, m1, m2, m3, m4, m5, m6, m7, m8, m9, m10, m11⟩ : TMod)).err = 0) (hB : ((⟨⟨b0, b1, b2⟩, ⟨b3, b4, b5⟩⟩ : TBox)).err = 0) (hD : momE ⟨q0, q1, q2⟩ q3 = 0) (hH : hitsE l = 8) (hC : canW (⟨m0, m1, m2, m3, m4, m5, m6, m7, m8, m9, m10, m11⟩ : TMod) (⟨⟨b0, b1, b2⟩, ⟨b3, b4, b5⟩⟩ : TBox) = false) : vc_law05_TrackAnswers_D0H8f m0 m1 m2 m3 m4 m5 m6 m7 m8 m9 m10 m11 b0 b1 b2 b3 b4 b5 q0 q1 q2 q3 l (fun r => LeD r (.t (.c (.v (.bool true))))) := by
  unfold vc_law05_TrackAnswers_D0H8f
  simp only [hits_listC]
  have hd : decide (l.length ≤ 14) = true := decide_eq_true hl
  have n := numsP_hits l
  have hE : firstNZ [firstNZ [(⟨m0, m1, m2, m3, m4, m5, m6, m7, m8, m9, m10, m11⟩ : TMod).err, (⟨⟨b0, b1, b2⟩, ⟨b3, b4, b5⟩⟩ : TBox).err], momE ⟨q0, q1, q2⟩ q3, unl (canW (⟨m0, m1, m2, m3, m4, m5, m6, m7, m8, m9, m10, m11⟩ : TMod) (⟨⟨b0, b1, b2⟩, ⟨b3, b4, b5⟩⟩ : TBox)) 12] = 12 := by simp [firstNZ, unl, hA, hB, hD, hH, hC]
  have hS : firstNZ [firstNZ [firstNZ [(⟨m0, m1, m2, m3, m4, m5, m6, m7, m8, m9, m10, m11⟩ : TMod).err, (⟨⟨b0, b1, b2⟩, ⟨b3, b4, b5⟩⟩ : TBox).err], hitsE l], unl (canW (⟨m0, m1, m2, m3, m4, m5, m6, m7, m8, m9, m10, m11⟩ : TMod) (⟨⟨b0, b1, b2⟩, ⟨b3, b4, b5⟩⟩ : TBox)) 12] = 8 := by simp [firstNZ, unl, hA, hB, hD, hH, hC]
  have hln : l.length ≤ 1000000 := by omega
  repeat' with_reducible first
    | (refine And.intro rfl ?_)
    | (refine And.intro trivial ?_)
    | (refine And.intro n ?_)
    | (refine And.intro ⟨n, hln⟩ ?_)
    | (refine And.intro (by assumption) ?_)
    | (refine And.intro ⟨n, hd⟩ ?_)
    | (refine And.intro ⟨n, hE⟩ ?_)
    | (refine And.intro ⟨n, hS⟩ ?_)
    | (refine And.intro ⟨n, hH⟩ ?_)
    | (refine And.intro ⟨by assumption, by assumption⟩ ?_)
    | (refine lt_i ?_; intro _ _)
    | (refine cond_i (fun h => ?_) (fun h => ?_))
  all_goals first | exact LeD.refl _ | (exfalso; simp at h; done) | (refine leB ?_; simp; done)
theorem law_law05_TrackAnswers_D0H8f (m0 m1 m2 m3 m4 m5 m6 m7 m8 m9 m10 m11 : Int) (b0 b1 b2 b3 b4 b5 : Int) (q0 q1 q2 q3 : Int) (l : List THit) (hl : (l).length ≤ 14) (hA : ((⟨m0, m1, m2, m3, m4, m5, m6, m7, m8, m9, m10, m11⟩ : TMod)).err = 0) (hB : ((⟨⟨b0, b1, b2⟩, ⟨b3, b4, b5⟩⟩ : TBox)).err = 0) (hD : momE ⟨q0, q1, q2⟩ q3 = 0) (hH : hitsE l = 8) (hC : canW (⟨m0, m1, m2, m3, m4, m5, m6, m7, m8, m9, m10, m11⟩ : TMod) (⟨⟨b0, b1, b2⟩, ⟨b3, b4, b5⟩⟩ : TBox) = false) (W : World) (N : Nat → Prop) (vs : List Value) (h : All2 (RelD (RelF W N)) [.t (.a [.v (.int .i64 m0), .v (.int .i64 m1), .v (.int .i64 m2), .v (.int .i64 m3), .v (.int .i64 m4), .v (.int .i64 m5), .v (.int .i64 m6), .v (.int .i64 m7), .v (.int .i64 m8), .v (.int .i64 m9), .v (.int .i64 m10), .v (.int .i64 m11)]), .t (.a [.v (.int .i64 b0), .v (.int .i64 b1), .v (.int .i64 b2), .v (.int .i64 b3), .v (.int .i64 b4), .v (.int .i64 b5)]), .t (.a [.v (.int .i64 q0), .v (.int .i64 q1), .v (.int .i64 q2), .v (.int .i64 q3), .sl 5 l.length (hitsC l)])] vs) : Calls Try.prog 6 vs.toArray W fun e w' => e = .returned (.bool true) ∧ Below W.heap.size W w' :=
  law_end (fn_sound mixed tabOK VS104 (ann := ann_law05_TrackAnswers_D0H8f) ValidIt.no (fn := Try.f6) (J := fun _ _ _ => False) (by kernel_rfl) fit_law05_TrackAnswers_D0H8f (args := [.t (.a [.v (.int .i64 m0), .v (.int .i64 m1), .v (.int .i64 m2), .v (.int .i64 m3), .v (.int .i64 m4), .v (.int .i64 m5), .v (.int .i64 m6), .v (.int .i64 m7), .v (.int .i64 m8), .v (.int .i64 m9), .v (.int .i64 m10), .v (.int .i64 m11)]), .t (.a [.v (.int .i64 b0), .v (.int .i64 b1), .v (.int .i64 b2), .v (.int .i64 b3), .v (.int .i64 b4), .v (.int .i64 b5)]), .t (.a [.v (.int .i64 q0), .v (.int .i64 q1), .v (.int .i64 q2), .v (.int .i64 q3), .sl 5 l.length (hitsC l)])]) (post := (fun r => LeD r (.t (.c (.v (.bool true)))))) (by rw [ev_law05_TrackAnswers_D0H8f]; exact spec_law05_TrackAnswers_D0H8f m0 m1 m2 m3 m4 m5 m6 m7 m8 m9 m10 m11 b0 b1 b2 b3 b4 b5 q0 q1 q2 q3 l hl hA hB hD hH hC) (by rw [lp_law05_TrackAnswers_D0H8f]; trivial) (Nat.le_of_ble_eq_true (by kernel_rfl)) W N vs h)

end Go.Proofs.Ytlmdmpjfehpjeaa
