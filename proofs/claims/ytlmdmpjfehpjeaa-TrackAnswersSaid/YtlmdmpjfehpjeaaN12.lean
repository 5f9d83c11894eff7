/- Texts of this claim, together. -/
import Derived.Test.YtlmdmpjfehpjeaaN11

/- Tracks, by the checker: the law of answers, cases. -/
set_option linter.unusedVariables false
set_option linter.unusedSimpArgs false
namespace Go.Proofs.Ytlmdmpjfehpjeaa
open Go.RowKit Ev

def con_ref05_ModelErr_2 : Con := fun args => match args with
  | [.t (.a [.v (.int .i64 m0), .v (.int .i64 m1), .v (.int .i64 m2), .v (.int .i64 m3), .v (.int .i64 m4), .v (.int .i64 m5), .v (.int .i64 m6), .v (.int .i64 m7), .v (.int .i64 m8), .v (.int .i64 m9), .v (.int .i64 m10), .v (.int .i64 m11)])] => some (.t (.c (.v (.int .i64 2))), some (((⟨m0, m1, m2, m3, m4, m5, m6, m7, m8, m9, m10, m11⟩ : TMod)).err = 2), false)
  | _ => none
theorem ok_ref05_ModelErr_2 : Ok Try.prog 18 con_ref05_ModelErr_2 := by
  refine Ok.over ok_ref05_ModelErr fun args r pre fresh h hp => ?_
  unfold con_ref05_ModelErr_2 at h
  split at h
  · rename_i m0 m1 m2 m3 m4 m5 m6 m7 m8 m9 m10 m11
    cases h
    have hq := hp
    (try simp only [okP] at hq)
    refine ⟨_, _, rfl, trivial, ?_⟩
    simp_all
  · cases h
def con_track_AnswerIn_e2 : Con := fun args => match args with
  | [.t (.a [.v (.int .i64 m0), .v (.int .i64 m1), .v (.int .i64 m2), .v (.int .i64 m3), .v (.int .i64 m4), .v (.int .i64 m5), .v (.int .i64 m6), .v (.int .i64 m7), .v (.int .i64 m8), .v (.int .i64 m9), .v (.int .i64 m10), .v (.int .i64 m11)]), .t (.a [.v (.int .i64 b0), .v (.int .i64 b1), .v (.int .i64 b2), .v (.int .i64 b3), .v (.int .i64 b4), .v (.int .i64 b5)]), .t (.a [.v (.int .i64 p0), .v (.int .i64 p1), .v (.int .i64 p2), .v (.int .i64 p3)])] => some (.tu [.c (.v (.int .i64 0)), .c (.v (.int .i64 2))], some (firstNZ [firstNZ [((⟨m0, m1, m2, m3, m4, m5, m6, m7, m8, m9, m10, m11⟩ : TMod)).err, ((⟨⟨b0, b1, b2⟩, ⟨b3, b4, b5⟩⟩ : TBox)).err], momE ⟨p0, p1, p2⟩ p3, unl (canW (⟨m0, m1, m2, m3, m4, m5, m6, m7, m8, m9, m10, m11⟩ : TMod) (⟨⟨b0, b1, b2⟩, ⟨b3, b4, b5⟩⟩ : TBox)) 12] = 2), false)
  | _ => none
theorem ok_track_AnswerIn_e2 : Ok Try.prog 37 con_track_AnswerIn_e2 := by
  refine Ok.over ok_track_AnswerIn fun args r pre fresh h hp => ?_
  unfold con_track_AnswerIn_e2 at h
  split at h
  · rename_i m0 m1 m2 m3 m4 m5 m6 m7 m8 m9 m10 m11 b0 b1 b2 b3 b4 b5 p0 p1 p2 p3
    cases h
    have hq := hp
    (try simp only [okP] at hq)
    refine ⟨_, _, rfl, trivial, ?_⟩
    simp_all
  · cases h
def con_track_ScoresIn_e2 : Con := fun args => match args with
  | [.t (.a [.v (.int .i64 m0), .v (.int .i64 m1), .v (.int .i64 m2), .v (.int .i64 m3), .v (.int .i64 m4), .v (.int .i64 m5), .v (.int .i64 m6), .v (.int .i64 m7), .v (.int .i64 m8), .v (.int .i64 m9), .v (.int .i64 m10), .v (.int .i64 m11)]), .t (.a [.v (.int .i64 b0), .v (.int .i64 b1), .v (.int .i64 b2), .v (.int .i64 b3), .v (.int .i64 b4), .v (.int .i64 b5)]), .t (.c (.sl 5 n_l c_l))] => some (.tu [.a [.v (.int .i64 0), .v (.int .i64 0)], .c (.v (.int .i64 2))], some (numsP 5 n_l c_l ∧ firstNZ [firstNZ [firstNZ [((⟨m0, m1, m2, m3, m4, m5, m6, m7, m8, m9, m10, m11⟩ : TMod)).err, ((⟨⟨b0, b1, b2⟩, ⟨b3, b4, b5⟩⟩ : TBox)).err], hitsE (listC n_l mkHit c_l)], unl (canW (⟨m0, m1, m2, m3, m4, m5, m6, m7, m8, m9, m10, m11⟩ : TMod) (⟨⟨b0, b1, b2⟩, ⟨b3, b4, b5⟩⟩ : TBox)) 12] = 2), false)
  | _ => none
theorem ok_track_ScoresIn_e2 : Ok Try.prog 38 con_track_ScoresIn_e2 := by
  refine Ok.over ok_track_ScoresIn fun args r pre fresh h hp => ?_
  unfold con_track_ScoresIn_e2 at h
  split at h
  · rename_i m0 m1 m2 m3 m4 m5 m6 m7 m8 m9 m10 m11 b0 b1 b2 b3 b4 b5 n_l c_l
    cases h
    have hq := hp.2
    (try simp only [okP] at hq)
    refine ⟨_, _, rfl, hp.1, ?_⟩
    simp_all
  · cases h
def S30 : Sum := addS S29 18 con_ref05_ModelErr_2
theorem VS30 : Valid Try.prog S30 := Valid.add VS29 ok_ref05_ModelErr_2
def S31 : Sum := addS S30 37 con_track_AnswerIn_e2
theorem VS31 : Valid Try.prog S31 := Valid.add VS30 ok_track_AnswerIn_e2
def S32 : Sum := addS S31 38 con_track_ScoresIn_e2
theorem VS32 : Valid Try.prog S32 := Valid.add VS31 ok_track_ScoresIn_e2
def S33 : Sum := addS S32 28 con_law05_few_t
theorem VS33 : Valid Try.prog S33 := Valid.add VS32 ok_law05_few_t
def vc_law05_TrackAnswers_A2 (m0 m1 m2 m3 m4 m5 m6 m7 m8 m9 m10 m11 : Int) (b0 b1 b2 b3 b4 b5 : Int) (q0 q1 q2 q3 : Int) (l : List THit) (post : DV → Prop) : Prop := (numsP 5 l.length (hitsC l) ∧ decide (((listC l.length mkHit (hitsC l))).length ≤ 14) = true) ∧ ((firstNZ [firstNZ [((⟨m0, m1, m2, m3, m4, m5, m6, m7, m8, m9, m10, m11⟩ : TMod)).err, ((⟨⟨b0, b1, b2⟩, ⟨b3, b4, b5⟩⟩ : TBox)).err], momE ⟨q0, q1, q2⟩ q3, unl (canW (⟨m0, m1, m2, m3, m4, m5, m6, m7, m8, m9, m10, m11⟩ : TMod) (⟨⟨b0, b1, b2⟩, ⟨b3, b4, b5⟩⟩ : TBox)) 12] = 2) ∧ ((numsP 5 l.length (hitsC l) ∧ ((listC l.length mkHit (hitsC l))).length ≤ 1000000) ∧ ((numsP 5 ((listC l.length mkHit (hitsC l)).length) (hitsC (listC l.length mkHit (hitsC l))) ∧ firstNZ [firstNZ [firstNZ [((⟨m0, m1, m2, m3, m4, m5, m6, m7, m8, m9, m10, m11⟩ : TMod)).err, ((⟨⟨b0, b1, b2⟩, ⟨b3, b4, b5⟩⟩ : TBox)).err], hitsE (listC ((listC l.length mkHit (hitsC l)).length) mkHit (hitsC (listC l.length mkHit (hitsC l))))], unl (canW (⟨m0, m1, m2, m3, m4, m5, m6, m7, m8, m9, m10, m11⟩ : TMod) (⟨⟨b0, b1, b2⟩, ⟨b3, b4, b5⟩⟩ : TBox)) 12] = 2) ∧ ((((⟨m0, m1, m2, m3, m4, m5, m6, m7, m8, m9, m10, m11⟩ : TMod)).err = 2) ∧ ((false = false) ∧ (post (.t (.c (.v (.bool (bif true then (bif true then true else false) else false)))))))))))
def ann_law05_TrackAnswers_A2 : Ann := ⟨fun r => lookA r [(6, ([[], [], [], [2], [2, 3], [0, 1, 2, 3, 4], [0, 1, 2, 3, 4, 5], [0, 1, 2, 3, 4, 5, 6], [0, 1, 2, 3, 4, 5, 6], [], [0, 1, 2, 3, 4, 5, 6, 7, 9], [0, 1, 2, 3, 4, 5, 6, 7, 8, 9, 10]], [[9], [9], [9], [9], [9], [9], [9], [9], [9], [], [], []])), (12, ([[], [0], [0, 1], [], [3], [0, 1, 2, 3, 4], [0, 1, 2, 3, 4, 5], [0, 1, 2, 3, 4, 5, 6]], [[], [], [], [], [], [], [], []])), (21, ([[], [0], [0, 1], [0, 1, 2], [0, 1, 2], [0, 1, 2], [0, 1, 2], [0, 1, 2, 6], [0, 1, 2, 4, 5, 6, 7], [0, 1, 2, 3, 4, 5, 6, 7, 8], [0, 1, 2, 3, 4, 5, 6, 7, 8, 9], [0, 1, 2, 3, 4, 5, 6, 7, 8, 9, 10]], [[], [], [], [], [], [], [], [], [], [], [], []]))], fun _ => none, fun _ => [], noIt⟩
theorem ev_law05_TrackAnswers_A2 (J : Inv) (m0 m1 m2 m3 m4 m5 m6 m7 m8 m9 m10 m11 : Int) (b0 b1 b2 b3 b4 b5 : Int) (q0 q1 q2 q3 : Int) (l : List THit) (post : DV → Prop) : evFn Try.prog tab S33 ann_law05_TrackAnswers_A2 J Try.f6 [.t (.a [.v (.int .i64 m0), .v (.int .i64 m1), .v (.int .i64 m2), .v (.int .i64 m3), .v (.int .i64 m4), .v (.int .i64 m5), .v (.int .i64 m6), .v (.int .i64 m7), .v (.int .i64 m8), .v (.int .i64 m9), .v (.int .i64 m10), .v (.int .i64 m11)]), .t (.a [.v (.int .i64 b0), .v (.int .i64 b1), .v (.int .i64 b2), .v (.int .i64 b3), .v (.int .i64 b4), .v (.int .i64 b5)]), .t (.a [.v (.int .i64 q0), .v (.int .i64 q1), .v (.int .i64 q2), .v (.int .i64 q3), .sl 5 l.length (hitsC l)])] post = vc_law05_TrackAnswers_A2 m0 m1 m2 m3 m4 m5 m6 m7 m8 m9 m10 m11 b0 b1 b2 b3 b4 b5 q0 q1 q2 q3 l post := by kernel_rfl
theorem fit_law05_TrackAnswers_A2 : okFn ann_law05_TrackAnswers_A2 Try.f6 = true := by kernel_rfl
theorem lp_law05_TrackAnswers_A2 (J : Inv) (post : DV → Prop) : AllG J (loopsFn Try.prog tab S33 ann_law05_TrackAnswers_A2 J Try.f6 post) = True := by kernel_rfl
theorem spec_law05_TrackAnswers_A2 (m0 m1 m2 m3 m4 m5 m6 m7 m8 m9 m10 m11 : Int) (b0 b1 b2 b3 b4 b5 : Int) (q0 q1 q2 q3 : Int) (l : List THit) (hl : (l).length ≤ 14) (hA : ((⟨m0, m1, m2, m3, m4, m5, m6, m7, m8, m9, m10, m11⟩ : TMod)).err = 2) : vc_law05_TrackAnswers_A2 m0 m1 m2 m3 m4 m5 m6 m7 m8 m9 m10 m11 b0 b1 b2 b3 b4 b5 q0 q1 q2 q3 l (fun r => LeD r (.t (.c (.v (.bool true))))) := by
  unfold vc_law05_TrackAnswers_A2
  simp only [hits_listC]
  have hd : decide (l.length ≤ 14) = true := decide_eq_true hl
  have n := numsP_hits l
  have hE : firstNZ [firstNZ [(⟨m0, m1, m2, m3, m4, m5, m6, m7, m8, m9, m10, m11⟩ : TMod).err, (⟨⟨b0, b1, b2⟩, ⟨b3, b4, b5⟩⟩ : TBox).err], momE ⟨q0, q1, q2⟩ q3, unl (canW (⟨m0, m1, m2, m3, m4, m5, m6, m7, m8, m9, m10, m11⟩ : TMod) (⟨⟨b0, b1, b2⟩, ⟨b3, b4, b5⟩⟩ : TBox)) 12] = 2 := by simp [firstNZ, unl, hA]
  have hS : firstNZ [firstNZ [firstNZ [(⟨m0, m1, m2, m3, m4, m5, m6, m7, m8, m9, m10, m11⟩ : TMod).err, (⟨⟨b0, b1, b2⟩, ⟨b3, b4, b5⟩⟩ : TBox).err], hitsE l], unl (canW (⟨m0, m1, m2, m3, m4, m5, m6, m7, m8, m9, m10, m11⟩ : TMod) (⟨⟨b0, b1, b2⟩, ⟨b3, b4, b5⟩⟩ : TBox)) 12] = 2 := by simp [firstNZ, unl, hA]
  have hln : l.length ≤ 1000000 := by omega
  repeat' with_reducible first
    | (refine And.intro rfl ?_)
    | (refine And.intro trivial ?_)
    | (refine And.intro n ?_)
    | (refine And.intro ⟨n, hln⟩ ?_)
    | (refine And.intro (by assumption) ?_)
    | (refine And.intro ⟨n, hd⟩ ?_)
    | (refine And.intro ⟨n, hE⟩ ?_)
    | (refine And.intro ⟨n, hS⟩ ?_)
    | (refine And.intro ⟨n, hH⟩ ?_)
    | (refine And.intro ⟨by assumption, by assumption⟩ ?_)
    | (refine lt_i ?_; intro _ _)
    | (refine cond_i (fun h => ?_) (fun h => ?_))
  all_goals first | exact LeD.refl _ | (exfalso; simp at h; done) | (refine leB ?_; simp; done)
theorem law_law05_TrackAnswers_A2 (m0 m1 m2 m3 m4 m5 m6 m7 m8 m9 m10 m11 : Int) (b0 b1 b2 b3 b4 b5 : Int) (q0 q1 q2 q3 : Int) (l : List THit) (hl : (l).length ≤ 14) (hA : ((⟨m0, m1, m2, m3, m4, m5, m6, m7, m8, m9, m10, m11⟩ : TMod)).err = 2) (W : World) (N : Nat → Prop) (vs : List Value) (h : All2 (RelD (RelF W N)) [.t (.a [.v (.int .i64 m0), .v (.int .i64 m1), .v (.int .i64 m2), .v (.int .i64 m3), .v (.int .i64 m4), .v (.int .i64 m5), .v (.int .i64 m6), .v (.int .i64 m7), .v (.int .i64 m8), .v (.int .i64 m9), .v (.int .i64 m10), .v (.int .i64 m11)]), .t (.a [.v (.int .i64 b0), .v (.int .i64 b1), .v (.int .i64 b2), .v (.int .i64 b3), .v (.int .i64 b4), .v (.int .i64 b5)]), .t (.a [.v (.int .i64 q0), .v (.int .i64 q1), .v (.int .i64 q2), .v (.int .i64 q3), .sl 5 l.length (hitsC l)])] vs) : Calls Try.prog 6 vs.toArray W fun e w' => e = .returned (.bool true) ∧ Below W.heap.size W w' :=
  law_end (fn_sound mixed tabOK VS33 (ann := ann_law05_TrackAnswers_A2) ValidIt.no (fn := Try.f6) (J := fun _ _ _ => False) (by kernel_rfl) fit_law05_TrackAnswers_A2 (args := [.t (.a [.v (.int .i64 m0), .v (.int .i64 m1), .v (.int .i64 m2), .v (.int .i64 m3), .v (.int .i64 m4), .v (.int .i64 m5), .v (.int .i64 m6), .v (.int .i64 m7), .v (.int .i64 m8), .v (.int .i64 m9), .v (.int .i64 m10), .v (.int .i64 m11)]), .t (.a [.v (.int .i64 b0), .v (.int .i64 b1), .v (.int .i64 b2), .v (.int .i64 b3), .v (.int .i64 b4), .v (.int .i64 b5)]), .t (.a [.v (.int .i64 q0), .v (.int .i64 q1), .v (.int .i64 q2), .v (.int .i64 q3), .sl 5 l.length (hitsC l)])]) (post := (fun r => LeD r (.t (.c (.v (.bool true)))))) (by rw [ev_law05_TrackAnswers_A2]; exact spec_law05_TrackAnswers_A2 m0 m1 m2 m3 m4 m5 m6 m7 m8 m9 m10 m11 b0 b1 b2 b3 b4 b5 q0 q1 q2 q3 l hl hA) (by rw [lp_law05_TrackAnswers_A2]; trivial) (Nat.le_of_ble_eq_true (by kernel_rfl)) W N vs h)

def con_ref05_ModelErr_9 : Con := fun args => match args with
  | [.t (.a [.v (.int .i64 m0), .v (.int .i64 m1), .v (.int .i64 m2), .v (.int .i64 m3), .v (.int .i64 m4), .v (.int .i64 m5), .v (.int .i64 m6), .v (.int .i64 m7), .v (.int .i64 m8), .v (.int .i64 m9), .v (.int .i64 m10), .v (.int .i64 m11)])] => some (.t (.c (.v (.int .i64 9))), some (((⟨m0, m1, m2, m3, m4, m5, m6, m7, m8, m9, m10, m11⟩ : TMod)).err = 9), false)
  | _ => none
theorem ok_ref05_ModelErr_9 : Ok Try.prog 18 con_ref05_ModelErr_9 := by
  refine Ok.over ok_ref05_ModelErr fun args r pre fresh h hp => ?_
  unfold con_ref05_ModelErr_9 at h
  split at h
  · rename_i m0 m1 m2 m3 m4 m5 m6 m7 m8 m9 m10 m11
    cases h
    have hq := hp
    (try simp only [okP] at hq)
    refine ⟨_, _, rfl, trivial, ?_⟩
    simp_all
  · cases h
def con_track_AnswerIn_e9 : Con := fun args => match args with
  | [.t (.a [.v (.int .i64 m0), .v (.int .i64 m1), .v (.int .i64 m2), .v (.int .i64 m3), .v (.int .i64 m4), .v (.int .i64 m5), .v (.int .i64 m6), .v (.int .i64 m7), .v (.int .i64 m8), .v (.int .i64 m9), .v (.int .i64 m10), .v (.int .i64 m11)]), .t (.a [.v (.int .i64 b0), .v (.int .i64 b1), .v (.int .i64 b2), .v (.int .i64 b3), .v (.int .i64 b4), .v (.int .i64 b5)]), .t (.a [.v (.int .i64 p0), .v (.int .i64 p1), .v (.int .i64 p2), .v (.int .i64 p3)])] => some (.tu [.c (.v (.int .i64 0)), .c (.v (.int .i64 9))], some (firstNZ [firstNZ [((⟨m0, m1, m2, m3, m4, m5, m6, m7, m8, m9, m10, m11⟩ : TMod)).err, ((⟨⟨b0, b1, b2⟩, ⟨b3, b4, b5⟩⟩ : TBox)).err], momE ⟨p0, p1, p2⟩ p3, unl (canW (⟨m0, m1, m2, m3, m4, m5, m6, m7, m8, m9, m10, m11⟩ : TMod) (⟨⟨b0, b1, b2⟩, ⟨b3, b4, b5⟩⟩ : TBox)) 12] = 9), false)
  | _ => none
theorem ok_track_AnswerIn_e9 : Ok Try.prog 37 con_track_AnswerIn_e9 := by
  refine Ok.over ok_track_AnswerIn fun args r pre fresh h hp => ?_
  unfold con_track_AnswerIn_e9 at h
  split at h
  · rename_i m0 m1 m2 m3 m4 m5 m6 m7 m8 m9 m10 m11 b0 b1 b2 b3 b4 b5 p0 p1 p2 p3
    cases h
    have hq := hp
    (try simp only [okP] at hq)
    refine ⟨_, _, rfl, trivial, ?_⟩
    simp_all
  · cases h
def con_track_ScoresIn_e9 : Con := fun args => match args with
  | [.t (.a [.v (.int .i64 m0), .v (.int .i64 m1), .v (.int .i64 m2), .v (.int .i64 m3), .v (.int .i64 m4), .v (.int .i64 m5), .v (.int .i64 m6), .v (.int .i64 m7), .v (.int .i64 m8), .v (.int .i64 m9), .v (.int .i64 m10), .v (.int .i64 m11)]), .t (.a [.v (.int .i64 b0), .v (.int .i64 b1), .v (.int .i64 b2), .v (.int .i64 b3), .v (.int .i64 b4), .v (.int .i64 b5)]), .t (.c (.sl 5 n_l c_l))] => some (.tu [.a [.v (.int .i64 0), .v (.int .i64 0)], .c (.v (.int .i64 9))], some (numsP 5 n_l c_l ∧ firstNZ [firstNZ [firstNZ [((⟨m0, m1, m2, m3, m4, m5, m6, m7, m8, m9, m10, m11⟩ : TMod)).err, ((⟨⟨b0, b1, b2⟩, ⟨b3, b4, b5⟩⟩ : TBox)).err], hitsE (listC n_l mkHit c_l)], unl (canW (⟨m0, m1, m2, m3, m4, m5, m6, m7, m8, m9, m10, m11⟩ : TMod) (⟨⟨b0, b1, b2⟩, ⟨b3, b4, b5⟩⟩ : TBox)) 12] = 9), false)
  | _ => none
theorem ok_track_ScoresIn_e9 : Ok Try.prog 38 con_track_ScoresIn_e9 := by
  refine Ok.over ok_track_ScoresIn fun args r pre fresh h hp => ?_
  unfold con_track_ScoresIn_e9 at h
  split at h
  · rename_i m0 m1 m2 m3 m4 m5 m6 m7 m8 m9 m10 m11 b0 b1 b2 b3 b4 b5 n_l c_l
    cases h
    have hq := hp.2
    (try simp only [okP] at hq)
    refine ⟨_, _, rfl, hp.1, ?_⟩
    simp_all
  · cases h
def S34 : Sum := addS S29 18 con_ref05_ModelErr_9
theorem VS34 : Valid Try.prog S34 := Valid.add VS29 ok_ref05_ModelErr_9
def S35 : Sum := addS S34 37 con_track_AnswerIn_e9
theorem VS35 : Valid Try.prog S35 := Valid.add VS34 ok_track_AnswerIn_e9
def S36 : Sum := addS S35 38 con_track_ScoresIn_e9
theorem VS36 : Valid Try.prog S36 := Valid.add VS35 ok_track_ScoresIn_e9
def S37 : Sum := addS S36 28 con_law05_few_t
theorem VS37 : Valid Try.prog S37 := Valid.add VS36 ok_law05_few_t
def vc_law05_TrackAnswers_A9 (m0 m1 m2 m3 m4 m5 m6 m7 m8 m9 m10 m11 : Int) (b0 b1 b2 b3 b4 b5 : Int) (q0 q1 q2 q3 : Int) (l : List THit) (post : DV → Prop) : Prop := (numsP 5 l.length (hitsC l) ∧ decide (((listC l.length mkHit (hitsC l))).length ≤ 14) = true) ∧ ((firstNZ [firstNZ [((⟨m0, m1, m2, m3, m4, m5, m6, m7, m8, m9, m10, m11⟩ : TMod)).err, ((⟨⟨b0, b1, b2⟩, ⟨b3, b4, b5⟩⟩ : TBox)).err], momE ⟨q0, q1, q2⟩ q3, unl (canW (⟨m0, m1, m2, m3, m4, m5, m6, m7, m8, m9, m10, m11⟩ : TMod) (⟨⟨b0, b1, b2⟩, ⟨b3, b4, b5⟩⟩ : TBox)) 12] = 9) ∧ ((numsP 5 l.length (hitsC l) ∧ ((listC l.length mkHit (hitsC l))).length ≤ 1000000) ∧ ((numsP 5 ((listC l.length mkHit (hitsC l)).length) (hitsC (listC l.length mkHit (hitsC l))) ∧ firstNZ [firstNZ [firstNZ [((⟨m0, m1, m2, m3, m4, m5, m6, m7, m8, m9, m10, m11⟩ : TMod)).err, ((⟨⟨b0, b1, b2⟩, ⟨b3, b4, b5⟩⟩ : TBox)).err], hitsE (listC ((listC l.length mkHit (hitsC l)).length) mkHit (hitsC (listC l.length mkHit (hitsC l))))], unl (canW (⟨m0, m1, m2, m3, m4, m5, m6, m7, m8, m9, m10, m11⟩ : TMod) (⟨⟨b0, b1, b2⟩, ⟨b3, b4, b5⟩⟩ : TBox)) 12] = 9) ∧ ((((⟨m0, m1, m2, m3, m4, m5, m6, m7, m8, m9, m10, m11⟩ : TMod)).err = 9) ∧ ((false = false) ∧ (post (.t (.c (.v (.bool (bif true then (bif true then true else false) else false)))))))))))
def ann_law05_TrackAnswers_A9 : Ann := ⟨fun r => lookA r [(6, ([[], [], [], [2], [2, 3], [0, 1, 2, 3, 4], [0, 1, 2, 3, 4, 5], [0, 1, 2, 3, 4, 5, 6], [0, 1, 2, 3, 4, 5, 6], [], [0, 1, 2, 3, 4, 5, 6, 7, 9], [0, 1, 2, 3, 4, 5, 6, 7, 8, 9, 10]], [[9], [9], [9], [9], [9], [9], [9], [9], [9], [], [], []])), (12, ([[], [0], [0, 1], [], [3], [0, 1, 2, 3, 4], [0, 1, 2, 3, 4, 5], [0, 1, 2, 3, 4, 5, 6]], [[], [], [], [], [], [], [], []])), (21, ([[], [0], [0, 1], [0, 1, 2], [0, 1, 2], [0, 1, 2], [0, 1, 2], [0, 1, 2, 6], [0, 1, 2, 4, 5, 6, 7], [0, 1, 2, 3, 4, 5, 6, 7, 8], [0, 1, 2, 3, 4, 5, 6, 7, 8, 9], [0, 1, 2, 3, 4, 5, 6, 7, 8, 9, 10]], [[], [], [], [], [], [], [], [], [], [], [], []]))], fun _ => none, fun _ => [], noIt⟩
theorem ev_law05_TrackAnswers_A9 (J : Inv) (m0 m1 m2 m3 m4 m5 m6 m7 m8 m9 m10 m11 : Int) (b0 b1 b2 b3 b4 b5 : Int) (q0 q1 q2 q3 : Int) (l : List THit) (post : DV → Prop) : evFn Try.prog tab S37 ann_law05_TrackAnswers_A9 J Try.f6 [.t (.a [.v (.int .i64 m0), .v (.int .i64 m1), .v (.int .i64 m2), .v (.int .i64 m3), .v (.int .i64 m4), .v (.int .i64 m5), .v (.int .i64 m6), .v (.int .i64 m7), .v (.int .i64 m8), .v (.int .i64 m9), .v (.int .i64 m10), .v (.int .i64 m11)]), .t (.a [.v (.int .i64 b0), .v (.int .i64 b1), .v (.int .i64 b2), .v (.int .i64 b3), .v (.int .i64 b4), .v (.int .i64 b5)]), .t (.a [.v (.int .i64 q0), .v (.int .i64 q1), .v (.int .i64 q2), .v (.int .i64 q3), .sl 5 l.length (hitsC l)])] post = vc_law05_TrackAnswers_A9 m0 m1 m2 m3 m4 m5 m6 m7 m8 m9 m10 m11 b0 b1 b2 b3 b4 b5 q0 q1 q2 q3 l post := by kernel_rfl
theorem fit_law05_TrackAnswers_A9 : okFn ann_law05_TrackAnswers_A9 Try.f6 = true := by kernel_rfl
theorem lp_law05_TrackAnswers_A9 (J : Inv) (post : DV → Prop) : AllG J (loopsFn Try.prog tab S37 ann_law05_TrackAnswers_A9 J Try.f6 post) = True := by kernel_rfl
theorem spec_law05_TrackAnswers_A9 (m0 m1 m2 m3 m4 m5 m6 m7 m8 m9 m10 m11 : Int) (b0 b1 b2 b3 b4 b5 : Int) (q0 q1 q2 q3 : Int) (l : List THit) (hl : (l).length ≤ 14) (hA : ((⟨m0, m1, m2, m3, m4, m5, m6, m7, m8, m9, m10, m11⟩ : TMod)).err = 9) : vc_law05_TrackAnswers_A9 m0 m1 m2 m3 m4 m5 m6 m7 m8 m9 m10 m11 b0 b1 b2 b3 b4 b5 q0 q1 q2 q3 l (fun r => LeD r (.t (.c (.v (.bool true))))) := by
  unfold vc_law05_TrackAnswers_A9
  simp only [hits_listC]
  have hd : decide (l.length ≤ 14) = true := decide_eq_true hl
  have n := numsP_hits l
  have hE : firstNZ [firstNZ [(⟨m0, m1, m2, m3, m4, m5, m6, m7, m8, m9, m10, m11⟩ : TMod).err, (⟨⟨b0, b1, b2⟩, ⟨b3, b4, b5⟩⟩ : TBox).err], momE ⟨q0, q1, q2⟩ q3, unl (canW (⟨m0, m1, m2, m3, m4, m5, m6, m7, m8, m9, m10, m11⟩ : TMod) (⟨⟨b0, b1, b2⟩, ⟨b3, b4, b5⟩⟩ : TBox)) 12] = 9 := by simp [firstNZ, unl, hA]
  have hS : firstNZ [firstNZ [firstNZ [(⟨m0, m1, m2, m3, m4, m5, m6, m7, m8, m9, m10, m11⟩ : TMod).err, (⟨⟨b0, b1, b2⟩, ⟨b3, b4, b5⟩⟩ : TBox).err], hitsE l], unl (canW (⟨m0, m1, m2, m3, m4, m5, m6, m7, m8, m9, m10, m11⟩ : TMod) (⟨⟨b0, b1, b2⟩, ⟨b3, b4, b5⟩⟩ : TBox)) 12] = 9 := by simp [firstNZ, unl, hA]
  have hln : l.length ≤ 1000000 := by omega
  repeat' with_reducible first
    | (refine And.intro rfl ?_)
    | (refine And.intro trivial ?_)
    | (refine And.intro n ?_)
    | (refine And.intro ⟨n, hln⟩ ?_)
    | (refine And.intro (by assumption) ?_)
    | (refine And.intro ⟨n, hd⟩ ?_)
    | (refine And.intro ⟨n, hE⟩ ?_)
    | (refine And.intro ⟨n, hS⟩ ?_)
    | (refine And.intro ⟨n, hH⟩ ?_)
    | (refine And.intro ⟨by assumption, by assumption⟩ ?_)
    | (refine lt_i ?_; intro _ _)
    | (refine cond_i (fun h => ?_) (fun h => ?_))
  all_goals first | exact LeD.refl _ | (exfalso; simp at h; done) | (refine leB ?_; simp; done)
theorem law_law05_TrackAnswers_A9 (m0 m1 m2 m3 m4 m5 m6 m7 m8 m9 m10 m11 : Int) (b0 b1 b2 b3 b4 b5 : Int) (q0 q1 q2 q3 : Int) (l : List THit) (hl : (l).length ≤ 14) (hA : ((⟨m0, m1, m2, m3, m4, m5, m6, m7, m8, m9, m10, m11⟩ : TMod)).err = 9) (W : World) (N : Nat → Prop) (vs : List Value) (h : All2 (RelD (RelF W N)) [.t (.a [.v (.int .i64 m0), .v (.int .i64 m1), .v (.int .i64 m2), .v (.int .i64 m3), .v (.int .i64 m4), .v (.int .i64 m5), .v (.int .i64 m6), .v (.int .i64 m7), .v (.int .i64 m8), .v (.int .i64 m9), .v (.int .i64 m10), .v (.int .i64 m11)]), .t (.a [.v (.int .i64 b0), .v (.int .i64 b1), .v (.int .i64 b2), .v (.int .i64 b3), .v (.int .i64 b4), .v (.int .i64 b5)]), .t (.a [.v (.int .i64 q0), .v (.int .i64 q1), .v (.int .i64 q2), .v (.int .i64 q3), .sl 5 l.length (hitsC l)])] vs) : Calls Try.prog 6 vs.toArray W fun e w' => e = .returned (.bool true) ∧ Below W.heap.size W w' :=
  law_end (fn_sound mixed tabOK VS37 (ann := ann_law05_TrackAnswers_A9) ValidIt.no (fn := Try.f6) (J := fun _ _ _ => False) (by kernel_rfl) fit_law05_TrackAnswers_A9 (args := [.t (.a [.v (.int .i64 m0), .v (.int .i64 m1), .v (.int .i64 m2), .v (.int .i64 m3), .v (.int .i64 m4), .v (.int .i64 m5), .v (.int .i64 m6), .v (.int .i64 m7), .v (.int .i64 m8), .v (.int .i64 m9), .v (.int .i64 m10), .v (.int .i64 m11)]), .t (.a [.v (.int .i64 b0), .v (.int .i64 b1), .v (.int .i64 b2), .v (.int .i64 b3), .v (.int .i64 b4), .v (.int .i64 b5)]), .t (.a [.v (.int .i64 q0), .v (.int .i64 q1), .v (.int .i64 q2), .v (.int .i64 q3), .sl 5 l.length (hitsC l)])]) (post := (fun r => LeD r (.t (.c (.v (.bool true)))))) (by rw [ev_law05_TrackAnswers_A9]; exact spec_law05_TrackAnswers_A9 m0 m1 m2 m3 m4 m5 m6 m7 m8 m9 m10 m11 b0 b1 b2 b3 b4 b5 q0 q1 q2 q3 l hl hA) (by rw [lp_law05_TrackAnswers_A9]; trivial) (Nat.le_of_ble_eq_true (by kernel_rfl)) W N vs h)

def con_ref05_ModelErr_13 : Con := fun args => match args with
  | [.t (.a [.v (.int .i64 m0), .v (.int .i64 m1), .v (.int .i64 m2), .v (.int .i64 m3), .v (.int .i64 m4), .v (.int .i64 m5), .v (.int .i64 m6), .v (.int .i64 m7), .v (.int .i64 m8), .v (.int .i64 m9), .v (.int .i64 m10), .v (.int .i64 m11)])] => some (.t (.c (.v (.int .i64 13))), some (((⟨m0, m1, m2, m3, m4, m5, m6, m7, m8, m9, m10, m11⟩ : TMod)).err = 13), false)
  | _ => none
theorem ok_ref05_ModelErr_13 : Ok Try.prog 18 con_ref05_ModelErr_13 := by
  refine Ok.over ok_ref05_ModelErr fun args r pre fresh h hp => ?_
  unfold con_ref05_ModelErr_13 at h
  split at h
  · rename_i m0 m1 m2 m3 m4 m5 m6 m7 m8 m9 m10 m11
    cases h
    have hq := hp
    (try simp only [okP] at hq)
    refine ⟨_, _, rfl, trivial, ?_⟩
    simp_all
  · cases h
def con_track_AnswerIn_e13 : Con := fun args => match args with
  | [.t (.a [.v (.int .i64 m0), .v (.int .i64 m1), .v (.int .i64 m2), .v (.int .i64 m3), .v (.int .i64 m4), .v (.int .i64 m5), .v (.int .i64 m6), .v (.int .i64 m7), .v (.int .i64 m8), .v (.int .i64 m9), .v (.int .i64 m10), .v (.int .i64 m11)]), .t (.a [.v (.int .i64 b0), .v (.int .i64 b1), .v (.int .i64 b2), .v (.int .i64 b3), .v (.int .i64 b4), .v (.int .i64 b5)]), .t (.a [.v (.int .i64 p0), .v (.int .i64 p1), .v (.int .i64 p2), .v (.int .i64 p3)])] => some (.tu [.c (.v (.int .i64 0)), .c (.v (.int .i64 13))], some (firstNZ [firstNZ [((⟨m0, m1, m2, m3, m4, m5, m6, m7, m8, m9, m10, m11⟩ : TMod)).err, ((⟨⟨b0, b1, b2⟩, ⟨b3, b4, b5⟩⟩ : TBox)).err], momE ⟨p0, p1, p2⟩ p3, unl (canW (⟨m0, m1, m2, m3, m4, m5, m6, m7, m8, m9, m10, m11⟩ : TMod) (⟨⟨b0, b1, b2⟩, ⟨b3, b4, b5⟩⟩ : TBox)) 12] = 13), false)
  | _ => none
theorem ok_track_AnswerIn_e13 : Ok Try.prog 37 con_track_AnswerIn_e13 := by
  refine Ok.over ok_track_AnswerIn fun args r pre fresh h hp => ?_
  unfold con_track_AnswerIn_e13 at h
  split at h
  · rename_i m0 m1 m2 m3 m4 m5 m6 m7 m8 m9 m10 m11 b0 b1 b2 b3 b4 b5 p0 p1 p2 p3
    cases h
    have hq := hp
    (try simp only [okP] at hq)
    refine ⟨_, _, rfl, trivial, ?_⟩
    simp_all
  · cases h
def con_track_ScoresIn_e13 : Con := fun args => match args with
  | [.t (.a [.v (.int .i64 m0), .v (.int .i64 m1), .v (.int .i64 m2), .v (.int .i64 m3), .v (.int .i64 m4), .v (.int .i64 m5), .v (.int .i64 m6), .v (.int .i64 m7), .v (.int .i64 m8), .v (.int .i64 m9), .v (.int .i64 m10), .v (.int .i64 m11)]), .t (.a [.v (.int .i64 b0), .v (.int .i64 b1), .v (.int .i64 b2), .v (.int .i64 b3), .v (.int .i64 b4), .v (.int .i64 b5)]), .t (.c (.sl 5 n_l c_l))] => some (.tu [.a [.v (.int .i64 0), .v (.int .i64 0)], .c (.v (.int .i64 13))], some (numsP 5 n_l c_l ∧ firstNZ [firstNZ [firstNZ [((⟨m0, m1, m2, m3, m4, m5, m6, m7, m8, m9, m10, m11⟩ : TMod)).err, ((⟨⟨b0, b1, b2⟩, ⟨b3, b4, b5⟩⟩ : TBox)).err], hitsE (listC n_l mkHit c_l)], unl (canW (⟨m0, m1, m2, m3, m4, m5, m6, m7, m8, m9, m10, m11⟩ : TMod) (⟨⟨b0, b1, b2⟩, ⟨b3, b4, b5⟩⟩ : TBox)) 12] = 13), false)
  | _ => none
theorem ok_track_ScoresIn_e13 : Ok Try.prog 38 con_track_ScoresIn_e13 := by
  refine Ok.over ok_track_ScoresIn fun args r pre fresh h hp => ?_
  unfold con_track_ScoresIn_e13 at h
  split at h
  · rename_i m0 m1 m2 m3 m4 m5 m6 m7 m8 m9 m10 m11 b0 b1 b2 b3 b4 b5 n_l c_l
    cases h
    have hq := hp.2
    (try simp only [okP] at hq)
    refine ⟨_, _, rfl, hp.1, ?_⟩
    simp_all
  · cases h
def S38 : Sum := addS S29 18 con_ref05_ModelErr_13
theorem VS38 : Valid Try.prog S38 := Valid.add VS29 ok_ref05_ModelErr_13
def S39 : Sum := addS S38 37 con_track_AnswerIn_e13
theorem VS39 : Valid Try.prog S39 := Valid.add VS38 ok_track_AnswerIn_e13
def S40 : Sum := addS S39 38 con_track_ScoresIn_e13
theorem VS40 : Valid Try.prog S40 := Valid.add VS39 ok_track_ScoresIn_e13
def S41 : Sum := addS S40 28 con_law05_few_t
theorem VS41 : Valid Try.prog S41 := Valid.add VS40 ok_law05_few_t
def vc_law05_TrackAnswers_A13 (m0 m1 m2 m3 m4 m5 m6 m7 m8 m9 m10 m11 : Int) (b0 b1 b2 b3 b4 b5 : Int) (q0 q1 q2 q3 : Int) (l : List THit) (post : DV → Prop) : Prop := (numsP 5 l.length (hitsC l) ∧ decide (((listC l.length mkHit (hitsC l))).length ≤ 14) = true) ∧ ((firstNZ [firstNZ [((⟨m0, m1, m2, m3, m4, m5, m6, m7, m8, m9, m10, m11⟩ : TMod)).err, ((⟨⟨b0, b1, b2⟩, ⟨b3, b4, b5⟩⟩ : TBox)).err], momE ⟨q0, q1, q2⟩ q3, unl (canW (⟨m0, m1, m2, m3, m4, m5, m6, m7, m8, m9, m10, m11⟩ : TMod) (⟨⟨b0, b1, b2⟩, ⟨b3, b4, b5⟩⟩ : TBox)) 12] = 13) ∧ ((numsP 5 l.length (hitsC l) ∧ ((listC l.length mkHit (hitsC l))).length ≤ 1000000) ∧ ((numsP 5 ((listC l.length mkHit (hitsC l)).length) (hitsC (listC l.length mkHit (hitsC l))) ∧ firstNZ [firstNZ [firstNZ [((⟨m0, m1, m2, m3, m4, m5, m6, m7, m8, m9, m10, m11⟩ : TMod)).err, ((⟨⟨b0, b1, b2⟩, ⟨b3, b4, b5⟩⟩ : TBox)).err], hitsE (listC ((listC l.length mkHit (hitsC l)).length) mkHit (hitsC (listC l.length mkHit (hitsC l))))], unl (canW (⟨m0, m1, m2, m3, m4, m5, m6, m7, m8, m9, m10, m11⟩ : TMod) (⟨⟨b0, b1, b2⟩, ⟨b3, b4, b5⟩⟩ : TBox)) 12] = 13) ∧ ((((⟨m0, m1, m2, m3, m4, m5, m6, m7, m8, m9, m10, m11⟩ : TMod)).err = 13) ∧ ((false = false) ∧ (post (.t (.c (.v (.bool (bif true then (bif true then true else false) else false)))))))))))
def ann_law05_TrackAnswers_A13 : Ann := ⟨fun r => lookA r [(6, ([[], [], [], [2], [2, 3], [0, 1, 2, 3, 4], [0, 1, 2, 3, 4, 5], [0, 1, 2, 3, 4, 5, 6], [0, 1, 2, 3, 4, 5, 6], [], [0, 1, 2, 3, 4, 5, 6, 7, 9], [0, 1, 2, 3, 4, 5, 6, 7, 8, 9, 10]], [[9], [9], [9], [9], [9], [9], [9], [9], [9], [], [], []])), (12, ([[], [0], [0, 1], [], [3], [0, 1, 2, 3, 4], [0, 1, 2, 3, 4, 5], [0, 1, 2, 3, 4, 5, 6]], [[], [], [], [], [], [], [], []])), (21, ([[], [0], [0, 1], [0, 1, 2], [0, 1, 2], [0, 1, 2], [0, 1, 2], [0, 1, 2, 6], [0, 1, 2, 4, 5, 6, 7], [0, 1, 2, 3, 4, 5, 6, 7, 8], [0, 1, 2, 3, 4, 5, 6, 7, 8, 9], [0, 1, 2, 3, 4, 5, 6, 7, 8, 9, 10]], [[], [], [], [], [], [], [], [], [], [], [], []]))], fun _ => none, fun _ => [], noIt⟩
theorem ev_law05_TrackAnswers_A13 (J : Inv) (m0 m1 m2 m3 m4 m5 m6 m7 m8 m9 m10 m11 : Int) (b0 b1 b2 b3 b4 b5 : Int) (q0 q1 q2 q3 : Int) (l : List THit) (post : DV → Prop) : evFn Try.prog tab S41 ann_law05_TrackAnswers_A13 J Try.f6 [.t (.a [.v (.int .i64 m0), .v (.int .i64 m1), .v (.int .i64 m2), .v (.int .i64 m3), .v (.int .i64 m4), .v (.int .i64 m5), .v (.int .i64 m6), .v (.int .i64 m7), .v (.int .i64 m8), .v (.int .i64 m9), .v (.int .i64 m10), .v (.int .i64 m11)]), .t (.a [.v (.int .i64 b0), .v (.int .i64 b1), .v (.int .i64 b2), .v (.int .i64 b3), .v (.int .i64 b4), .v (.int .i64 b5)]), .t (.a [.v (.int .i64 q0), .v (.int .i64 q1), .v (.int .i64 q2), .v (.int .i64 q3), .sl 5 l.length (hitsC l)])] post = vc_law05_TrackAnswers_A13 m0 m1 m2 m3 m4 m5 m6 m7 m8 m9 m10 m11 b0 b1 b2 b3 b4 b5 q0 q1 q2 q3 l post := by kernel_rfl
theorem fit_law05_TrackAnswers_A13 : okFn ann_law05_TrackAnswers_A13 Try.f6 = true := by kernel_rfl
theorem lp_law05_TrackAnswers_A13 (J : Inv) (post : DV → Prop) : AllG J (loopsFn Try.prog tab S41 ann_law05_TrackAnswers_A13 J Try.f6 post) = True := by kernel_rfl
theorem spec_law05_TrackAnswers_A13 (m0 m1 m2 m3 m4 m5 m6 m7 m8 m9 m10 m11 : Int) (b0 b1 b2 b3 b4 b5 : Int) (q0 q1 q2 q3 : Int) (l : List THit) (hl : (l).length ≤ 14) (hA : ((⟨m0, m1, m2, m3, m4, m5, m6, m7, m8, m9, m10, m11⟩ : TMod)).err = 13) : vc_law05_TrackAnswers_A13 m0 m1 m2 m3 m4 m5 m6 m7 m8 m9 m10 m11 b0 b1 b2 b3 b4 b5 q0 q1 q2 q3 l (fun r => LeD r (.t (.c (.v (.bool true))))) := by
  unfold vc_law05_TrackAnswers_A13
  simp only [hits_listC]
  have hd : decide (l.length ≤ 14) = true := decide_eq_true hl
  have n := numsP_hits l
  have hE : firstNZ [firstNZ [(⟨m0, m1, m2, m3, m4, m5, m6, m7, m8, m9, m10, m11⟩ : TMod).err, (⟨⟨b0, b1, b2⟩, ⟨b3, b4, b5⟩⟩ : TBox).err], momE ⟨q0, q1, q2⟩ q3, unl (canW (⟨m0, m1, m2, m3, m4, m5, m6, m7, m8, m9, m10, m11⟩ : TMod) (⟨⟨b0, b1, b2⟩, ⟨b3, b4, b5⟩⟩ : TBox)) 12] = 13 := by simp [firstNZ, unl, hA]
  have hS : firstNZ [firstNZ [firstNZ [(⟨m0, m1, m2, m3, m4, m5, m6, m7, m8, m9, m10, m11⟩ : TMod).err, (⟨⟨b0, b1, b2⟩, ⟨b3, b4, b5⟩⟩ : TBox).err], hitsE l], unl (canW (⟨m0, m1, m2, m3, m4, m5, m6, m7, m8, m9, m10, m11⟩ : TMod) (⟨⟨b0, b1, b2⟩, ⟨b3, b4, b5⟩⟩ : TBox)) 12] = 13 := by simp [firstNZ, unl, hA]
  have hln : l.length ≤ 1000000 := by omega
  repeat' with_reducible first
    | (refine And.intro rfl ?_)
    | (refine And.intro trivial ?_)
    | (refine And.intro n ?_)
    | (refine And.intro ⟨n, hln⟩ ?_)
    | (refine And.intro (by assumption) ?_)
    | (refine And.intro ⟨n, hd⟩ ?_)
    | (refine And.intro ⟨n, hE⟩ ?_)
    | (refine And.intro ⟨n, hS⟩ ?_)
    | (refine And.intro ⟨n, hH⟩ ?_)
    | (refine And.intro ⟨by assumption, by assumption⟩ ?_)
    | (refine lt_i ?_; intro _ _)
    | (refine cond_i (fun h => ?_) (fun h => ?_))
  all_goals first | exact LeD.refl _ | (exfalso; simp at h; done) | (refine leB ?_; simp; done)
theorem law_law05_TrackAnswers_A13 (m0 m1 m2 m3 m4 m5 m6 m7 m8 m9 m10 m11 : Int) (b0 b1 b2 b3 b4 b5 : Int) (q0 q1 q2 q3 : Int) (l : List THit) (hl : (l).length ≤ 14) (hA : ((⟨m0, m1, m2, m3, m4, m5, m6, m7, m8, m9, m10, m11⟩ : TMod)).err = 13) (W : World) (N : Nat → Prop) (vs : List Value) (h : All2 (RelD (RelF W N)) [.t (.a [.v (.int .i64 m0), .v (.int .i64 m1), .v (.int .i64 m2), .v (.int .i64 m3), .v (.int .i64 m4), .v (.int .i64 m5), .v (.int .i64 m6), .v (.int .i64 m7), .v (.int .i64 m8), .v (.int .i64 m9), .v (.int .i64 m10), .v (.int .i64 m11)]), .t (.a [.v (.int .i64 b0), .v (.int .i64 b1), .v (.int .i64 b2), .v (.int .i64 b3), .v (.int .i64 b4), .v (.int .i64 b5)]), .t (.a [.v (.int .i64 q0), .v (.int .i64 q1), .v (.int .i64 q2), .v (.int .i64 q3), .sl 5 l.length (hitsC l)])] vs) : Calls Try.prog 6 vs.toArray W fun e w' => e = .returned (.bool true) ∧ Below W.heap.size W w' :=
  law_end (fn_sound mixed tabOK VS41 (ann := ann_law05_TrackAnswers_A13) ValidIt.no (fn := Try.f6) (J := fun _ _ _ => False) (by kernel_rfl) fit_law05_TrackAnswers_A13 (args := [.t (.a [.v (.int .i64 m0), .v (.int .i64 m1), .v (.int .i64 m2), .v (.int .i64 m3), .v (.int .i64 m4), .v (.int .i64 m5), .v (.int .i64 m6), .v (.int .i64 m7), .v (.int .i64 m8), .v (.int .i64 m9), .v (.int .i64 m10), .v (.int .i64 m11)]), .t (.a [.v (.int .i64 b0), .v (.int .i64 b1), .v (.int .i64 b2), .v (.int .i64 b3), .v (.int .i64 b4), .v (.int .i64 b5)]), .t (.a [.v (.int .i64 q0), .v (.int .i64 q1), .v (.int .i64 q2), .v (.int .i64 q3), .sl 5 l.length (hitsC l)])]) (post := (fun r => LeD r (.t (.c (.v (.bool true)))))) (by rw [ev_law05_TrackAnswers_A13]; exact spec_law05_TrackAnswers_A13 m0 m1 m2 m3 m4 m5 m6 m7 m8 m9 m10 m11 b0 b1 b2 b3 b4 b5 q0 q1 q2 q3 l hl hA) (by rw [lp_law05_TrackAnswers_A13]; trivial) (Nat.le_of_ble_eq_true (by kernel_rfl)) W N vs h)

def con_ref05_ModelErr_0 : Con := fun args => match args with
  | [.t (.a [.v (.int .i64 m0), .v (.int .i64 m1), .v (.int .i64 m2), .v (.int .i64 m3), .v (.int .i64 m4), .v (.int .i64 m5), .v (.int .i64 m6), .v (.int .i64 m7), .v (.int .i64 m8), .v (.int .i64 m9), .v (.int .i64 m10), .v (.int .i64 m11)])] => some (.t (.c (.v (.int .i64 0))), some (((⟨m0, m1, m2, m3, m4, m5, m6, m7, m8, m9, m10, m11⟩ : TMod)).err = 0), false)
  | _ => none
theorem ok_ref05_ModelErr_0 : Ok Try.prog 18 con_ref05_ModelErr_0 := by
  refine Ok.over ok_ref05_ModelErr fun args r pre fresh h hp => ?_
  unfold con_ref05_ModelErr_0 at h
  split at h
  · rename_i m0 m1 m2 m3 m4 m5 m6 m7 m8 m9 m10 m11
    cases h
    have hq := hp
    (try simp only [okP] at hq)
    refine ⟨_, _, rfl, trivial, ?_⟩
    simp_all
  · cases h
def con_ref05_BoxErr_2 : Con := fun args => match args with
  | [.t (.a [.v (.int .i64 b0), .v (.int .i64 b1), .v (.int .i64 b2), .v (.int .i64 b3), .v (.int .i64 b4), .v (.int .i64 b5)])] => some (.t (.c (.v (.int .i64 2))), some (((⟨⟨b0, b1, b2⟩, ⟨b3, b4, b5⟩⟩ : TBox)).err = 2), false)
  | _ => none
theorem ok_ref05_BoxErr_2 : Ok Try.prog 39 con_ref05_BoxErr_2 := by
  refine Ok.over ok_ref05_BoxErr fun args r pre fresh h hp => ?_
  unfold con_ref05_BoxErr_2 at h
  split at h
  · rename_i b0 b1 b2 b3 b4 b5
    cases h
    have hq := hp
    (try simp only [okP] at hq)
    refine ⟨_, _, rfl, trivial, ?_⟩
    simp_all
  · cases h
def S42 : Sum := addS S29 18 con_ref05_ModelErr_0
theorem VS42 : Valid Try.prog S42 := Valid.add VS29 ok_ref05_ModelErr_0
def S43 : Sum := addS S42 39 con_ref05_BoxErr_2
theorem VS43 : Valid Try.prog S43 := Valid.add VS42 ok_ref05_BoxErr_2
def S44 : Sum := addS S43 37 con_track_AnswerIn_e2
theorem VS44 : Valid Try.prog S44 := Valid.add VS43 ok_track_AnswerIn_e2
def S45 : Sum := addS S44 38 con_track_ScoresIn_e2
theorem VS45 : Valid Try.prog S45 := Valid.add VS44 ok_track_ScoresIn_e2
def S46 : Sum := addS S45 28 con_law05_few_t
theorem VS46 : Valid Try.prog S46 := Valid.add VS45 ok_law05_few_t
def vc_law05_TrackAnswers_B2 (m0 m1 m2 m3 m4 m5 m6 m7 m8 m9 m10 m11 : Int) (b0 b1 b2 b3 b4 b5 : Int) (q0 q1 q2 q3 : Int) (l : List THit) (post : DV → Prop) : Prop := (numsP 5 l.length (hitsC l) ∧ decide (((listC l.length mkHit (hitsC l))).length ≤ 14) = true) ∧ ((firstNZ [firstNZ [((⟨m0, m1, m2, m3, m4, m5, m6, m7, m8, m9, m10, m11⟩ : TMod)).err, ((⟨⟨b0, b1, b2⟩, ⟨b3, b4, b5⟩⟩ : TBox)).err], momE ⟨q0, q1, q2⟩ q3, unl (canW (⟨m0, m1, m2, m3, m4, m5, m6, m7, m8, m9, m10, m11⟩ : TMod) (⟨⟨b0, b1, b2⟩, ⟨b3, b4, b5⟩⟩ : TBox)) 12] = 2) ∧ ((numsP 5 l.length (hitsC l) ∧ ((listC l.length mkHit (hitsC l))).length ≤ 1000000) ∧ ((numsP 5 ((listC l.length mkHit (hitsC l)).length) (hitsC (listC l.length mkHit (hitsC l))) ∧ firstNZ [firstNZ [firstNZ [((⟨m0, m1, m2, m3, m4, m5, m6, m7, m8, m9, m10, m11⟩ : TMod)).err, ((⟨⟨b0, b1, b2⟩, ⟨b3, b4, b5⟩⟩ : TBox)).err], hitsE (listC ((listC l.length mkHit (hitsC l)).length) mkHit (hitsC (listC l.length mkHit (hitsC l))))], unl (canW (⟨m0, m1, m2, m3, m4, m5, m6, m7, m8, m9, m10, m11⟩ : TMod) (⟨⟨b0, b1, b2⟩, ⟨b3, b4, b5⟩⟩ : TBox)) 12] = 2) ∧ ((((⟨m0, m1, m2, m3, m4, m5, m6, m7, m8, m9, m10, m11⟩ : TMod)).err = 0) ∧ ((((⟨⟨b0, b1, b2⟩, ⟨b3, b4, b5⟩⟩ : TBox)).err = 2) ∧ ((false = false) ∧ (post (.t (.c (.v (.bool (bif true then (bif true then true else false) else false))))))))))))
def ann_law05_TrackAnswers_B2 : Ann := ⟨fun r => lookA r [(6, ([[], [], [], [2], [2, 3], [0, 1, 2, 3, 4], [0, 1, 2, 3, 4, 5], [0, 1, 2, 3, 4, 5, 6], [0, 1, 2, 3, 4, 5, 6], [], [0, 1, 2, 3, 4, 5, 6, 7, 9], [0, 1, 2, 3, 4, 5, 6, 7, 8, 9, 10]], [[9], [9], [9], [9], [9], [9], [9], [9], [9], [], [], []])), (12, ([[], [0], [0, 1], [], [3], [0, 1, 2, 3, 4], [0, 1, 2, 3, 4, 5], [0, 1, 2, 3, 4, 5, 6]], [[], [], [], [], [], [], [], []])), (21, ([[], [0], [0, 1], [0, 1, 2], [0, 1, 2], [0, 1, 2], [0, 1, 2], [0, 1, 2, 6], [0, 1, 2, 4, 5, 6, 7], [0, 1, 2, 3, 4, 5, 6, 7, 8], [0, 1, 2, 3, 4, 5, 6, 7, 8, 9], [0, 1, 2, 3, 4, 5, 6, 7, 8, 9, 10]], [[], [], [], [], [], [], [], [], [], [], [], []]))], fun _ => none, fun _ => [], noIt⟩
theorem ev_law05_TrackAnswers_B2 (J : Inv) (m0 m1 m2 m3 m4 m5 m6 m7 m8 m9 m10 m11 : Int) (b0 b1 b2 b3 b4 b5 : Int) (q0 q1 q2 q3 : Int) (l : List THit) (post : DV → Prop) : evFn Try.prog tab S46 ann_law05_TrackAnswers_B2 J Try.f6 [.t (.a [.v (.int .i64 m0), .v (.int .i64 m1), .v (.int .i64 m2), .v (.int .i64 m3), .v (.int .i64 m4), .v (.int .i64 m5), .v (.int .i64 m6), .v (.int .i64 m7), .v (.int .i64 m8), .v (.int .i64 m9), .v (.int .i64 m10), .v (.int .i64 m11)]), .t (.a [.v (.int .i64 b0), .v (.int .i64 b1), .v (.int .i64 b2), .v (.int .i64 b3), .v (.int .i64 b4), .v (.int .i64 b5)]), .t (.a [.v (.int .i64 q0), .v (.int .i64 q1), .v (.int .i64 q2), .v (.int .i64 q3), .sl 5 l.length (hitsC l)])] post = vc_law05_TrackAnswers_B2 m0 m1 m2 m3 m4 m5 m6 m7 m8 m9 m10 m11 b0 b1 b2 b3 b4 b5 q0 q1 q2 q3 l post := by kernel_rfl
theorem fit_law05_TrackAnswers_B2 : okFn ann_law05_TrackAnswers_B2 Try.f6 = true := by kernel_rfl
theorem lp_law05_TrackAnswers_B2 (J : Inv) (post : DV → Prop) : AllG J (loopsFn Try.prog tab S46 ann_law05_TrackAnswers_B2 J Try.f6 post) = True := by kernel_rfl
theorem spec_law05_TrackAnswers_B2 (m0 m1 m2 m3 m4 m5 m6 m7 m8 m9 m10 m11 : Int) (b0 b1 b2 b3 b4 b5 : Int) (q0 q1 q2 q3 : Int) (l : List THit) (hl : (l).length ≤ 14) (hA : ((⟨m0, m1, m2, m3, m4, m5, m6, m7, m8, m9, m10, m11⟩ : TMod)).err = 0) (hB : ((⟨⟨b0, b1, b2⟩, ⟨b3, b4, b5⟩⟩ : TBox)).err = 2) : vc_law05_TrackAnswers_B2 m0 m1 m2 m3 m4 m5 m6 m7 m8 m9 m10 m11 b0 b1 b2 b3 b4 b5 q0 q1 q2 q3 l (fun r => LeD r (.t (.c (.v (.bool true))))) := by
  unfold vc_law05_TrackAnswers_B2
  simp only [hits_listC]
  have hd : decide (l.length ≤ 14) = true := decide_eq_true hl
  have n := numsP_hits l
  have hE : firstNZ [firstNZ [(⟨m0, m1, m2, m3, m4, m5, m6, m7, m8, m9, m10, m11⟩ : TMod).err, (⟨⟨b0, b1, b2⟩, ⟨b3, b4, b5⟩⟩ : TBox).err], momE ⟨q0, q1, q2⟩ q3, unl (canW (⟨m0, m1, m2, m3, m4, m5, m6, m7, m8, m9, m10, m11⟩ : TMod) (⟨⟨b0, b1, b2⟩, ⟨b3, b4, b5⟩⟩ : TBox)) 12] = 2 := by simp [firstNZ, unl, hA, hB]
  have hS : firstNZ [firstNZ [firstNZ [(⟨m0, m1, m2, m3, m4, m5, m6, m7, m8, m9, m10, m11⟩ : TMod).err, (⟨⟨b0, b1, b2⟩, ⟨b3, b4, b5⟩⟩ : TBox).err], hitsE l], unl (canW (⟨m0, m1, m2, m3, m4, m5, m6, m7, m8, m9, m10, m11⟩ : TMod) (⟨⟨b0, b1, b2⟩, ⟨b3, b4, b5⟩⟩ : TBox)) 12] = 2 := by simp [firstNZ, unl, hA, hB]
  have hln : l.length ≤ 1000000 := by omega
  repeat' with_reducible first
    | (refine And.intro rfl ?_)
    | (refine And.intro trivial ?_)
    | (refine And.intro n ?_)
    | (refine And.intro ⟨n, hln⟩ ?_)
    | (refine And.intro (by assumption) ?_)
    | (refine And.intro ⟨n, hd⟩ ?_)
    | (refine And.intro ⟨n, hE⟩ ?_)
    | (refine And.intro ⟨n, hS⟩ ?_)
    | (refine And.intro ⟨n, hH⟩ ?_)
    | (refine And.intro ⟨by assumption, by assumption⟩ ?_)
    | (refine lt_i ?_; intro _ _)
    | (refine cond_i (fun h => ?_) (fun h => ?_))
  all_goals first | exact LeD.refl _ | (exfalso; simp at h; done) | (refine leB ?_; simp; done)
theorem law_law05_TrackAnswers_B2 (m0 m1 m2 m3 m4 m5 m6 m7 m8 m9 m10 m11 : Int) (b0 b1 b2 b3 b4 b5 : Int) (q0 q1 q2 q3 : Int) (l : List THit) (hl : (l).length ≤ 14) (hA : ((⟨m0, m1, m2, m3, m4, m5, m6, m7, m8, m9, m10, m11⟩ : TMod)).err = 0) (hB : ((⟨⟨b0, b1, b2⟩, ⟨b3, b4, b5⟩⟩ : TBox)).err = 2) (W : World) (N : Nat → Prop) (vs : List Value) (h : All2 (RelD (RelF W N)) [.t (.a [.v (.int .i64 m0), .v (.int .i64 m1), .v (.int .i64 m2), .v (.int .i64 m3), .v (.int .i64 m4), .v (.int .i64 m5), .v (.int .i64 m6), .v (.int .i64 m7), .v (.int .i64 m8), .v (.int .i64 m9), .v (.int .i64 m10), .v (.int .i64 m11)]), .t (.a [.v (.int .i64 b0), .v (.int .i64 b1), .v (.int .i64 b2), .v (.int .i64 b3), .v (.int .i64 b4), .v (.int .i64 b5)]), .t (.a [.v (.int .i64 q0), .v (.int .i64 q1), .v (.int .i64 q2), .v (.int .i64 q3), .sl 5 l.length (hitsC l)])] vs) : Calls Try.prog 6 vs.toArray W fun e w' => e = .returned (.bool true) ∧ Below W.heap.size W w' :=
  law_end (fn_sound mixed tabOK VS46 (ann := ann_law05_TrackAnswers_B2) ValidIt.no (fn := Try.f6) (J := fun _ _ _ => False) (by kernel_rfl) fit_law05_TrackAnswers_B2 (args := [.t (.a [.v (.int .i64 m0), .v (.int .i64 m1), .v (.int .i64 m2), .v (.int .i64 m3), .v (.int .i64 m4), .v (.int .i64 m5), .v (.int .i64 m6), .v (.int .i64 m7), .v (.int .i64 m8), .v (.int .i64 m9), .v (.int .i64 m10), .v (.int .i64 m11)]), .t (.a [.v (.int .i64 b0), .v (.int .i64 b1), .v (.int .i64 b2), .v (.int .i64 b3), .v (.int .i64 b4), .v (.int .i64 b5)]), .t (.a [.v (.int .i64 q0), .v (.int .i64 q1), .v (.int .i64 q2), .v (.int .i64 q3), .sl 5 l.length (hitsC l)])]) (post := (fun r => LeD r (.t (.c (.v (.bool true)))))) (by rw [ev_law05_TrackAnswers_B2]; exact spec_law05_TrackAnswers_B2 m0 m1 m2 m3 m4 m5 m6 m7 m8 m9 m10 m11 b0 b1 b2 b3 b4 b5 q0 q1 q2 q3 l hl hA hB) (by rw [lp_law05_TrackAnswers_B2]; trivial) (Nat.le_of_ble_eq_true (by kernel_rfl)) W N vs h)

def con_ref05_BoxErr_9 : Con := fun args => match args with
  | [.t (.a [.v (.int .i64 b0), .v (.int .i64 b1), .v (.int .i64 b2), .v (.int .i64 b3), .v (.int .i64 b4), .v (.int .i64 b5)])] => some (.t (.c (.v (.int .i64 9))), some (((⟨⟨b0, b1, b2⟩, ⟨b3, b4, b5⟩⟩ : TBox)).err = 9), false)
  | _ => none
theorem ok_ref05_BoxErr_9 : Ok Try.prog 39 con_ref05_BoxErr_9 := by
  refine Ok.over ok_ref05_BoxErr fun args r pre fresh h hp => ?_
  unfold con_ref05_BoxErr_9 at h
  split at h
  · rename_i b0 b1 b2 b3 b4 b5
    cases h
    have hq := hp
    (try simp only [okP] at hq)
    refine ⟨_, _, rfl, trivial, ?_⟩
    simp_all
  · cases h
def S47 : Sum := addS S29 18 con_ref05_ModelErr_0
theorem VS47 : Valid Try.prog S47 := Valid.add VS29 ok_ref05_ModelErr_0
def S48 : Sum := addS S47 39 con_ref05_BoxErr_9
theorem VS48 : Valid Try.prog S48 := Valid.add VS47 ok_ref05_BoxErr_9
def S49 : Sum := addS S48 37 con_track_AnswerIn_e9
theorem VS49 : Valid Try.prog S49 := Valid.add VS48 ok_track_AnswerIn_e9
def S50 : Sum := addS S49 38 con_track_ScoresIn_e9
theorem VS50 : Valid Try.prog S50 := Valid.add VS49 ok_track_ScoresIn_e9
def S51 : Sum := addS S50 28 con_law05_few_t
theorem VS51 : Valid Try.prog S51 := Valid.add VS50 ok_law05_few_t
def vc_law05_TrackAnswers_B9 (m0 m1 m2 m3 m4 m5 m6 m7 m8 m9 m10 m11 : Int) (b0 b1 b2 b3 b4 b5 : Int) (q0 q1 q2 q3 : Int) (l : List THit) (post : DV → Prop) : Prop := (numsP 5 l.length (hitsC l) ∧ decide (((listC l.length mkHit (hitsC l))).length ≤ 14) = true) ∧ ((firstNZ [firstNZ [((⟨m0, m1, m2, m3, m4, m5, m6, m7, m8, m9, m10, m11⟩ : TMod)).err, ((⟨⟨b0, b1, b2⟩, ⟨b3, b4, b5⟩⟩ : TBox)).err], momE ⟨q0, q1, q2⟩ q3, unl (canW (⟨m0, m1, m2, m3, m4, m5, m6, m7, m8, m9, m10, m11⟩ : TMod) (⟨⟨b0, b1, b2⟩, ⟨b3, b4, b5⟩⟩ : TBox)) 12] = 9) ∧ ((numsP 5 l.length (hitsC l) ∧ ((listC l.length mkHit (hitsC l))).length ≤ 1000000) ∧ ((numsP 5 ((listC l.length mkHit (hitsC l)).length) (hitsC (listC l.length mkHit (hitsC l))) ∧ firstNZ [firstNZ [firstNZ [((⟨m0, m1, m2, m3, m4, m5, m6, m7, m8, m9, m10, m11⟩ : TMod)).err, ((⟨⟨b0, b1, b2⟩, ⟨b3, b4, b5⟩⟩ : TBox)).err], hitsE (listC ((listC l.length mkHit (hitsC l)).length) mkHit (hitsC (listC l.length mkHit (hitsC l))))], unl (canW (⟨m0, m1, m2, m3, m4, m5, m6, m7, m8, m9, m10, m11⟩ : TMod) (⟨⟨b0, b1, b2⟩, ⟨b3, b4, b5⟩⟩ : TBox)) 12] = 9) ∧ ((((⟨m0, m1, m2, m3, m4, m5, m6, m7, m8, m9, m10, m11⟩ : TMod)).err = 0) ∧ ((((⟨⟨b0, b1, b2⟩, ⟨b3, b4, b5⟩⟩ : TBox)).err = 9) ∧ ((false = false) ∧ (post (.t (.c (.v (.bool (bif true then (bif true then true else false) else false))))))))))))
def ann_law05_TrackAnswers_B9 : Ann := ⟨fun r => lookA r [(6, ([[], [], [], [2], [2, 3], [0, 1, 2, 3, 4], [0, 1, 2, 3, 4, 5], [0, 1, 2, 3, 4, 5, 6], [0, 1, 2, 3, 4, 5, 6], [], [0, 1, 2, 3, 4, 5, 6, 7, 9], [0, 1, 2, 3, 4, 5, 6, 7, 8, 9, 10]], [[9], [9], [9], [9], [9], [9], [9], [9], [9], [], [], []])), (12, ([[], [0], [0, 1], [], [3], [0, 1, 2, 3, 4], [0, 1, 2, 3, 4, 5], [0, 1, 2, 3, 4, 5, 6]], [[], [], [], [], [], [], [], []])), (21, ([[], [0], [0, 1], [0, 1, 2], [0, 1, 2], [0, 1, 2], [0, 1, 2], [0, 1, 2, 6], [0, 1, 2, 4, 5, 6, 7], [0, 1, 2, 3, 4, 5, 6, 7, 8], [0, 1, 2, 3, 4, 5, 6, 7, 8, 9], [0, 1, 2, 3, 4, 5, 6, 7, 8, 9, 10]], [[], [], [], [], [], [], [], [], [], [], [], []]))], fun _ => none, fun _ => [], noIt⟩
theorem ev_law05_TrackAnswers_B9 (J : Inv) (m0 m1 m2 m3 m4 m5 m6 m7 m8 m9 m10 m11 : Int) (b0 b1 b2 b3 b4 b5 : Int) (q0 q1 q2 q3 : Int) (l : List THit) (post : DV → Prop) : evFn Try.prog tab S51 ann_law05_TrackAnswers_B9 J Try.f6 [.t (.a [.v (.int .i64 m0), .v (.int .i64 m1), .v (.int .i64 m2), .v (.int .i64 m3), .v (.int .i64 m4), .v (.int .i64 m5), .v (.int .i64 m6), .v (.int .i64 m7), .v (.int .i64 m8), .v (.int .i64 m9), .v (.int .i64 m10), .v (.int .i64 m11)]), .t (.a [.v (.int .i64 b0), .v (.int .i64 b1), .v (.int .i64 b2), .v (.int .i64 b3), .v (.int .i64 b4), .v (.int .i64 b5)]), .t (.a [.v (.int .i64 q0), .v (.int .i64 q1), .v (.int .i64 q2), .v (.int .i64 q3), .sl 5 l.length (hitsC l)])] post = vc_law05_TrackAnswers_B9 m0 m1 m2 m3 m4 m5 m6 m7 m8 m9 m10 m11 b0 b1 b2 b3 b4 b5 q0 q1 q2 q3 l post := by kernel_rfl
theorem fit_law05_TrackAnswers_B9 : okFn ann_law05_TrackAnswers_B9 Try.f6 = true := by kernel_rfl
theorem lp_law05_TrackAnswers_B9 (J : Inv) (post : DV → Prop) : AllG J (loopsFn Try.prog tab S51 ann_law05_TrackAnswers_B9 J Try.f6 post) = True := by kernel_rfl
theorem spec_law05_TrackAnswers_B9 (m0 m1 m2 m3 m4 m5 m6 m7 m8 m9 m10 m11 : Int) (b0 b1 b2 b3 b4 b5 : Int) (q0 q1 q2 q3 : Int) (l : List THit) (hl : (l).length ≤ 14) (hA : ((⟨m0, m1, m2, m3, m4, m5, m6, m7, m8, m9, m10, m11⟩ : TMod)).err = 0) (hB : ((⟨⟨b0, b1, b2⟩, ⟨b3, b4, b5⟩⟩ : TBox)).err = 9) : vc_law05_TrackAnswers_B9 m0 m1 m2 m3 m4 m5 m6 m7 m8 m9 m10 m11 b0 b1 b2 b3 b4 b5 q0 q1 q2 q3 l (fun r => LeD r (.t (.c (.v (.bool true))))) := by
  unfold vc_law05_TrackAnswers_B9
  simp only [hits_listC]
  have hd : decide (l.length ≤ 14) = true := decide_eq_true hl
  have n := numsP_hits l
  have hE : firstNZ [firstNZ [(⟨m0, m1, m2, m3, m4, m5, m6, m7, m8, m9, m10, m11⟩ : TMod).err, (⟨⟨b0, b1, b2⟩, ⟨b3, b4, b5⟩⟩ : TBox).err], momE ⟨q0, q1, q2⟩ q3, unl (canW (⟨m0, m1, m2, m3, m4, m5, m6, m7, m8, m9, m10, m11⟩ : TMod) (⟨⟨b0, b1, b2⟩, ⟨b3, b4, b5⟩⟩ : TBox)) 12] = 9 := by simp [firstNZ, unl, hA, hB]
  have hS : firstNZ [firstNZ [firstNZ [(⟨m0, m1, m2, m3, m4, m5, m6, m7, m8, m9, m10, m11⟩ : TMod).err, (⟨⟨b0, b1, b2⟩, ⟨b3, b4, b5⟩⟩ : TBox).err], hitsE l], unl (canW (⟨m0, m1, m2, m3, m4, m5, m6, m7, m8, m9, m10, m11⟩ : TMod) (⟨⟨b0, b1, b2⟩, ⟨b3, b4, b5⟩⟩ : TBox)) 12] = 9 := by simp [firstNZ, unl, hA, hB]
  have hln : l.length ≤ 1000000 := by omega
  repeat' with_reducible first
    | (refine And.intro rfl ?_)
    | (refine And.intro trivial ?_)
    | (refine And.intro n ?_)
    | (refine And.intro ⟨n, hln⟩ ?_)
    | (refine And.intro (by assumption) ?_)
    | (refine And.intro ⟨n, hd⟩ ?_)
    | (refine And.intro ⟨n, hE⟩ ?_)
    | (refine And.intro ⟨n, hS⟩ ?_)
    | (refine And.intro ⟨n, hH⟩ ?_)
    | (refine And.intro ⟨by assumption, by assumption⟩ ?_)
    | (refine lt_i ?_; intro _ _)
    | (refine cond_i (fun h => ?_) (fun h => ?_))
  all_goals first | exact LeD.refl _ | (exfalso; simp at h; done) | (refine leB ?_; simp; done)
theorem law_law05_TrackAnswers_B9 (m0 m1 m2 m3 m4 m5 m6 m7 m8 m9 m10 m11 : Int) (b0 b1 b2 b3 b4 b5 : Int) (q0 q1 q2 q3 : Int) (l : List THit) (hl : (l).length ≤ 14) (hA : ((⟨m0, m1, m2, m3, m4, m5, m6, m7, m8, m9, m10, m11⟩ : TMod)).err = 0) (hB : ((⟨⟨b0, b1, b2⟩, ⟨b3, b4, b5⟩⟩ : TBox)).err = 9) (W : World) (N : Nat → Prop) (vs : List Value) (h : All2 (RelD (RelF W N)) [.t (.a [.v (.int .i64 m0), .v (.int .i64 m1), .v (.int .i64 m2), .v (.int .i64 m3), .v (.int .i64 m4), .v (.int .i64 m5), .v (.int .i64 m6), .v (.int .i64 m7), .v (.int .i64 m8), .v (.int .i64 m9), .v (.int .i64 m10), .v (.int .i64 m11)]), .t (.a [.v (.int .i64 b0), .v (.int .i64 b1), .v (.int .i64 b2), .v (.int .i64 b3), .v (.int .i64 b4), .v (.int .i64 b5)]), .t (.a [.v (.int .i64 q0), .v (.int .i64 q1), .v (.int .i64 q2), .v (.int .i64 q3), .sl 5 l.length (hitsC l)])] vs) : Calls Try.prog 6 vs.toArray W fun e w' => e = .returned (.bool true) ∧ Below W.heap.size W w' :=
  law_end (fn_sound mixed tabOK VS51 (ann := ann_law05_TrackAnswers_B9) ValidIt.no (fn := Try.f6) (J := fun _ _ _ => False) (by kernel_rfl) fit_law05_TrackAnswers_B9 (args := [.t (.a [.v (.int .i64 m0), .v (.int .i64 m1), .v (.int .i64 m2), .v (.int .i64 m3), .v (.int .i64 m4), .v (.int .i64 m5), .v (.int .i64 m6), .v (.int .i64 m7), .v (.int .i64 m8), .v (.int .i64 m9), .v (.int .i64 m10), .v (.int .i64 m11)]), .t (.a [.v (.int .i64 b0), .v (.int .i64 b1), .v (.int .i64 b2), .v (.int .i64 b3), .v (.int .i64 b4), .v (.int .i64 b5)]), .t (.a [.v (.int .i64 q0), .v (.int .i64 q1), .v (.int .i64 q2), .v (.int .i64 q3), .sl 5 l.length (hitsC l)])]) (post := (fun r => LeD r (.t (.c (.v (.bool true)))))) (by rw [ev_law05_TrackAnswers_B9]; exact spec_law05_TrackAnswers_B9 m0 m1 m2 m3 m4 m5 m6 m7 m8 m9 m10 m11 b0 b1 b2 b3 b4 b5 q0 q1 q2 q3 l hl hA hB) (by rw [lp_law05_TrackAnswers_B9]; trivial) (Nat.le_of_ble_eq_true (by kernel_rfl)) W N vs h)

def con_ref05_BoxErr_8 : Con := fun args => match args with
  | [.t (.a [.v (.int .i64 b0), .v (.int .i64 b1), .v (.int .i64 b2), .v (.int .i64 b3), .v (.int .i64 b4), .v (.int .i64 b5)])] => some (.t (.c (.v (.int .i64 8))), some (((⟨⟨b0, b1, b2⟩, ⟨b3, b4, b5⟩⟩ : TBox)).err = 8), false)
  | _ => none
theorem ok_ref05_BoxErr_8 : Ok Try.prog 39 con_ref05_BoxErr_8 := by
  refine Ok.over ok_ref05_BoxErr fun args r pre fresh h hp => ?_
  unfold con_ref05_BoxErr_8 at h
  split at h
  · rename_i b0 b1 b2 b3 b4 b5
    cases h
    have hq := hp
    (try simp only [okP] at hq)
    refine ⟨_, _, rfl, trivial, ?_⟩
    simp_all
  · cases h
def con_track_AnswerIn_e8 : Con := fun args => match args with
  | [.t (.a [.v (.int .i64 m0), .v (.int .i64 m1), .v (.int .i64 m2), .v (.int .i64 m3), .v (.int .i64 m4), .v (.int .i64 m5), .v (.int .i64 m6), .v (.int .i64 m7), .v (.int .i64 m8), .v (.int .i64 m9), .v (.int .i64 m10), .v (.int .i64 m11)]), .t (.a [.v (.int .i64 b0), .v (.int .i64 b1), .v (.int .i64 b2), .v (.int .i64 b3), .v (.int .i64 b4), .v (.int .i64 b5)]), .t (.a [.v (.int .i64 p0), .v (.int .i64 p1), .v (.int .i64 p2), .v (.int .i64 p3)])] => some (.tu [.c (.v (.int .i64 0)), .c (.v (.int .i64 8))], some (firstNZ [firstNZ [((⟨m0, m1, m2, m3, m4, m5, m6, m7, m8, m9, m10, m11⟩ : TMod)).err, ((⟨⟨b0, b1, b2⟩, ⟨b3, b4, b5⟩⟩ : TBox)).err], momE ⟨p0, p1, p2⟩ p3, unl (canW (⟨m0, m1, m2, m3, m4, m5, m6, m7, m8, m9, m10, m11⟩ : TMod) (⟨⟨b0, b1, b2⟩, ⟨b3, b4, b5⟩⟩ : TBox)) 12] = 8), false)
  | _ => none
theorem ok_track_AnswerIn_e8 : Ok Try.prog 37 con_track_AnswerIn_e8 := by
  refine Ok.over ok_track_AnswerIn fun args r pre fresh h hp => ?_
  unfold con_track_AnswerIn_e8 at h
  split at h
  · rename_i m0 m1 m2 m3 m4 m5 m6 m7 m8 m9 m10 m11 b0 b1 b2 b3 b4 b5 p0 p1 p2 p3
    cases h
    have hq := hp
    (try simp only [okP] at hq)
    refine ⟨_, _, rfl, trivial, ?_⟩
    simp_all
  · cases h
def con_track_ScoresIn_e8 : Con := fun args => match args with
  | [.t (.a [.v (.int .i64 m0), .v (.int .i64 m1), .v (.int .i64 m2), .v (.int .i64 m3), .v (.int .i64 m4), .v (.int .i64 m5), .v (.int .i64 m6), .v (.int .i64 m7), .v (.int .i64 m8), .v (.int .i64 m9), .v (.int .i64 m10), .v (.int .i64 m11)]), .t (.a [.v (.int .i64 b0), .v (.int .i64 b1), .v (.int .i64 b2), .v (.int .i64 b3), .v (.int .i64 b4), .v (.int .i64 b5)]), .t (.c (.sl 5 n_l c_l))] => some (.tu [.a [.v (.int .i64 0), .v (.int .i64 0)], .c (.v (.int .i64 8))], some (numsP 5 n_l c_l ∧ firstNZ [firstNZ [firstNZ [((⟨m0, m1, m2, m3, m4, m5, m6, m7, m8, m9, m10, m11⟩ : TMod)).err, ((⟨⟨b0, b1, b2⟩, ⟨b3, b4, b5⟩⟩ : TBox)).err], hitsE (listC n_l mkHit c_l)], unl (canW (⟨m0, m1, m2, m3, m4, m5, m6, m7, m8, m9, m10, m11⟩ : TMod) (⟨⟨b0, b1, b2⟩, ⟨b3, b4, b5⟩⟩ : TBox)) 12] = 8), false)
  | _ => none
theorem ok_track_ScoresIn_e8 : Ok Try.prog 38 con_track_ScoresIn_e8 := by
  refine Ok.over ok_track_ScoresIn fun args r pre fresh h hp => ?_
  unfold con_track_ScoresIn_e8 at h
  split at h
  · rename_i m0 m1 m2 m3 m4 m5 m6 m7 m8 m9 m10 m11 b0 b1 b2 b3 b4 b5 n_l c_l
    cases h
    have hq := hp.2
    (try simp only [okP] at hq)
    refine ⟨_, _, rfl, hp.1, ?_⟩
    simp_all
  · cases h
def S52 : Sum := addS S29 18 con_ref05_ModelErr_0
theorem VS52 : Valid Try.prog S52 := Valid.add VS29 ok_ref05_ModelErr_0
def S53 : Sum := addS S52 39 con_ref05_BoxErr_8
theorem VS53 : Valid Try.prog S53 := Valid.add VS52 ok_ref05_BoxErr_8
def S54 : Sum := addS S53 37 con_track_AnswerIn_e8
theorem VS54 : Valid Try.prog S54 := Valid.add VS53 ok_track_AnswerIn_e8
def S55 : Sum := addS S54 38 con_track_ScoresIn_e8
theorem VS55 : Valid Try.prog S55 := Valid.add VS54 ok_track_ScoresIn_e8
def S56 : Sum := addS S55 28 con_law05_few_t
theorem VS56 : Valid Try.prog S56 := Valid.add VS55 ok_law05_few_t
def vc_law05_TrackAnswers_B8 (m0 m1 m2 m3 m4 m5 m6 m7 m8 m9 m10 m11 : Int) (b0 b1 b2 b3 b4 b5 : Int) (q0 q1 q2 q3 : Int) (l : List THit) (post : DV → Prop) : Prop := (numsP 5 l.length (hitsC l) ∧ decide (((listC l.length mkHit (hitsC l))).length ≤ 14) = true) ∧ ((firstNZ [firstNZ [((⟨m0, m1, m2, m3, m4, m5, m6, m7, m8, m9, m10, m11⟩ : TMod)).err, ((⟨⟨b0, b1, b2⟩, ⟨b3, b4, b5⟩⟩ : TBox)).err], momE ⟨q0, q1, q2⟩ q3, unl (canW (⟨m0, m1, m2, m3, m4, m5, m6, m7, m8, m9, m10, m11⟩ : TMod) (⟨⟨b0, b1, b2⟩, ⟨b3, b4, b5⟩⟩ : TBox)) 12] = 8) ∧ ((numsP 5 l.length (hitsC l) ∧ ((listC l.length mkHit (hitsC l))).length ≤ 1000000) ∧ ((numsP 5 ((listC l.length mkHit (hitsC l)).length) (hitsC (listC l.length mkHit (hitsC l))) ∧ firstNZ [firstNZ [firstNZ [((⟨m0, m1, m2, m3, m4, m5, m6, m7, m8, m9, m10, m11⟩ : TMod)).err, ((⟨⟨b0, b1, b2⟩, ⟨b3, b4, b5⟩⟩ : TBox)).err], hitsE (listC ((listC l.length mkHit (hitsC l)).length) mkHit (hitsC (listC l.length mkHit (hitsC l))))], unl (canW (⟨m0, m1, m2, m3, m4, m5, m6, m7, m8, m9, m10, m11⟩ : TMod) (⟨⟨b0, b1, b2⟩, ⟨b3, b4, b5⟩⟩ : TBox)) 12] = 8) ∧ ((((⟨m0, m1, m2, m3, m4, m5, m6, m7, m8, m9, m10, m11⟩ : TMod)).err = 0) ∧ ((((⟨⟨b0, b1, b2⟩, ⟨b3, b4, b5⟩⟩ : TBox)).err = 8) ∧ ((false = false) ∧ (post (.t (.c (.v (.bool (bif true then (bif true then true else false) else false))))))))))))
def ann_law05_TrackAnswers_B8 : Ann := ⟨fun r => lookA r [(6, ([[], [], [], [2], [2, 3], [0, 1, 2, 3, 4], [0, 1, 2, 3, 4, 5], [0, 1, 2, 3, 4, 5, 6], [0, 1, 2, 3, 4, 5, 6], [], [0, 1, 2, 3, 4, 5, 6, 7, 9], [0, 1, 2, 3, 4, 5, 6, 7, 8, 9, 10]], [[9], [9], [9], [9], [9], [9], [9], [9], [9], [], [], []])), (12, ([[], [0], [0, 1], [], [3], [0, 1, 2, 3, 4], [0, 1, 2, 3, 4, 5], [0, 1, 2, 3, 4, 5, 6]], [[], [], [], [], [], [], [], []])), (21, ([[], [0], [0, 1], [0, 1, 2], [0, 1, 2], [0, 1, 2], [0, 1, 2], [0, 1, 2, 6], [0, 1, 2, 4, 5, 6, 7], [0, 1, 2, 3, 4, 5, 6, 7, 8], [0, 1, 2, 3, 4, 5, 6, 7, 8, 9], [0, 1, 2, 3, 4, 5, 6, 7, 8, 9, 10]], [[], [], [], [], [], [], [], [], [], [], [], []]))], fun _ => none, fun _ => [], noIt⟩
theorem ev_law05_TrackAnswers_B8 (J : Inv) (m0 m1 m2 m3 m4 m5 m6 m7 m8 m9 m10 m11 : Int) (b0 b1 b2 b3 b4 b5 : Int) (q0 q1 q2 q3 : Int) (l : List THit) (post : DV → Prop) : evFn Try.prog tab S56 ann_law05_TrackAnswers_B8 J Try.f6 [.t (.a [.v (.int .i64 m0), .v (.int .i64 m1), .v (.int .i64 m2), .v (.int .i64 m3), .v (.int .i64 m4), .v (.int .i64 m5), .v (.int .i64 m6), .v (.int .i64 m7), .v (.int .i64 m8), .v (.int .i64 m9), .v (.int .i64 m10), .v (.int .i64 m11)]), .t (.a [.v (.int .i64 b0), .v (.int .i64 b1), .v (.int .i64 b2), .v (.int .i64 b3), .v (.int .i64 b4), .v (.int .i64 b5)]), .t (.a [.v (.int .i64 q0), .v (.int .i64 q1), .v (.int .i64 q2), .v (.int .i64 q3), .sl 5 l.length (hitsC l)])] post = vc_law05_TrackAnswers_B8 m0 m1 m2 m3 m4 m5 m6 m7 m8 m9 m10 m11 b0 b1 b2 b3 b4 b5 q0 q1 q2 q3 l post := by kernel_rfl
theorem fit_law05_TrackAnswers_B8 : okFn ann_law05_TrackAnswers_B8 Try.f6 = true := by kernel_rfl
theorem lp_law05_TrackAnswers_B8 (J : Inv) (post : DV → Prop) : AllG J (loopsFn Try.prog tab S56 ann_law05_TrackAnswers_B8 J Try.f6 post) = True := by kernel_rfl
theorem spec_law05_TrackAnswers_B8 (m0 m1 m2 m3 m4 m5 m6 m7 m8 m9 m10 m11 : Int) (b0 b1 b2 b3 b4 b5 : Int) (q0 q1 q2 q3 : Int) (l : List THit) (hl : (l).length ≤ 14) (hA : ((⟨m0, m1, m2, m3, m4, m5, m6, m7, m8, m9, m10, m11⟩ : TMod)).err = 0) (hB : ((⟨⟨b0, b1, b2⟩, ⟨b3, b4, b5⟩⟩ : TBox)).err = 8) : vc_law05_TrackAnswers_B8 m0 m1 m2 m3 m4 m5 m6 m7 m8 m9 m10 m11 b0 b1 b2 b3 b4 b5 q0 q1 q2 q3 l (fun r => LeD r (.t (.c (.v (.bool true))))) := by
  unfold vc_law05_TrackAnswers_B8
  simp only [hits_listC]
  have hd : decide (l.length ≤ 14) = true := decide_eq_true hl
  have n := numsP_hits l
  have hE : firstNZ [firstNZ [(⟨m0, m1, m2, m3, m4, m5, m6, m7, m8, m9, m10, m11⟩ : TMod).err, (⟨⟨b0, b1, b2⟩, ⟨b3, b4, b5⟩⟩ : TBox).err], momE ⟨q0, q1, q2⟩ q3, unl (canW (⟨m0, m1, m2, m3, m4, m5, m6, m7, m8, m9, m10, m11⟩ : TMod) (⟨⟨b0, b1, b2⟩, ⟨b3, b4, b5⟩⟩ : TBox)) 12] = 8 := by simp [firstNZ, unl, hA, hB]
  have hS : firstNZ [firstNZ [firstNZ [(⟨m0, m1, m2, m3, m4, m5, m6, m7, m8, m9, m10, m11⟩ : TMod).err, (⟨⟨b0, b1, b2⟩, ⟨b3, b4, b5⟩⟩ : TBox).err], hitsE l], unl (canW (⟨m0, m1, m2, m3, m4, m5, m6, m7, m8, m9, m10, m11⟩ : TMod) (⟨⟨b0, b1, b2⟩, ⟨b3, b4, b5⟩⟩ : TBox)) 12] = 8 := by simp [firstNZ, unl, hA, hB]
  have hln : l.length ≤ 1000000 := by omega
  repeat' with_reducible first
    | (refine And.intro rfl ?_)
    | (refine And.intro trivial ?_)
    | (refine And.intro n ?_)
    | (refine And.intro ⟨n, hln⟩ ?_)
    | (refine And.intro (by assumption) ?_)
    | (refine And.intro ⟨n, hd⟩ ?_)
    | (refine And.intro ⟨n, hE⟩ ?_)
    | (refine And.intro ⟨n, hS⟩ ?_)
    | (refine And.intro ⟨n, hH⟩ ?_)
    | (refine And.intro ⟨by assumption, by assumption⟩ ?_)
    | (refine lt_i ?_; intro _ _)
    | (refine cond_i (fun h => ?_) (fun h => ?_))
  all_goals first | exact LeD.refl _ | (exfalso; simp at h; done) | (refine leB ?_; simp; done)
theorem law_law05_TrackAnswers_B8 (m0 m1 m2 m3 m4 m5 m6 m7 m8 m9 m10 m11 : Int) (b0 b1 b2 b3 b4 b5 : Int) (q0 q1 q2 q3 : Int) (l : List THit) (hl : (l).length ≤ 14) (hA : ((⟨m0, m1, m2, m3, m4, m5, m6, m7, m8, m9, m10, m11⟩ : TMod)).err = 0) (hB : ((⟨⟨b0, b1, b2⟩, ⟨b3, b4, b5⟩⟩ : TBox)).err = 8) (W : World) (N : Nat → Prop) (vs : List Value) (h : All2 (RelD (RelF W N)) [.t (.a [.v (.int .i64 m0), .v (.int .i64 m1), .v (.int .i64 m2), .v (.int .i64 m3), .v (.int .i64 m4), .v (.int .i64 m5), .v (.int .i64 m6), .v (.int .i64 m7), .v (.int .i64 m8), .v (.int .i64 m9), .v (.int .i64 m10), .v (.int .i64 m11)]), .t (.a [.v (.int .i64 b0), .v (.int .i64 b1), .v (.int .i64 b2), .v (.int .i64 b3), .v (.int .i64 b4), .v (.int .i64 b5)]), .t (.a [.v (.int .i64 q0), .v (.int .i64 q1), .v (.int .i64 q2), .v (.int .i64 q3), .sl 5 l.length (hitsC l)])] vs) : Calls Try.prog 6 vs.toArray W fun e w' => e = .returned (.bool true) ∧ Below W.heap.size W w' :=
  law_end (fn_sound mixed tabOK VS56 (ann := ann_law05_TrackAnswers_B8) ValidIt.no (fn := Try.f6) (J := fun _ _ _ => False) (by kernel_rfl) fit_law05_TrackAnswers_B8 (args := [.t (.a [.v (.int .i64 m0), .v (.int .i64 m1), .v (.int .i64 m2), .v (.int .i64 m3), .v (.int .i64 m4), .v (.int .i64 m5), .v (.int .i64 m6), .v (.int .i64 m7), .v (.int .i64 m8), .v (.int .i64 m9), .v (.int .i64 m10), .v (.int .i64 m11)]), .t (.a [.v (.int .i64 b0), .v (.int .i64 b1), .v (.int .i64 b2), .v (.int .i64 b3), .v (.int .i64 b4), .v (.int .i64 b5)]), .t (.a [.v (.int .i64 q0), .v (.int .i64 q1), .v (.int .i64 q2), .v (.int .i64 q3), .sl 5 l.length (hitsC l)])]) (post := (fun r => LeD r (.t (.c (.v (.bool true)))))) (by rw [ev_law05_TrackAnswers_B8]; exact spec_law05_TrackAnswers_B8 m0 m1 m2 m3 m4 m5 m6 m7 m8 m9 m10 m11 b0 b1 b2 b3 b4 b5 q0 q1 q2 q3 l hl hA hB) (by rw [lp_law05_TrackAnswers_B8]; trivial) (Nat.le_of_ble_eq_true (by kernel_rfl)) W N vs h)

end Go.Proofs.Ytlmdmpjfehpjeaa
