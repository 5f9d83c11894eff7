/- Texts of this claim, together. -/
import Derived.Test.YtkifmfmenobhnaaCR10

set_option linter.unusedVariables false
set_option linter.unusedSimpArgs false
namespace Go.Proofs.Ytkifmfmenobhnaa
open Go.RowKit Ev
theorem lps_ok {l : List Lp} (h : lpE l = 0) : lpsOk l := ⟨(lpE_ok h).1, fun k hk => ⟨((lpE_ok h).2 k hk).1, ((lpE_ok h).2 k hk).2.1⟩⟩
theorem tfK_succ (l : List Lp) (n : Int) (k : Nat) : tfK l n (k + 1) = tfK l n k ++ (if erB l (n - erS l k) k = true then [n - erS l k] else []) := by
 unfold tfK
 rw [List.range_succ, List.filter_append, List.map_append]
 congr 1
 rw [List.filter_cons]
 cases erB l (n - erS l k) k <;> rfl
theorem tfK_len (l : List Lp) (n : Int) (k : Nat) : (tfK l n k).length ≤ k := by
 unfold tfK
 rw [List.length_map]
 have := List.length_filter_le (fun i => erB l (n - erS l i) i) (List.range k)
 rwa [List.length_range] at this
def vc_clock_eras (l : List Lp) (post : DV → Prop) : Prop := post (.t (.fn 125 [.px 1 0 (boxC [.sl 2 l.length (lppsC l)])]))
def ann_clock_eras : Ann := ⟨fun _ => none, fun _ => none, fun _ => [], I1, false, fun _ => none, fun _ => none⟩
theorem ev_clock_eras (J : Inv) (l : List Lp) (post : DV → Prop) : evFn Try.prog tab Sn86 ann_clock_eras J Try.f86 [.t (.c (.sl 2 l.length (lppsC l)))] post = vc_clock_eras l post := by kernel_rfl
theorem fit_clock_eras : okFn ann_clock_eras Try.f86 = true := by kernel_rfl
theorem lp_clock_eras (J : Inv) (post : DV → Prop) : AllG J (loopsFn Try.prog tab Sn86 ann_clock_eras J Try.f86 post) = (True) := by kernel_rfl
theorem spec_clock_eras (l : List Lp) : vc_clock_eras l (fun r => LeD r (.t (.fn 125 [.px 1 0 (boxC [.sl 2 l.length (lppsC l)])]))) := by
 exact LeD.refl _
def con_clock_eras : Con := fun args => match args with
 | [.t (.c (.sl 2 n_l c_l))] => some (.t (.fn 125 [.px 1 0 (boxC [.sl 2 ((listC n_l mkLpp c_l).length) (lppsC (listC n_l mkLpp c_l))])]), some (numsP 2 n_l c_l), false)
 | _ => none
theorem ok_clock_eras : Ok Try.prog 86 con_clock_eras := by
 refine Ok.fn (ann := ann_clock_eras) mixed tabOK VSn86 VI1 (fn := Try.f86) (by kernel_rfl) (by kernel_rfl) fit_clock_eras fun args r pre fresh h hp => ?_
 unfold con_clock_eras at h
 split at h
 ·rename_i n_l c_l
  cases h
  have hp0 := hp
  refine ⟨rfl, fun _ _ _ => False, [.t (.c (.sl 2 ((listC n_l mkLpp c_l).length) (lppsC (listC n_l mkLpp c_l))))], ?_, Nat.le_of_ble_eq_true (by kernel_rfl), ?_, ?_⟩
  ·exact (LeA_cons (leT_c ((leL_Lp hp0))) LeA_nil)
  ·rw [ev_clock_eras]; exact spec_clock_eras (listC n_l mkLpp c_l)
  ·rw [lp_clock_eras]; trivial
 ·cases h
def St87 : Sum := addS Sn86 86 con_clock_eras
theorem VSt87 : Valid Try.prog St87 := Valid.add VSn86 ok_clock_eras
def St88 : Sum := St87
theorem VSt88 : Valid Try.prog St88 := VSt87
def mk_clock_TicksFor_0 (l : List Lp) (n : Int) (v0_0 : List Int) : DS := ⟨[none, none, none, some (.t (.c (.p 3 0))), none, none, none, some (.t (.c (.p 7 0))), none, none, none, none, none, none, none, none, none, none, none, none, none, some (.t (.fn 125 [.px 1 0 (boxC [.sl 2 ((listC l.length mkLpp (lppsC l)).length) (lppsC (listC l.length mkLpp (lppsC l)))])])), none, none, none, none, none, none, none, none, none, none, none, none, none, none, none, none, none], [some (.num 3 .i64 v0_0), none, none, some (.box 3 [.v (.int .i64 n)]), none, none, none, some (.box 22 [.os 0]), none, none, none, none, none, none, none, none, none, none, none, none, none, none, none, none, none, none, none, none, none, none, none, none, none, none, none, none, none, none, none]⟩
def vc_clock_TicksFor (J : Inv) (l : List Lp) (n : Int) (post : DV → Prop) : Prop := (numsP 2 l.length (lppsC l)) ∧ ((numsP 1 2 (genC [[.v (.int .i64 (lpE (listC l.length mkLpp (lppsC l))))], [.v (.int .i64 (unl (inB n (-2000000000000 : Int) (2000000000000 : Int)) (2 : Int)))]]) ∧ (([(lpE (listC l.length mkLpp (lppsC l))), (unl (inB n (-2000000000000 : Int) (2000000000000 : Int)) (2 : Int))] : List Int)).length ≤ 100) ∧ (cond ((firstNZ ([(lpE (listC l.length mkLpp (lppsC l))), (unl (inB n (-2000000000000 : Int) (2000000000000 : Int)) (2 : Int))] : List Int)) != (0 : Int)) (post (.tu [.c (.v (.slice none 0 0)), .c (.v (.int .i64 (firstNZ ([(lpE (listC l.length mkLpp (lppsC l))), (unl (inB n (-2000000000000 : Int) (2000000000000 : Int)) (2 : Int))] : List Int))))])) ((numsP 2 l.length (lppsC l)) ∧ ((slP 2 ((boxC [.sl 2 ((listC l.length mkLpp (lppsC l)).length) (lppsC (listC l.length mkLpp (lppsC l)))]) 0) ∧ numsP 2 ((listC l.length mkLpp (lppsC l)).length) (lppsC (listC l.length mkLpp (lppsC l))) ∧ lpsOk (listC ((listC l.length mkLpp (lppsC l)).length) mkLpp (lppsC (listC l.length mkLpp (lppsC l))))) ∧ (J 0 [0] (mk_clock_TicksFor_0 l n ([])))))))
def ann_clock_TicksFor : Ann := ⟨fun r => lookA r [(1, ([[], [0], [], [0, 1, 2], [0, 1, 2, 3], [0, 1, 2, 3, 4], [0, 1, 2, 3, 4, 5], [0, 1, 2, 3, 4, 5, 6]], [[11, 13, 14, 15, 16], [13, 14, 15, 16], [11, 13, 14, 15, 16], [14, 15, 16], [15, 16], [16], [], []]))], fun b => lookA b [(0, (none, some ⟨[3, 7, 21], [3, 7], []⟩))], fun b => (lookA b [(0, [(7, 0, 0, .num 3 .i64 ([]))])]).getD [], I1, true, fun _ => none, fun _ => none⟩
theorem ev_clock_TicksFor (J : Inv) (l : List Lp) (n : Int) (post : DV → Prop) : evFn Try.prog tab St88 ann_clock_TicksFor J Try.f20 [.t (.c (.sl 2 l.length (lppsC l))), .t (.c (.v (.int .i64 n)))] post = vc_clock_TicksFor J l n post := by kernel_rfl
theorem fit_clock_TicksFor : okFn ann_clock_TicksFor Try.f20 = true := by kernel_rfl
def rd_clock_TicksFor_0 (J : Inv) (l : List Lp) (n : Int) (v0_0 : List Int) (nn0 : Nat) (post : DV → Prop) : Prop := (nn0 = ((listC ((listC l.length mkLpp (lppsC l)).length) mkLpp (lppsC (listC l.length mkLpp (lppsC l)))).length + 1) → post (.tu [.c (.sl 1 v0_0.length (numsC .i64 v0_0)), .c (.v (.int .i64 0))])) ∧ (nn0 < ((listC ((listC l.length mkLpp (lppsC l)).length) mkLpp (lppsC (listC l.length mkLpp (lppsC l)))).length + 1) → lt (IntKind.i64.wrap (n - (erS (listC ((listC l.length mkLpp (lppsC l)).length) mkLpp (lppsC (listC l.length mkLpp (lppsC l)))) nn0))) fun x1 => cond (inB x1 (erF (listC ((listC l.length mkLpp (lppsC l)).length) mkLpp (lppsC (listC l.length mkLpp (lppsC l)))) nn0) (erT (listC ((listC l.length mkLpp (lppsC l)).length) mkLpp (lppsC (listC l.length mkLpp (lppsC l)))) nn0)) (lt (IntKind.i64.wrap (n - (erS (listC ((listC l.length mkLpp (lppsC l)).length) mkLpp (lppsC (listC l.length mkLpp (lppsC l)))) nn0))) fun x2 => ((IntKind.i64 = IntKind.i64 ∧ True) ∧ roomP 8 (v0_0.length + ([x2] : List Int).length)) ∧ (((some (.t (.fn 125 [.px 1 0 (boxC [.sl 2 ((listC l.length mkLpp (lppsC l)).length) (lppsC (listC l.length mkLpp (lppsC l)))])])) : Option DV) = some (.t (.fn 125 [.px 1 0 (boxC [.sl 2 ((listC l.length mkLpp (lppsC l)).length) (lppsC (listC l.length mkLpp (lppsC l)))])]))) ∧ J 0 [nn0 + 1] (mk_clock_TicksFor_0 l n (v0_0 ++ ([x2]))))) (((some (.t (.fn 125 [.px 1 0 (boxC [.sl 2 ((listC l.length mkLpp (lppsC l)).length) (lppsC (listC l.length mkLpp (lppsC l)))])])) : Option DV) = some (.t (.fn 125 [.px 1 0 (boxC [.sl 2 ((listC l.length mkLpp (lppsC l)).length) (lppsC (listC l.length mkLpp (lppsC l)))])]))) ∧ J 0 [nn0 + 1] (mk_clock_TicksFor_0 l n v0_0)))
theorem er_clock_TicksFor_0 (J : Inv) (l : List Lp) (n : Int) (v0_0 : List Int) (nn0 : Nat) (post : DV → Prop) : round Try.prog tab St88 ann_clock_TicksFor J Try.f20 post 0 (nn0 :: []) (mk_clock_TicksFor_0 l n v0_0) = rd_clock_TicksFor_0 J l n v0_0 nn0 post := by kernel_rfl
theorem lp_clock_TicksFor (J : Inv) (post : DV → Prop) : AllG J (loopsFn Try.prog tab St88 ann_clock_TicksFor J Try.f20 post) = ((∀ i s, J 0 [i] s → round Try.prog tab St88 ann_clock_TicksFor J Try.f20 post 0 [i] s) ∧ True) := by kernel_rfl
def J_clock_TicksFor (l : List Lp) (n : Int) : Inv := fun b F s => match b, F with
 | 0, [nn0] => ∃ (v0_0 : List Int), s = mk_clock_TicksFor_0 l n v0_0 ∧ (tfE l n = 0 ∧ nn0 ≤ l.length + 1 ∧ v0_0 = tfK l n nn0)
 | _, _ => False
theorem rnd_clock_TicksFor_0 (l : List Lp) (n : Int) (v0_0 : List Int) (nn0 : Nat) (hi : tfE l n = 0 ∧ nn0 ≤ l.length + 1 ∧ v0_0 = tfK l n nn0) : rd_clock_TicksFor_0 (J_clock_TicksFor l n) l n v0_0 nn0 (fun r => LeD r (.tu [.c (.sl 1 ((tfV l n).length) (intsC (tfV l n))), .c (.v (.int .i64 (tfE l n)))])) := by
 obtain ⟨q, i1, i2⟩ := hi
 obtain ⟨q1, q2⟩ := fn2 (show firstNZ [_, _] = 0 from q)
 rw [unl_0 (by decide), inB_true] at q2
 unfold rd_clock_TicksFor_0
 simp only [lpps_listC]
 refine ⟨fun h => ?_, fun h => lt_i fun x1 h1 => cond_i (fun e => lt_i fun x2 h2 => ⟨⟨by trivial, ?_⟩, by trivial, _, rfl, q, by omega, ?_⟩) (fun e => ⟨by trivial, _, rfl, q, by omega, ?_⟩)⟩
 ·rw [show tfV l n = tfK l n (l.length + 1) from if_pos q, q, i2, h]
  exact LeD.refl _
 all_goals
  have r := erS_rg (lps_ok q1) nn0 (by omega)
  have b := (lpE_ok q1).1
  rw [wi (by omega)] at h1
  subst h1
 ·have hl := tfK_len l n nn0
  unfold roomP maxLen; rw [i2]; simp; omega
 ·rw [wi (by omega)] at h2
  rw [tfK_succ, if_pos (show erB l (n - erS l nn0) nn0 = true from e), i2, h2]
 ·rw [tfK_succ, if_neg (by rw [show erB l (n - erS l nn0) nn0 = false from e]; simp), i2, List.append_nil]
theorem spec_clock_TicksFor (l : List Lp) (n : Int) : vc_clock_TicksFor (J_clock_TicksFor l n) l n (fun r => LeD r (.tu [.c (.sl 1 ((tfV l n).length) (intsC (tfV l n))), .c (.v (.int .i64 (tfE l n)))])) := by
 unfold vc_clock_TicksFor
 simp only [lpps_listC]
 refine ⟨numsP_lpps l, ⟨numsP_gen [_, _], Nat.le_of_ble_eq_true rfl⟩, cond_i (fun h => ?_) (fun h => ?_)⟩
 ·have h : tfE l n ≠ 0 := by unfold tfE; simpa using h
  rw [show tfV l n = [] from if_neg h]
  exact le_tu le_nil (LeD.refl _)
 ·have h : tfE l n = 0 := by unfold tfE; simpa using h
  exact ⟨numsP_lpps l, ⟨rfl, numsP_lpps l, lps_ok (fn2 (show firstNZ [_, _] = 0 from h)).1⟩, _, rfl, h, Nat.zero_le _, rfl⟩
theorem all_clock_TicksFor (l : List Lp) (n : Int) : AllG (J_clock_TicksFor l n) (loopsFn Try.prog tab St88 ann_clock_TicksFor (J_clock_TicksFor l n) Try.f20 (fun r => LeD r (.tu [.c (.sl 1 ((tfV l n).length) (intsC (tfV l n))), .c (.v (.int .i64 (tfE l n)))]))) := by
 rw [lp_clock_TicksFor]
 refine ⟨?_, trivial⟩
 ·intro i s h
  obtain ⟨w0, rfl, hi⟩ := h
  rw [er_clock_TicksFor_0]
  exact rnd_clock_TicksFor_0 l n _ _ hi
def con_clock_TicksFor : Con := fun args => match args with
 | [.t (.c (.sl 2 n_l c_l)), .t (.c (.v (.int .i64 n)))] => some (.tu [.c (.sl 1 ((tfV (listC n_l mkLpp c_l) n).length) (intsC (tfV (listC n_l mkLpp c_l) n))), .c (.v (.int .i64 (tfE (listC n_l mkLpp c_l) n)))], some (numsP 2 n_l c_l), true)
 | _ => none
theorem ok_clock_TicksFor : Ok Try.prog 20 con_clock_TicksFor := by
 refine Ok.fnFr (ann := ann_clock_TicksFor) mixed tabOK VSt88 VI1 rfl (fn := Try.f20) (by kernel_rfl) (by kernel_rfl) fit_clock_TicksFor fun args r pre fresh h hp => ?_
 unfold con_clock_TicksFor at h
 split at h
 ·rename_i n_l c_l n
  cases h
  have hp0 := hp
  refine ⟨rfl, (by intro x hx; simp only [List.mem_cons, List.not_mem_nil, or_false] at hx; rcases hx with rfl | rfl; exact (fun i j _ hj => plain_int _ i j); exact trivial), J_clock_TicksFor (listC n_l mkLpp c_l) n, [.t (.c (.sl 2 ((listC n_l mkLpp c_l).length) (lppsC (listC n_l mkLpp c_l)))), .t (.c (.v (.int .i64 n)))], ?_, Nat.le_of_ble_eq_true (by kernel_rfl), ?_, ?_⟩
  ·exact (LeA_cons (leT_c ((leL_Lp hp0))) (LeA_cons (LeD.refl _) LeA_nil))
  ·rw [ev_clock_TicksFor]; exact spec_clock_TicksFor (listC n_l mkLpp c_l) n
  ·exact all_clock_TicksFor (listC n_l mkLpp c_l) n
 ·cases h
def St89 : Sum := addS St88 20 con_clock_TicksFor
theorem VSt89 : Valid Try.prog St89 := Valid.add VSt88 ok_clock_TicksFor
def St90 : Sum := St89
theorem VSt90 : Valid Try.prog St90 := VSt89
end Go.Proofs.Ytkifmfmenobhnaa
set_option linter.unusedVariables false
set_option linter.unusedSimpArgs false
namespace Go.Proofs.Ytkifmfmenobhnaa
open Go.RowKit Ev
def bdF (l : List Lnk) (n : Nat) : Nat → Nat → Int := kK (lnkM l l.length) n n
def bdB (l : List Lnk) (n : Nat) : Bool := (List.range n).all fun i => decide (0 ≤ bdF l n i i)
def bdN (l : List Lnk) (n : Nat) : Nat := if bdB l n = true then n else 0
def matC (n : Nat) (f : Nat → Nat → Int) : Nat → Nat → CV := fun i _ => .sl 1 n (fun j _ => .v (.int .i64 (f i j)))
def bdOk (n : Int) (l : List Lnk) : Prop := (1 ≤ n ∧ n ≤ 6) ∧ l.length ≤ 12 ∧ ∀ k, k < l.length → (lnkAt l k).ok n.toNat
theorem bdB_true {l : List Lnk} {n : Nat} : bdB l n = true ↔ ∀ i, i < n → 0 ≤ bdF l n i i := by
 unfold bdB; simp [List.all_eq_true]
theorem bdB_false {l : List Lnk} {n : Nat} (h : ∃ i, i < n ∧ bdF l n i i < 0) : bdB l n = false := by
 obtain ⟨i, hi, hn⟩ := h
 cases e : bdB l n
 ·rfl
 ·have := bdB_true.1 e i hi; omega
def con_bounds : Con := fun args => match args with
 | [.t (.c (.v (.int .i64 n))), .t (.c (.sl 4 n_ls c_ls))] => some (.tu [.c (.sl 1 (bdN (listC n_ls mkLnk c_ls) n.toNat) (matC n.toNat (bdF (listC n_ls mkLnk c_ls) n.toNat))), .c (.v (.bool (bdB (listC n_ls mkLnk c_ls) n.toNat)))], some (numsP 4 n_ls c_ls ∧ bdOk n (listC n_ls mkLnk c_ls)), Fre.no)
 | _ => none
theorem ok_bounds : Ok Try.prog 93 con_bounds := by
 intro args r pre fresh h hp
 unfold con_bounds at h
 split at h
 ·rename_i n n_ls c_ls
  cases h
  obtain ⟨hp0, hp⟩ := hp
  refine ⟨Enters.of (fn := Try.f93) (by kernel_rfl) (by kernel_rfl) (by kernel_rfl), fun W N vs hG hv => ?_⟩
  have hv : All2 (RelD (RelF W N)) [.t (.c (.v (.int .i64 n))), .t (.c (.sl 4 n_ls c_ls))] vs := hv
  obtain ⟨v0, us0, rfl, r0, hv0⟩ := hv.cons_inv
  obtain ⟨v1, us1, rfl, r1, hv1⟩ := hv0.cons_inv
  obtain rfl := hv1.nil_inv
  obtain ⟨rfl, _⟩ : v0 = .int .i64 n ∧ _ := r0
  have h1 : RelF W N (.sl 4 (listC n_ls mkLnk c_ls).length (lnksC (listC n_ls mkLnk c_ls))) v1 := leL_Lnk hp0 W N v1 r1
  generalize listC n_ls mkLnk c_ls = L at *
  obtain ⟨ao, cap, rfl, hcap, hmx, hnil, hcells⟩ := h1
  obtain ⟨⟨hn1, hn2⟩, hl, hok⟩ := hp
  obtain ⟨m, rfl⟩ : ∃ m : Nat, n = m := ⟨n.toNat, by omega⟩
  rw [Int.toNat_natCast] at *
  refine (walk_bounds W m (by omega) L ao cap hl (low_links (by omega) hok) hok ?_).mono ?_
  ·intro k hk
   obtain ⟨b, off, e1, e2, e3, e4⟩ := hcells (by omega)
   obtain ⟨x0, a0, b0⟩ := e4 k 0 hk (by omega)
   obtain ⟨x1, a1, b1⟩ := e4 k 1 hk (by omega)
   obtain ⟨x2, a2, b2⟩ := e4 k 2 hk (by omega)
   obtain ⟨x3, a3, b3⟩ := e4 k 3 hk (by omega)
   obtain ⟨rfl, _⟩ := b0
   obtain ⟨rfl, _⟩ := b1
   obtain ⟨rfl, _⟩ := b2
   obtain ⟨rfl, _⟩ := b3
   exact ⟨b, off, e1, e2, a0, a1, a2, a3⟩
  ·rintro e w' ⟨hb, ⟨hex, rfl⟩ | ⟨hall, rfl, hM⟩⟩
   ·refine ⟨_, rfl, ?_, hb⟩
    have e := bdB_false (l := L) (n := m) hex
    simp only [RetOk]
    unfold bdN
    rw [e]
    exact ⟨[_, _], rfl, ⟨none, 0, rfl, Nat.le_refl _, by unfold maxLen; omega, fun _ => rfl, fun h => absurd h (by simp)⟩, ⟨rfl, rfl⟩, trivial⟩
   ·refine ⟨_, rfl, ?_, hb⟩
    have e : bdB L m = true := bdB_true.2 hall
    simp only [RetOk]
    unfold bdN
    rw [e, if_pos rfl]
    refine ⟨[_, _], rfl, ⟨some ⟨W.heap.size, 0, none⟩, m, rfl, Nat.le_refl _, by unfold maxLen; omega, (fun h => by cases h), fun _ => ⟨W.heap.size, 0, rfl, hM.lt.1, Or.inr (Nat.le_refl _), fun i j hi hj => ⟨.slice (some ⟨W.heap.size + 2 + 2 * i, 0, none⟩) m m, ?_, ?_⟩⟩⟩, ⟨rfl, rfl⟩, trivial⟩
    ·rw [show 0 + i * 1 + j = i by omega]; exact hM.cell_top hi hi
    ·refine ⟨some ⟨W.heap.size + 2 + 2 * i, 0, none⟩, m, rfl, Nat.le_refl _, by unfold maxLen; omega, (fun h => by cases h), fun _ => ⟨_, 0, rfl, hM.lt.2 i hi, Or.inr (by omega), fun i' j' hi' hj' => ⟨_, ?_, rfl, rfl⟩⟩⟩
     rw [show 0 + i' * 1 + j' = i' by omega]
     exact hM.cell_row hi hi'
 ·cases h
end Go.Proofs.Ytkifmfmenobhnaa
set_option linter.unusedVariables false
set_option linter.unusedSimpArgs false
namespace Go.Proofs.Ytkifmfmenobhnaa
open Go.RowKit Ev
def txCv (s : ByteArray) : List CV := [.v (.string s)]
theorem leC_txs (l : List ByteArray) : LeC1 (.sl 1 (l.map txCv).length (genC (l.map txCv))) (.sl 1 l.length (txsC l)) := by
 rw [List.length_map]
 refine leSlC fun i j hi hj => ?_
 obtain rfl : j = 0 := by omega
 refine leC_k ?_
 simp [genC, txsC, txCv, txAt, List.getD, hi]
theorem leC_lnks (l : List Lnk) : LeC1 (.sl 4 (l.map lnkCv).length (genC (l.map lnkCv))) (.sl 4 l.length (lnksC l)) := fun w N v h => le_lnks l w N v h
theorem plain_str (l : List ByteArray) (i j : Nat) : ∃ y, txsC l i j = .v y := ⟨_, rfl⟩
theorem stepK_le (f : Nat → Nat → Int) (k i j x y : Nat) : stepK f k i j x y ≤ f x y := by
 unfold stepK
 split
 ·unfold updI
  split
  ·rename_i h; rw [h.1, h.2]; omega
  ·omega
 ·omega
theorem jK_le (f : Nat → Nat → Int) (k i : Nat) : ∀ j x y, jK f k i j x y ≤ f x y := by
 intro j
 induction j with
 | zero => intro x y; exact Int.le_refl _
 | succ j ih => intro x y; exact Int.le_trans (stepK_le _ k i j x y) (ih x y)
theorem iK_le (f : Nat → Nat → Int) (n k : Nat) : ∀ i x y, iK f n k i x y ≤ f x y := by
 intro i
 induction i with
 | zero => intro x y; exact Int.le_refl _
 | succ i ih => intro x y; exact Int.le_trans (jK_le _ k i n x y) (ih x y)
theorem kK_le (f : Nat → Nat → Int) (n : Nat) : ∀ k x y, kK f n k x y ≤ f x y := by
 intro k
 induction k with
 | zero => intro x y; exact Int.le_refl _
 | succ k ih => intro x y; exact Int.le_trans (iK_le _ n k n x y) (ih x y)
theorem lnkM_hi (l : List Lnk) : ∀ k, k ≤ l.length → ∀ x y, lnkM l k x y ≤ far := by
 intro k
 induction k with
 | zero => intro _ x y; show initM x y ≤ far; unfold initM far; split <;> decide
 | succ k ih =>
  intro hk x y
  have i := ih (by omega)
  rw [lnkM_succ hk]
  generalize lnkAt l k = z at *
  have F : ∀ x y, lnkF (lnkM l k) z x y ≤ far := by
   intro x y
   unfold lnkF updI
   have := i z.frm.toNat z.to.toNat
   have := i x y
   split <;> omega
  unfold lnkG updI
  have := F z.to.toNat z.frm.toNat
  have := F x y
  split <;> omega
theorem bdF_rg {n : Nat} {l : List Lnk} (h : bdOk n l) (x y : Nat) : -50000000000000 ≤ bdF l n x y ∧ bdF l n x y ≤ 1152921504606846976 := by
 obtain ⟨hn, hl, hok⟩ := h
 rw [Int.toNat_natCast] at hok
 have h1 := kK_low (by decide) (lnkM_low hok l.length (Nat.le_refl _)) n n x y
 have h2 := kK_le (lnkM l l.length) n n x y
 have h3 := lnkM_hi l l.length (Nat.le_refl _) x y
 unfold bdF
 unfold far at h3
 refine ⟨?_, by omega⟩
 rcases (by omega : n = 1 ∨ n = 2 ∨ n = 3 ∨ n = 4 ∨ n = 5 ∨ n = 6) with rfl | rfl | rfl | rfl | rfl | rfl <;> simp at h1 <;> omega
theorem ntE_ok {cs : List ByteArray} {ls : List Lnk} (h : ntE cs ls = 0) : ntH cs ls = 0 ∧ (∀ j, j < cs.length → nmE cs j = 0) ∧ ∀ j, j < ls.length → lkE cs.length (lnkAt ls j) = 0 := by
 unfold ntE at h
 split at h
 ·rename_i g; exact absurd h g
 ·rename_i g
  split at h
  ·rename_i g2; exact absurd h g2
  ·rename_i g2
   exact ⟨by omega, scan_zero (by omega), scan_zero h⟩
theorem fnz {a : Int} {l : List Int} (h : firstNZ (a :: l) = 0) : a = 0 ∧ firstNZ l = 0 := by
 by_cases e : a = 0
 ·subst e; exact ⟨rfl, by simpa [firstNZ] using h⟩
 ·simp [firstNZ, e] at h
theorem lkE_ok {n : Nat} {x : Lnk} (h : lkE n x = 0) : x.ok n := by
 obtain ⟨h1, h⟩ := fnz (show firstNZ (_ :: _) = 0 from h)
 obtain ⟨h2, h⟩ := fnz h
 obtain ⟨h3, h⟩ := fnz h
 obtain ⟨h4, _⟩ := fnz h
 rw [unl_0 (by decide)] at h1 h2 h3 h4
 rw [Bool.and_eq_true, inB_true, inB_true] at h1 h3
 have h4 := of_decide_eq_true h4
 have h2 : x.frm ≠ x.to := by simpa using h2
 exact ⟨by omega, by omega, h2, by omega, h4, by omega⟩
theorem ntE_bd {cs : List ByteArray} {ls : List Lnk} (h : ntE cs ls = 0) : bdOk cs.length ls := by
 obtain ⟨h1, h2, h3⟩ := ntE_ok h
 have h1 := ntH_ok h1
 refine ⟨by omega, h1.2, fun k hk => ?_⟩
 rw [Int.toNat_natCast]
 exact lkE_ok (h3 k hk)
def opnB (l : List Lnk) (n i : Nat) : Bool := (bdF l n 0 i == 1152921504606846976) || (bdF l n i 0 == 1152921504606846976)
def ofS (cs : List ByteArray) (ls : List Lnk) : Bool := (List.range cs.length).any (opnB ls cs.length)
def ofE (cs : List ByteArray) (ls : List Lnk) : Int := if ntE cs ls ≠ 0 then ntE cs ls else if bdB ls cs.length = true then (if ofS cs ls = true then 21 else 0) else 13
def ofK (ls : List Lnk) (n k : Nat) : List Rg := (List.range k).map fun i => ⟨-bdF ls n i 0, bdF ls n 0 i⟩
theorem ofK_succ (ls : List Lnk) (n k : Nat) : ofK ls n (k + 1) = ofK ls n k ++ [⟨-bdF ls n k 0, bdF ls n 0 k⟩] := by
 unfold ofK; rw [List.range_succ, List.map_append]; rfl
def ofV (cs : List ByteArray) (ls : List Lnk) : List Rg := if ofE cs ls = 0 then ofK ls cs.length cs.length else []
def exP : List Png := [⟨1000, 50, 250, 1300⟩, ⟨101000, 100050, 100250, 101304⟩]
def exC : List ByteArray := [⟨#[97]⟩, ⟨#[98]⟩, ⟨#[100]⟩]
def exL : List Lnk := [⟨0, 1, 5, 7⟩, ⟨1, 2, 1, 2⟩, ⟨0, 2, 7, 10⟩]
def Sw91 : Sum := addS St90 93 con_bounds
theorem VSw91 : Valid Try.prog Sw91 := Valid.add VSt90 ok_bounds
def Sw92 : Sum := Sw91
theorem VSw92 : Valid Try.prog Sw92 := VSw91
def mk_clock_OffsetsOf_0 (cs : List ByteArray) (ls : List Lnk) (v0_0 : List (List CV)) (v0_1 : Int) : DS := ⟨[none, none, none, none, none, some (.t (.c (.sl 1 (bdN (listC ls.length mkLnk (lnksC ls)) ((((cs.length : Nat) : Int)).toNat)) (matC ((((cs.length : Nat) : Int)).toNat) (bdF (listC ls.length mkLnk (lnksC ls)) ((((cs.length : Nat) : Int)).toNat)))))), none, some (.t (.c (.os 7))), none, none, none, none, none, none, none, none, none, none, none, none, none, none, none, none, none, none, none, some (.t (.c (.v (.int .i64 ((cs.length : Nat) : Int))))), some (.t (.c (.v (.int .i64 v0_1)))), none, none, none, none, none, none, none, none, none, none, none, none, none, none, none, none, none, none, none, none, none, none, none, none, none, none, none, none, none, none, none, none, none, none, none, none, none], [none, none, none, none, none, none, none, some (.gen 90 2 v0_0), none, none, none, none, none, none, none, none, none, none, none, none, none, none, none, none, none, none, none, none, none, none, none, none, none, none, none, none, none, none, none, none, none, none, none, none, none, none, none, none, none, none, none, none, none, none, none, none, none, none, none, none, none, none, none, none, none, none]⟩
def vc_clock_OffsetsOf (J : Inv) (cs : List ByteArray) (ls : List Lnk) (post : DV → Prop) : Prop := (txP cs.length (txsC cs) ∧ numsP 4 ls.length (lnksC ls) ∧ (∀ k, k < ((txOf cs.length (txsC cs))).length → (txAt (txOf cs.length (txsC cs)) k).size ≤ 1000000)) ∧ (cond ((ntE (txOf cs.length (txsC cs)) (listC ls.length mkLnk (lnksC ls))) != (0 : Int)) (post (.tu [.c (.v (.slice none 0 0)), .c (.v (.int .i64 (ntE (txOf cs.length (txsC cs)) (listC ls.length mkLnk (lnksC ls)))))])) ((numsP 4 ls.length (lnksC ls) ∧ bdOk ((cs.length : Nat) : Int) (listC ls.length mkLnk (lnksC ls))) ∧ (cond (!(bdB (listC ls.length mkLnk (lnksC ls)) ((((cs.length : Nat) : Int)).toNat))) (post (.tu [.c (.v (.slice none 0 0)), .c (.v (.int .i64 13))])) (∃ n, J 0 (n :: []) (mk_clock_OffsetsOf_0 cs ls ([]) 0)))))
def ann_clock_OffsetsOf : Ann := ⟨fun r => lookA r [(13, ([[], [], [], [1, 2], [1, 2, 3], [1, 2, 3, 4], [1, 2, 3, 4, 5], [1, 2, 3, 4, 5, 6], [], [8], [8, 9], [], [8, 9, 10, 11], [8, 9, 10, 11, 12], [1, 2, 3, 4, 5, 6, 7, 8, 9, 10, 11, 12, 13], [1, 2, 3, 4, 5, 6, 7, 8, 9, 10, 11, 12, 13, 14], [0, 1, 2, 3, 4, 5, 6, 7, 8, 9, 10, 11, 12, 13, 14, 15], [0, 1, 2, 3, 4, 5, 6, 7, 8, 9, 10, 11, 12, 13, 14, 15, 16]], [[62], [62], [62], [62], [62], [62], [62], [62], [62], [62], [62], [62], [62], [62], [62], [], [], []]))], fun b => lookA b [(0, (none, some ⟨[5, 27, 28], [], [(7, .gen 90 2 [])]⟩))], fun _ => [], I1, false, fun r => lookA r [(11, (8, [46]))], fun _ => none⟩
theorem ev_clock_OffsetsOf (J : Inv) (cs : List ByteArray) (ls : List Lnk) (post : DV → Prop) : evFn Try.prog tab Sw92 ann_clock_OffsetsOf J Try.f39 [.t (.a [.sl 1 cs.length (txsC cs), .sl 4 ls.length (lnksC ls)])] post = vc_clock_OffsetsOf J cs ls post := by kernel_rfl
theorem fit_clock_OffsetsOf : okFn ann_clock_OffsetsOf Try.f39 = true := by kernel_rfl
def rd_clock_OffsetsOf_0 (J : Inv) (cs : List ByteArray) (ls : List Lnk) (v0_0 : List (List CV)) (v0_1 : Int) (nn0 : Nat) (post : DV → Prop) : Prop := cond (decide (v0_1 < ((cs.length : Nat) : Int))) ((0 ≤ (0 : Int) ∧ (0 : Int) < (((bdN (listC ls.length mkLnk (lnksC ls)) ((((cs.length : Nat) : Int)).toNat)) : Nat) : Int)) ∧ ((0 ≤ v0_1 ∧ v0_1 < (((((cs.length : Nat) : Int)).toNat : Nat) : Int)) ∧ ((cond ((bdF (listC ls.length mkLnk (lnksC ls)) ((((cs.length : Nat) : Int)).toNat) 0 v0_1.toNat) == (1152921504606846976 : Int)) ((true = true) ∧ (True)) ((0 ≤ v0_1 ∧ v0_1 < (((bdN (listC ls.length mkLnk (lnksC ls)) ((((cs.length : Nat) : Int)).toNat)) : Nat) : Int)) ∧ ((0 ≤ (0 : Int) ∧ (0 : Int) < (((((cs.length : Nat) : Int)).toNat : Nat) : Int)) ∧ (True)))) ∧ (lt ((bif ((bdF (listC ls.length mkLnk (lnksC ls)) ((((cs.length : Nat) : Int)).toNat) 0 v0_1.toNat) == (1152921504606846976 : Int)) then true else ((bdF (listC ls.length mkLnk (lnksC ls)) ((((cs.length : Nat) : Int)).toNat) v0_1.toNat 0) == (1152921504606846976 : Int)))) fun x1 => cond x1 (post (.tu [.c (.v (.slice none 0 0)), .c (.v (.int .i64 21))])) ((0 ≤ v0_1 ∧ v0_1 < (((bdN (listC ls.length mkLnk (lnksC ls)) ((((cs.length : Nat) : Int)).toNat)) : Nat) : Int)) ∧ ((0 ≤ (0 : Int) ∧ (0 : Int) < (((((cs.length : Nat) : Int)).toNat : Nat) : Int)) ∧ (lt (IntKind.i64.wrap ((0 : Int) - (bdF (listC ls.length mkLnk (lnksC ls)) ((((cs.length : Nat) : Int)).toNat) v0_1.toNat 0))) fun x2 => (0 ≤ (0 : Int) ∧ (0 : Int) < (((bdN (listC ls.length mkLnk (lnksC ls)) ((((cs.length : Nat) : Int)).toNat)) : Nat) : Int)) ∧ ((0 ≤ v0_1 ∧ v0_1 < (((((cs.length : Nat) : Int)).toNat : Nat) : Int)) ∧ ((roomP 16 (v0_0.length + ([[.v (.int .i64 x2), .v (.int .i64 (bdF (listC ls.length mkLnk (lnksC ls)) ((((cs.length : Nat) : Int)).toNat) 0 v0_1.toNat))]] : List (List CV)).length)) ∧ (lt (IntKind.i64.wrap (v0_1 + (1 : Int))) fun x3 => J 0 (nn0 :: []) (mk_clock_OffsetsOf_0 cs ls (v0_0 ++ ([[.v (.int .i64 x2), .v (.int .i64 (bdF (listC ls.length mkLnk (lnksC ls)) ((((cs.length : Nat) : Int)).toNat) 0 v0_1.toNat))]] : List (List CV))) x3))))))))))) (post (.tu [.c (.sl 2 v0_0.length (genC v0_0)), .c (.v (.int .i64 0))]))
theorem er_clock_OffsetsOf_0 (J : Inv) (cs : List ByteArray) (ls : List Lnk) (v0_0 : List (List CV)) (v0_1 : Int) (nn0 : Nat) (post : DV → Prop) : round Try.prog tab Sw92 ann_clock_OffsetsOf J Try.f39 post 0 (nn0 :: []) (mk_clock_OffsetsOf_0 cs ls v0_0 v0_1) = rd_clock_OffsetsOf_0 J cs ls v0_0 v0_1 nn0 post := by kernel_rfl
theorem lp_clock_OffsetsOf (J : Inv) (post : DV → Prop) : AllG J (loopsFn Try.prog tab Sw92 ann_clock_OffsetsOf J Try.f39 post) = (((∀ F s, ¬ J 0 (0 :: F) s) ∧ ∀ n F s, J 0 ((n + 1) :: F) s → round Try.prog tab Sw92 ann_clock_OffsetsOf J Try.f39 post 0 (n :: F) s) ∧ True) := by kernel_rfl
def J_clock_OffsetsOf (cs : List ByteArray) (ls : List Lnk) : Inv := fun b F s => match b, F with
 | 0, [nn0] => ∃ (v0_0 : List (List CV)) (v0_1 : Int), s = mk_clock_OffsetsOf_0 cs ls v0_0 v0_1 ∧ ((ntE cs ls = 0 ∧ bdB ls cs.length = true) ∧ 0 ≤ v0_1 ∧ v0_1 ≤ cs.length ∧ (nn0 : Int) + v0_1 = cs.length + 1 ∧ v0_0 = (ofK ls cs.length v0_1.toNat).map rgCv ∧ ∀ j : Nat, (j : Int) < v0_1 → opnB ls cs.length j = false)
 | _, _ => False
theorem rnd_clock_OffsetsOf_0 (cs : List ByteArray) (ls : List Lnk) (v0_0 : List (List CV)) (v0_1 : Int) (nn0 : Nat) (hp : (∀ k, k < (cs).length → (txAt cs k).size ≤ 1000000)) (hi : (ntE cs ls = 0 ∧ bdB ls cs.length = true) ∧ 0 ≤ v0_1 ∧ v0_1 ≤ cs.length ∧ ((nn0 + 1) : Int) + v0_1 = cs.length + 1 ∧ v0_0 = (ofK ls cs.length v0_1.toNat).map rgCv ∧ ∀ j : Nat, (j : Int) < v0_1 → opnB ls cs.length j = false) : rd_clock_OffsetsOf_0 (J_clock_OffsetsOf cs ls) cs ls v0_0 v0_1 nn0 (fun r => LeD r (.tu [.c (.sl 2 ((ofV cs ls).length) (rgsC (ofV cs ls))), .c (.v (.int .i64 (ofE cs ls)))])) := by
 obtain ⟨q, i1, i2, i3, i4, i5⟩ := hi
 obtain ⟨k, rfl⟩ : ∃ k : Nat, v0_1 = k := ⟨v0_1.toNat, by omega⟩
 have hk : (k : Int).toNat = k := rfl
 rw [hk] at i4
 unfold rd_clock_OffsetsOf_0
 simp only [lnks_listC, Int.toNat_natCast]
 have eN : bdN ls cs.length = cs.length := if_pos q.2
 have z := ntE_bd q.1
 have zn := z.1
 rw [eN]
 refine cond_i (fun h => ?_) (fun h => ?_)
 ·have hlt : k < cs.length := by have := of_decide_eq_true h; omega
  have b1 := bdF_rg z k 0
  refine ⟨⟨by trivial, by omega⟩, ⟨by omega, by omega⟩, ⟨cond_i (fun _ => ⟨by trivial, trivial⟩) (fun _ => ⟨⟨by omega, by omega⟩, ⟨by trivial, by omega⟩, trivial⟩), lt_i fun x1 h1 => ?_⟩⟩
  have e1 : x1 = opnB ls cs.length k := by rw [← h1]; unfold opnB; cases (bdF ls cs.length 0 k == 1152921504606846976) <;> rfl
  subst e1
  refine cond_i (fun g => ?_) (fun g => ⟨⟨by omega, by omega⟩, ⟨by trivial, by omega⟩, lt_i fun x2 h2 => ⟨⟨by trivial, by omega⟩, ⟨by omega, by omega⟩, ?_, lt_i fun x3 h3 => ?_⟩⟩)
  ·have e : ofE cs ls = 21 := by
    unfold ofE
    rw [if_neg (by rw [q.1]; simp), if_pos q.2, if_pos]
    unfold ofS
    rw [List.any_eq_true]
    exact ⟨k, List.mem_range.2 hlt, g⟩
   rw [show ofV cs ls = [] from if_neg (by rw [e]; decide), e]
   exact le_tu le_nil (LeD.refl _)
  ·unfold roomP maxLen; rw [i4]; simp [ofK]; omega
  ·rw [wi (by omega)] at h2 h3
   subst h2 h3
   refine ⟨_, _, rfl, q, by omega, by omega, by omega, ?_, fun j hj => ?_⟩
   ·rw [show ((k : Int) + 1).toNat = k + 1 by omega, ofK_succ, List.map_append, i4, Int.zero_sub]
    rfl
   ·rcases (by omega : (j : Int) < k ∨ j = k) with c | rfl
    ·exact i5 j c
    ·exact g
 ·have h := of_decide_eq_false h
  have e : k = cs.length := by omega
  have eS : ofS cs ls = false := by
   unfold ofS
   rw [Bool.eq_false_iff]
   intro c
   obtain ⟨j, hj, hj2⟩ := List.any_eq_true.1 c
   have := List.mem_range.1 hj
   rw [i5 j (by omega)] at hj2
   cases hj2
  have e0 : ofE cs ls = 0 := by
   unfold ofE
   rw [if_neg (by rw [q.1]; simp), if_pos q.2, if_neg (by rw [eS]; simp)]
  rw [show ofV cs ls = ofK ls cs.length cs.length from if_pos e0, e0, i4, e]
  exact le_tu (le_rgs _) (LeD.refl _)
theorem zero_clock_OffsetsOf_0 (cs : List ByteArray) (ls : List Lnk) (v0_0 : List (List CV)) (v0_1 : Int)  (hi : (ntE cs ls = 0 ∧ bdB ls cs.length = true) ∧ 0 ≤ v0_1 ∧ v0_1 ≤ cs.length ∧ (0 : Int) + v0_1 = cs.length + 1 ∧ v0_0 = (ofK ls cs.length v0_1.toNat).map rgCv ∧ ∀ j : Nat, (j : Int) < v0_1 → opnB ls cs.length j = false) : False := by
 omega
theorem spec_clock_OffsetsOf (cs : List ByteArray) (ls : List Lnk) (hp : (∀ k, k < (cs).length → (txAt cs k).size ≤ 1000000)) : vc_clock_OffsetsOf (J_clock_OffsetsOf cs ls) cs ls (fun r => LeD r (.tu [.c (.sl 2 ((ofV cs ls).length) (rgsC (ofV cs ls))), .c (.v (.int .i64 (ofE cs ls)))])) := by
 unfold vc_clock_OffsetsOf
 simp only [lnks_listC, txs_of, Int.toNat_natCast]
 refine ⟨⟨txP_txs cs, numsP_lnks ls, hp⟩, cond_i (fun h => ?_) (fun h => ?_)⟩
 ·have h : ntE cs ls ≠ 0 := by simpa using h
  have e : ofE cs ls = ntE cs ls := if_pos h
  rw [show ofV cs ls = [] from if_neg (by rw [e]; exact h), e]
  exact le_tu le_nil (LeD.refl _)
 ·have h : ntE cs ls = 0 := by simpa using h
  refine ⟨⟨numsP_lnks ls, ntE_bd h⟩, cond_i (fun g => ?_) (fun g => ?_)⟩
  ·have g : bdB ls cs.length = false := by simpa using g
   have e : ofE cs ls = 13 := by unfold ofE; rw [if_neg (by rw [h]; simp), if_neg (by rw [g]; simp)]
   rw [show ofV cs ls = [] from if_neg (by rw [e]; decide), e]
   exact le_tu le_nil (LeD.refl _)
  ·have g : bdB ls cs.length = true := by simpa using g
   exact ⟨cs.length + 1, [], 0, rfl, ⟨h, g⟩, by omega, by omega, by omega, rfl, fun j hj => by omega⟩
theorem all_clock_OffsetsOf (cs : List ByteArray) (ls : List Lnk) (hp : (∀ k, k < (cs).length → (txAt cs k).size ≤ 1000000)) : AllG (J_clock_OffsetsOf cs ls) (loopsFn Try.prog tab Sw92 ann_clock_OffsetsOf (J_clock_OffsetsOf cs ls) Try.f39 (fun r => LeD r (.tu [.c (.sl 2 ((ofV cs ls).length) (rgsC (ofV cs ls))), .c (.v (.int .i64 (ofE cs ls)))]))) := by
 rw [lp_clock_OffsetsOf]
 refine ⟨⟨?_, ?_⟩, trivial⟩
 ·intro F s h
  obtain _ | ⟨g, F⟩ := F
  case cons => exact h.elim
  obtain ⟨w0, w1, rfl, hi⟩ := h
  exact zero_clock_OffsetsOf_0 cs ls w0 w1 hi
 ·intro n F s h
  obtain _ | ⟨g, F⟩ := F
  case cons => exact h.elim
  obtain ⟨w0, w1, rfl, hi⟩ := h
  rw [er_clock_OffsetsOf_0]
  exact rnd_clock_OffsetsOf_0 cs ls _ _ _ hp hi
def con_clock_OffsetsOf : Con := fun args => match args with
 | [.t (.a [.sl 1 n_cs c_cs, .sl 4 n_ls c_ls])] => some (.tu [.c (.sl 2 ((ofV (txOf n_cs c_cs) (listC n_ls mkLnk c_ls)).length) (rgsC (ofV (txOf n_cs c_cs) (listC n_ls mkLnk c_ls)))), .c (.v (.int .i64 (ofE (txOf n_cs c_cs) (listC n_ls mkLnk c_ls))))], some (txP n_cs c_cs ∧ numsP 4 n_ls c_ls ∧ (∀ k, k < ((txOf n_cs c_cs)).length → (txAt (txOf n_cs c_cs) k).size ≤ 1000000)), false)
 | _ => none
theorem ok_clock_OffsetsOf : Ok Try.prog 39 con_clock_OffsetsOf := by
 refine Ok.fn (ann := ann_clock_OffsetsOf) mixed tabOK VSw92 VI1 (fn := Try.f39) (by kernel_rfl) (by kernel_rfl) fit_clock_OffsetsOf fun args r pre fresh h hp => ?_
 unfold con_clock_OffsetsOf at h
 split at h
 ·rename_i n_cs c_cs n_ls c_ls
  cases h
  obtain ⟨hp0, hp1, hp⟩ := hp
  refine ⟨rfl, J_clock_OffsetsOf (txOf n_cs c_cs) (listC n_ls mkLnk c_ls), [.t (.a [.sl 1 ((txOf n_cs c_cs).length) (txsC (txOf n_cs c_cs)), .sl 4 ((listC n_ls mkLnk c_ls).length) (lnksC (listC n_ls mkLnk c_ls))])], ?_, Nat.le_of_ble_eq_true (by kernel_rfl), ?_, ?_⟩
  ·exact (LeA_cons (leT_a (LeCs.cons ((leL_str hp0)) (LeCs.cons ((leL_Lnk hp1)) LeCs.nil))) LeA_nil)
  ·rw [ev_clock_OffsetsOf]; exact spec_clock_OffsetsOf (txOf n_cs c_cs) (listC n_ls mkLnk c_ls) hp
  ·exact all_clock_OffsetsOf (txOf n_cs c_cs) (listC n_ls mkLnk c_ls) hp
 ·cases h
def Sw93 : Sum := addS Sw92 39 con_clock_OffsetsOf
theorem VSw93 : Valid Try.prog Sw93 := Valid.add VSw92 ok_clock_OffsetsOf
def Sw94 : Sum := Sw93
theorem VSw94 : Valid Try.prog Sw94 := VSw93
def vc_law01_few (c0 : Int) (c1 : Int) (l : List Png) (post : DV → Prop) : Prop := post (.t (.c (.v (.bool (decide (((l.length : Nat) : Int) ≤ (14 : Int)))))))
def ann_law01_few : Ann := ⟨fun _ => none, fun _ => none, fun _ => [], I1, false, fun _ => none, fun _ => none⟩
theorem ev_law01_few (J : Inv) (c0 : Int) (c1 : Int) (l : List Png) (post : DV → Prop) : evFn Try.prog tab Sw94 ann_law01_few J Try.f45 [.t (.a [.v (.int .i64 c0), .v (.int .i64 c1), .sl 4 l.length (pngsC l)])] post = vc_law01_few c0 c1 l post := by kernel_rfl
theorem fit_law01_few : okFn ann_law01_few Try.f45 = true := by kernel_rfl
theorem lp_law01_few (J : Inv) (post : DV → Prop) : AllG J (loopsFn Try.prog tab Sw94 ann_law01_few J Try.f45 post) = (True) := by kernel_rfl
theorem spec_law01_few (c0 : Int) (c1 : Int) (l : List Png) : vc_law01_few c0 c1 l (fun r => LeD r (.t (.c (.v (.bool (decide (((l).length : Int) ≤ 14))))))) := by
 exact LeD.refl _
def con_law01_few : Con := fun args => match args with
 | [.t (.a [.v (.int .i64 c0), .v (.int .i64 c1), .sl 4 n_l c_l])] => some (.t (.c (.v (.bool (decide ((((listC n_l mkPng c_l)).length : Int) ≤ 14))))), some (numsP 4 n_l c_l), false)
 | _ => none
theorem ok_law01_few : Ok Try.prog 45 con_law01_few := by
 refine Ok.fn (ann := ann_law01_few) mixed tabOK VSw94 VI1 (fn := Try.f45) (by kernel_rfl) (by kernel_rfl) fit_law01_few fun args r pre fresh h hp => ?_
 unfold con_law01_few at h
 split at h
 ·rename_i c0 c1 n_l c_l
  cases h
  have hp0 := hp
  refine ⟨rfl, fun _ _ _ => False, [.t (.a [.v (.int .i64 c0), .v (.int .i64 c1), .sl 4 ((listC n_l mkPng c_l).length) (pngsC (listC n_l mkPng c_l))])], ?_, Nat.le_of_ble_eq_true (by kernel_rfl), ?_, ?_⟩
  ·exact (LeA_cons (leT_a (LeCs.cons (LeC1.refl _) (LeCs.cons (LeC1.refl _) (LeCs.cons ((leL_Png hp0)) LeCs.nil)))) LeA_nil)
  ·rw [ev_law01_few]; exact spec_law01_few c0 c1 (listC n_l mkPng c_l)
  ·rw [lp_law01_few]; trivial
 ·cases h
def Sw95 : Sum := addS Sw94 45 con_law01_few
theorem VSw95 : Valid Try.prog Sw95 := Valid.add VSw94 ok_law01_few
def Sw96 : Sum := Sw95
theorem VSw96 : Valid Try.prog Sw96 := VSw95
def vc_law01_Cable  (post : DV → Prop) : Prop := post (.t (.a [.v (.int .i64 100), .v (.int .i64 2)]))
def ann_law01_Cable : Ann := ⟨fun _ => none, fun _ => none, fun _ => [], I1, false, fun _ => none, fun _ => none⟩
theorem ev_law01_Cable (J : Inv)  (post : DV → Prop) : evFn Try.prog tab Sw96 ann_law01_Cable J Try.f122 [] post = vc_law01_Cable  post := by kernel_rfl
theorem fit_law01_Cable : okFn ann_law01_Cable Try.f122 = true := by kernel_rfl
theorem lp_law01_Cable (J : Inv) (post : DV → Prop) : AllG J (loopsFn Try.prog tab Sw96 ann_law01_Cable J Try.f122 post) = (True) := by kernel_rfl
theorem spec_law01_Cable  : vc_law01_Cable  (fun r => LeD r (.t (.a [.v (.int .i64 100), .v (.int .i64 2)]))) := by
 exact LeD.refl _
def con_law01_Cable : Con := fun args => match args with
 | [] => some (.t (.a [.v (.int .i64 100), .v (.int .i64 2)]), none, false)
 | _ => none
theorem ok_law01_Cable : Ok Try.prog 122 con_law01_Cable := by
 refine Ok.fn (ann := ann_law01_Cable) mixed tabOK VSw96 VI1 (fn := Try.f122) (by kernel_rfl) (by kernel_rfl) fit_law01_Cable fun args r pre fresh h hp => ?_
 unfold con_law01_Cable at h
 split at h
 ·cases h
  refine ⟨rfl, fun _ _ _ => False, _, LeA.refl _, Nat.le_of_ble_eq_true (by kernel_rfl), ?_, ?_⟩
  ·rw [ev_law01_Cable]; exact spec_law01_Cable 
  ·rw [lp_law01_Cable]; trivial
 ·cases h
def Sw97 : Sum := addS Sw96 122 con_law01_Cable
theorem VSw97 : Valid Try.prog Sw97 := Valid.add VSw96 ok_law01_Cable
def vc_law01_Ping  (post : DV → Prop) : Prop := post (.t (.a [.v (.int .i64 1000), .v (.int .i64 50), .v (.int .i64 250), .v (.int .i64 1300)]))
def ann_law01_Ping : Ann := ⟨fun _ => none, fun _ => none, fun _ => [], I1, false, fun _ => none, fun _ => none⟩
theorem ev_law01_Ping (J : Inv)  (post : DV → Prop) : evFn Try.prog tab Sw97 ann_law01_Ping J Try.f123 [] post = vc_law01_Ping  post := by kernel_rfl
theorem fit_law01_Ping : okFn ann_law01_Ping Try.f123 = true := by kernel_rfl
theorem lp_law01_Ping (J : Inv) (post : DV → Prop) : AllG J (loopsFn Try.prog tab Sw97 ann_law01_Ping J Try.f123 post) = (True) := by kernel_rfl
theorem spec_law01_Ping  : vc_law01_Ping  (fun r => LeD r (.t (.a [.v (.int .i64 1000), .v (.int .i64 50), .v (.int .i64 250), .v (.int .i64 1300)]))) := by
 exact LeD.refl _
def con_law01_Ping : Con := fun args => match args with
 | [] => some (.t (.a [.v (.int .i64 1000), .v (.int .i64 50), .v (.int .i64 250), .v (.int .i64 1300)]), none, false)
 | _ => none
theorem ok_law01_Ping : Ok Try.prog 123 con_law01_Ping := by
 refine Ok.fn (ann := ann_law01_Ping) mixed tabOK VSw97 VI1 (fn := Try.f123) (by kernel_rfl) (by kernel_rfl) fit_law01_Ping fun args r pre fresh h hp => ?_
 unfold con_law01_Ping at h
 split at h
 ·cases h
  refine ⟨rfl, fun _ _ _ => False, _, LeA.refl _, Nat.le_of_ble_eq_true (by kernel_rfl), ?_, ?_⟩
  ·rw [ev_law01_Ping]; exact spec_law01_Ping 
  ·rw [lp_law01_Ping]; trivial
 ·cases h
def Sw98 : Sum := addS Sw97 123 con_law01_Ping
theorem VSw98 : Valid Try.prog Sw98 := Valid.add VSw97 ok_law01_Ping
def vc_law01_Track  (post : DV → Prop) : Prop := post (.t (.a [.v (.int .i64 100), .v (.int .i64 2), .sl 4 2 (genC [[.v (.int .i64 1000), .v (.int .i64 50), .v (.int .i64 250), .v (.int .i64 1300)], [.v (.int .i64 101000), .v (.int .i64 100050), .v (.int .i64 100250), .v (.int .i64 101304)]])]))
def ann_law01_Track : Ann := ⟨fun _ => none, fun _ => none, fun _ => [], I1, true, fun _ => none, fun _ => none⟩
theorem ev_law01_Track (J : Inv)  (post : DV → Prop) : evFn Try.prog tab Sw98 ann_law01_Track J Try.f77 [] post = vc_law01_Track  post := by kernel_rfl
theorem fit_law01_Track : okFn ann_law01_Track Try.f77 = true := by kernel_rfl
theorem lp_law01_Track (J : Inv) (post : DV → Prop) : AllG J (loopsFn Try.prog tab Sw98 ann_law01_Track J Try.f77 post) = (True) := by kernel_rfl
theorem spec_law01_Track  : vc_law01_Track  (fun r => LeD r (.t (.a [.v (.int .i64 100), .v (.int .i64 2), .sl 4 exP.length (pngsC exP)]))) := by
 exact leT_a (LeCs.cons (LeC1.refl _) (LeCs.cons (LeC1.refl _) (LeCs.cons (leC_pngs exP) LeCs.nil)))
def con_law01_Track : Con := fun args => match args with
 | [] => some (.t (.a [.v (.int .i64 100), .v (.int .i64 2), .sl 4 exP.length (pngsC exP)]), none, true)
 | _ => none
theorem ok_law01_Track : Ok Try.prog 77 con_law01_Track := by
 refine Ok.fnFr (ann := ann_law01_Track) mixed tabOK VSw98 VI1 rfl (fn := Try.f77) (by kernel_rfl) (by kernel_rfl) fit_law01_Track fun args r pre fresh h hp => ?_
 unfold con_law01_Track at h
 split at h
 ·cases h
  refine ⟨rfl, (by intro x hx; simp only [List.mem_cons, List.not_mem_nil, or_false] at hx; rcases hx with rfl | rfl | rfl <;> first | trivial | exact (fun i j _ hj => plain_Png _ i j)), fun _ _ _ => False, _, LeA.refl _, Nat.le_of_ble_eq_true (by kernel_rfl), ?_, ?_⟩
  ·rw [ev_law01_Track]; exact spec_law01_Track 
  ·rw [lp_law01_Track]; trivial
 ·cases h
def Sw99 : Sum := addS Sw98 77 con_law01_Track
theorem VSw99 : Valid Try.prog Sw99 := Valid.add VSw98 ok_law01_Track
def vc_law01_Net  (post : DV → Prop) : Prop := post (.t (.a [.sl 1 3 (genC [[.v (.string ⟨#[97]⟩)], [.v (.string ⟨#[98]⟩)], [.v (.string ⟨#[100]⟩)]]), .sl 4 3 (genC [[.v (.int .i64 0), .v (.int .i64 1), .v (.int .i64 5), .v (.int .i64 7)], [.v (.int .i64 1), .v (.int .i64 2), .v (.int .i64 1), .v (.int .i64 2)], [.v (.int .i64 0), .v (.int .i64 2), .v (.int .i64 7), .v (.int .i64 10)]])]))
def ann_law01_Net : Ann := ⟨fun _ => none, fun _ => none, fun _ => [], I1, true, fun _ => none, fun _ => none⟩
theorem ev_law01_Net (J : Inv)  (post : DV → Prop) : evFn Try.prog tab Sw99 ann_law01_Net J Try.f78 [] post = vc_law01_Net  post := by kernel_rfl
theorem fit_law01_Net : okFn ann_law01_Net Try.f78 = true := by kernel_rfl
theorem lp_law01_Net (J : Inv) (post : DV → Prop) : AllG J (loopsFn Try.prog tab Sw99 ann_law01_Net J Try.f78 post) = (True) := by kernel_rfl
theorem spec_law01_Net  : vc_law01_Net  (fun r => LeD r (.t (.a [.sl 1 exC.length (txsC exC), .sl 4 exL.length (lnksC exL)]))) := by
 exact leT_a (LeCs.cons (leC_txs exC) (LeCs.cons (leC_lnks exL) LeCs.nil))
def con_law01_Net : Con := fun args => match args with
 | [] => some (.t (.a [.sl 1 exC.length (txsC exC), .sl 4 exL.length (lnksC exL)]), none, true)
 | _ => none
theorem ok_law01_Net : Ok Try.prog 78 con_law01_Net := by
 refine Ok.fnFr (ann := ann_law01_Net) mixed tabOK VSw99 VI1 rfl (fn := Try.f78) (by kernel_rfl) (by kernel_rfl) fit_law01_Net fun args r pre fresh h hp => ?_
 unfold con_law01_Net at h
 split at h
 ·cases h
  refine ⟨rfl, (by intro x hx; simp only [List.mem_cons, List.not_mem_nil, or_false] at hx; rcases hx with rfl | rfl <;> first | trivial | exact (fun i j _ hj => plain_str _ i j) | exact (fun i j _ hj => plain_Lnk _ i j)), fun _ _ _ => False, _, LeA.refl _, Nat.le_of_ble_eq_true (by kernel_rfl), ?_, ?_⟩
  ·rw [ev_law01_Net]; exact spec_law01_Net 
  ·rw [lp_law01_Net]; trivial
 ·cases h
def Sw100 : Sum := addS Sw99 78 con_law01_Net
theorem VSw100 : Valid Try.prog Sw100 := Valid.add VSw99 ok_law01_Net
end Go.Proofs.Ytkifmfmenobhnaa
set_option linter.unusedVariables false
set_option linter.unusedSimpArgs false
namespace Go.Proofs.Ytkifmfmenobhnaa
open Go.RowKit Ev
theorem cond_t {b : Bool} {A B : Prop} (hb : b = true) (h : A) : cond b A B := by rw [hb]; exact h
theorem nums2_gen (l : List (Int × Int)) : numsP 2 l.length (genC (l.map fun x => [.v (.int .i64 x.1), .v (.int .i64 x.2)])) := by
 intro i j hi hj
 rcases (by omega : j = 0 ∨ j = 1) with rfl | rfl <;> simp [genC, List.getD, hi, cvInt]
def tabM (n : Nat) (t : List Int) : Nat → Nat → Int := fun i j => t.getD (i * n + j) far
def AgM (n : Nat) (f : Nat → Nat → Int) (t : List Int) : Prop := t.length = n * n ∧ ∀ x y, x < n → y < n → f x y = tabM n t x y
theorem ix_lt {n i j : Nat} (hi : i < n) (hj : j < n) : i * n + j < n * n := by
 have : (i + 1) * n ≤ n * n := Nat.mul_le_mul_right n hi
 rw [Nat.succ_mul] at this; omega
theorem ix_eq {n i j x y : Nat} (hj : j < n) (hy : y < n) (h : i * n + j = x * n + y) : i = x ∧ j = y := by
 have h1 : (i * n + j) / n = i := by rw [Nat.add_comm, Nat.add_mul_div_right _ _ (by omega), Nat.div_eq_of_lt hj, Nat.zero_add]
 have h2 : (x * n + y) / n = x := by rw [Nat.add_comm, Nat.add_mul_div_right _ _ (by omega), Nat.div_eq_of_lt hy, Nat.zero_add]
 have e : i = x := by rw [← h1, ← h2, h]
 subst e
 exact ⟨rfl, by omega⟩
theorem AgM.upd {n : Nat} {f : Nat → Nat → Int} {t : List Int} (h : AgM n f t) {i j : Nat} (hi : i < n) (hj : j < n) (v : Int) : AgM n (updI f i j v) (t.set (i * n + j) v) := by
 refine ⟨by rw [List.length_set]; exact h.1, fun x y hx hy => ?_⟩
 unfold updI
 by_cases e : x = i ∧ y = j
 ·obtain ⟨rfl, rfl⟩ := e
  rw [if_pos ⟨rfl, rfl⟩]
  simp [tabM, List.getD, h.1, ix_lt hi hj]
 ·rw [if_neg e, h.2 x y hx hy]
  have : i * n + j ≠ x * n + y := fun q => e ⟨(ix_eq hj hy q).1.symm, (ix_eq hj hy q).2.symm⟩
  simp [tabM, List.getD, List.getElem?_set, this]
def stepT (n : Nat) (t : List Int) (k i j : Nat) : List Int := if tabM n t i k < far ∧ tabM n t k j < far then t.set (i * n + j) (min (tabM n t i j) (tabM n t i k + tabM n t k j)) else t
theorem AgM.step {n : Nat} {f : Nat → Nat → Int} {t : List Int} (h : AgM n f t) {k i j : Nat} (hk : k < n) (hi : i < n) (hj : j < n) : AgM n (stepK f k i j) (stepT n t k i j) := by
 unfold stepK stepT
 rw [← h.2 i k hi hk, ← h.2 k j hk hj, ← h.2 i j hi hj]
 split
 ·exact h.upd hi hj _
 ·exact h
def jT (n : Nat) (t : List Int) (k i : Nat) : Nat → List Int
 | 0 => t
 | j + 1 => stepT n (jT n t k i j) k i j
def iT (n : Nat) (t : List Int) (k : Nat) : Nat → List Int
 | 0 => t
 | i + 1 => jT n (iT n t k i) k i n
def kT (n : Nat) (t : List Int) : Nat → List Int
 | 0 => t
 | k + 1 => iT n (kT n t k) k n
theorem AgM.j {n : Nat} {f : Nat → Nat → Int} {t : List Int} (h : AgM n f t) {k i : Nat} (hk : k < n) (hi : i < n) : ∀ j, j ≤ n → AgM n (jK f k i j) (jT n t k i j)
 | 0, _ => h
 | j + 1, hj => (AgM.j h hk hi j (by omega)).step hk hi (by omega)
theorem AgM.i {n : Nat} {f : Nat → Nat → Int} {t : List Int} (h : AgM n f t) {k : Nat} (hk : k < n) : ∀ i, i ≤ n → AgM n (iK f n k i) (iT n t k i)
 | 0, _ => h
 | i + 1, hi => (AgM.i h hk i (by omega)).j hk (by omega) n (Nat.le_refl _)
theorem AgM.k {n : Nat} {f : Nat → Nat → Int} {t : List Int} (h : AgM n f t) : ∀ k, k ≤ n → AgM n (kK f n k) (kT n t k)
 | 0, _ => h
 | k + 1, hk => (AgM.k h k (by omega)).i (by omega) n (Nat.le_refl _)
def lnkT (n : Nat) (t : List Int) (x : Lnk) : List Int := (fun t => t.set (x.to.toNat * n + x.frm.toNat) (min (tabM n t x.to.toNat x.frm.toNat) (-x.lo))) (t.set (x.frm.toNat * n + x.to.toNat) (min (tabM n t x.frm.toNat x.to.toNat) x.hi))
theorem AgM.lnk {n : Nat} {f : Nat → Nat → Int} {t : List Int} (h : AgM n f t) {x : Lnk} (hx : x.ok n) : AgM n (lnkG f x) (lnkT n t x) := by
 obtain ⟨h1, h2, _⟩ := hx
 have g := h.upd (i := x.frm.toNat) (j := x.to.toNat) (by omega) (by omega) (min (tabM n t x.frm.toNat x.to.toNat) x.hi)
 have g2 := g.upd (i := x.to.toNat) (j := x.frm.toNat) (by omega) (by omega) (min (tabM n (t.set (x.frm.toNat * n + x.to.toNat) (min (tabM n t x.frm.toNat x.to.toNat) x.hi)) x.to.toNat x.frm.toNat) (-x.lo))
 rw [← g.2 _ _ (by omega) (by omega), ← h.2 _ _ (by omega) (by omega)] at g2
 unfold lnkG lnkF lnkT
 rw [← h.2 _ _ (by omega) (by omega)]
 rw [← h.2 _ _ (by omega) (by omega)] at g
 dsimp only
 rw [← g.2 _ _ (by omega) (by omega)]
 exact g2
def initT (n : Nat) : List Int := (List.range (n * n)).map fun q => if q / n = q % n then 0 else far
theorem AgM.init {n : Nat} : AgM n initM (initT n) := by
 refine ⟨by simp [initT], fun x y hx hy => ?_⟩
 have h1 : (x * n + y) / n = x := by rw [Nat.add_comm, Nat.add_mul_div_right _ _ (by omega), Nat.div_eq_of_lt hy, Nat.zero_add]
 have h2 : (x * n + y) % n = y := by rw [Nat.add_comm, Nat.add_mul_mod_self_right, Nat.mod_eq_of_lt hy]
 simp [tabM, initT, List.getD, ix_lt hx hy, h1, h2, initM]
def bdT (l : List Lnk) (n : Nat) : List Int := kT n (l.foldl (lnkT n) (initT n)) n
theorem AgM.links {n : Nat} : ∀ {l : List Lnk} {f : Nat → Nat → Int} {t : List Int}, (∀ x ∈ l, x.ok n) → AgM n f t → AgM n (l.foldl lnkG f) (l.foldl (lnkT n) t)
 | [], _, _, _, h => h
 | x :: l, f, t, hx, h => AgM.links (f := lnkG f x) (t := lnkT n t x) (fun y hy => hx y (by simp [hy])) (h.lnk (hx x (by simp)))
theorem lnks_ok {n : Nat} {l : List Lnk} (h : ∀ k, k < l.length → (lnkAt l k).ok n) : ∀ x ∈ l, x.ok n := by
 intro x hx
 obtain ⟨i, hi, e⟩ := List.mem_iff_getElem.1 hx
 have := h i hi
 rwa [show lnkAt l i = x by simp [lnkAt, List.getD, hi, e]] at this
theorem bd_tab {n : Nat} {l : List Lnk} (h : ∀ k, k < l.length → (lnkAt l k).ok n) : AgM n (bdF l n) (bdT l n) := by
 unfold bdF bdT lnkM
 rw [List.take_length]
 exact (AgM.links (lnks_ok h) AgM.init).k n (Nat.le_refl _)
theorem ex_nt : ntE exC exL = 0 := by kernel_rfl
theorem ex_bd (i j : Nat) (hi : i < 3) (hj : j < 3) : bdF exL 3 i j = tabM 3 [0, 7, 9, -5, 0, 2, -7, -1, 0] i j := by
 have h := ntE_bd ex_nt
 have e := (bd_tab (n := 3) h.2.2).2 i j hi hj
 rw [e, show bdT exL 3 = [0, 7, 9, -5, 0, 2, -7, -1, 0] from by kernel_rfl]
theorem ex_bdB : bdB exL exC.length = true := by
 rw [bdB_true]
 intro i hi
 have hi : i < 3 := hi
 rw [show exC.length = 3 from rfl, ex_bd i i hi hi]
 rcases (by omega : i = 0 ∨ i = 1 ∨ i = 2) with rfl | rfl | rfl <;> decide
theorem ex_opn (i : Nat) (hi : i < 3) : opnB exL 3 i = false := by
 unfold opnB
 rw [ex_bd 0 i (by omega) hi, ex_bd i 0 hi (by omega)]
 rcases (by omega : i = 0 ∨ i = 1 ∨ i = 2) with rfl | rfl | rfl <;> decide
theorem ex_ofE : ofE exC exL = 0 := by
 unfold ofE
 rw [if_neg (by rw [ex_nt]; simp), if_pos ex_bdB, if_neg]
 intro h
 unfold ofS at h
 obtain ⟨i, hi, e⟩ := List.any_eq_true.1 h
 rw [show exC.length = 3 from rfl, ex_opn i (List.mem_range.1 hi)] at e
 cases e
theorem ex_ofV : ofV exC exL = [⟨0, 0⟩, ⟨5, 7⟩, ⟨7, 9⟩] := by
 unfold ofV ofK
 rw [if_pos ex_ofE, show exC.length = 3 from rfl]
 simp only [show List.range 3 = [0, 1, 2] from rfl, List.map_cons, List.map_nil]
 rw [ex_bd 0 0 (by omega) (by omega), ex_bd 1 0 (by omega) (by omega), ex_bd 0 1 (by omega) (by omega), ex_bd 2 0 (by omega) (by omega), ex_bd 0 2 (by omega) (by omega)]
 rfl
def vc_law01_awake  (post : DV → Prop) : Prop := (numsP 4 exP.length (pngsC exP)) ∧ ((txP exC.length (txsC exC) ∧ numsP 4 exL.length (lnksC exL) ∧ (∀ k, k < ((txOf exC.length (txsC exC))).length → (txAt (txOf exC.length (txsC exC)) k).size ≤ 1000000)) ∧ ((numsP 1 4 (genC [[.v (.int .i64 7)], [.v (.int .i64 2)], [.v (.int .i64 2)], [.v (.int .i64 9)]]) ∧ (([(7 : Int), (2 : Int), (2 : Int), (9 : Int)] : List Int)).length ≤ 1000000) ∧ ((numsP 2 2 (genC [[.v (.int .i64 100), .v (.int .i64 5)], [.v (.int .i64 200), .v (.int .i64 (-3))]])) ∧ ((numsP 1 6 (genC [[.v (.int .i64 0)], [.v (.int .i64 1)], [.v (.int .i64 2)], [.v (.int .i64 3)], [.v (.int .i64 6)], [.v (.int .i64 0)]]) ∧ numsP 1 4 (genC [[.v (.int .i64 1)], [.v (.int .i64 2)], [.v (.int .i64 3)], [.v (.int .i64 6)]]) ∧ (([(0 : Int), (1 : Int), (2 : Int), (3 : Int), (6 : Int), (0 : Int)] : List Int)).length ≤ 1000000 ∧ (([(1 : Int), (2 : Int), (3 : Int), (6 : Int)] : List Int)).length ≤ 1000000) ∧ (cond ((obE (⟨(100 : Int), (2 : Int)⟩ : Cab) (listC exP.length mkPng (pngsC exP)) (50050 : Int)) == (0 : Int)) (cond (bif (((taV (⟨(100 : Int), (2 : Int)⟩ : Cab) (listC exP.length mkPng (pngsC exP)) (50050 : Int)).lo) == (51045 : Int)) then (bif (((taV (⟨(100 : Int), (2 : Int)⟩ : Cab) (listC exP.length mkPng (pngsC exP)) (50050 : Int)).hi) == (51057 : Int)) then true else false) else false) (cond ((ofE (txOf exC.length (txsC exC)) (listC exL.length mkLnk (lnksC exL))) == (0 : Int)) ((numsP 2 ((ofV (txOf exC.length (txsC exC)) (listC exL.length mkLnk (lnksC exL))).length) (rgsC (ofV (txOf exC.length (txsC exC)) (listC exL.length mkLnk (lnksC exL)))) ∧ numsP 2 3 (genC [[.v (.int .i64 0), .v (.int .i64 0)], [.v (.int .i64 5), .v (.int .i64 7)], [.v (.int .i64 7), .v (.int .i64 9)]]) ∧ ((listC ((ofV (txOf exC.length (txsC exC)) (listC exL.length mkLnk (lnksC exL))).length) mkRg (rgsC (ofV (txOf exC.length (txsC exC)) (listC exL.length mkLnk (lnksC exL)))))).length ≤ 1000000) ∧ (cond (decide ((listC ((ofV (txOf exC.length (txsC exC)) (listC exL.length mkLnk (lnksC exL))).length) mkRg (rgsC (ofV (txOf exC.length (txsC exC)) (listC exL.length mkLnk (lnksC exL))))) = (listC 3 mkRg (genC [[.v (.int .i64 0), .v (.int .i64 0)], [.v (.int .i64 5), .v (.int .i64 7)], [.v (.int .i64 7), .v (.int .i64 9)]])))) (cond ((urE ([(7 : Int), (2 : Int), (2 : Int), (9 : Int)] : List Int) (10 : Int)) == (0 : Int)) ((numsP 1 ((urR ([(7 : Int), (2 : Int), (2 : Int), (9 : Int)] : List Int) (10 : Int)).length) (intsC (urR ([(7 : Int), (2 : Int), (2 : Int), (9 : Int)] : List Int) (10 : Int))) ∧ numsP 1 4 (genC [[.v (.int .i64 7)], [.v (.int .i64 12)], [.v (.int .i64 12)], [.v (.int .i64 19)]]) ∧ ((listC ((urR ([(7 : Int), (2 : Int), (2 : Int), (9 : Int)] : List Int) (10 : Int)).length) mkInt (intsC (urR ([(7 : Int), (2 : Int), (2 : Int), (9 : Int)] : List Int) (10 : Int))))).length ≤ 1000000) ∧ (cond (decide ((listC ((urR ([(7 : Int), (2 : Int), (2 : Int), (9 : Int)] : List Int) (10 : Int)).length) mkInt (intsC (urR ([(7 : Int), (2 : Int), (2 : Int), (9 : Int)] : List Int) (10 : Int)))) = ([(7 : Int), (12 : Int), (12 : Int), (19 : Int)] : List Int))) (cond ((tfE (listC 2 mkLpp (genC [[.v (.int .i64 100), .v (.int .i64 5)], [.v (.int .i64 200), .v (.int .i64 (-3))]])) (203 : Int)) == (0 : Int)) ((numsP 1 ((tfV (listC 2 mkLpp (genC [[.v (.int .i64 100), .v (.int .i64 5)], [.v (.int .i64 200), .v (.int .i64 (-3))]])) (203 : Int)).length) (intsC (tfV (listC 2 mkLpp (genC [[.v (.int .i64 100), .v (.int .i64 5)], [.v (.int .i64 200), .v (.int .i64 (-3))]])) (203 : Int))) ∧ numsP 1 2 (genC [[.v (.int .i64 198)], [.v (.int .i64 201)]]) ∧ ((listC ((tfV (listC 2 mkLpp (genC [[.v (.int .i64 100), .v (.int .i64 5)], [.v (.int .i64 200), .v (.int .i64 (-3))]])) (203 : Int)).length) mkInt (intsC (tfV (listC 2 mkLpp (genC [[.v (.int .i64 100), .v (.int .i64 5)], [.v (.int .i64 200), .v (.int .i64 (-3))]])) (203 : Int))))).length ≤ 1000000) ∧ (cond (decide ((listC ((tfV (listC 2 mkLpp (genC [[.v (.int .i64 100), .v (.int .i64 5)], [.v (.int .i64 200), .v (.int .i64 (-3))]])) (203 : Int)).length) mkInt (intsC (tfV (listC 2 mkLpp (genC [[.v (.int .i64 100), .v (.int .i64 5)], [.v (.int .i64 200), .v (.int .i64 (-3))]])) (203 : Int)))) = ([(198 : Int), (201 : Int)] : List Int))) (cond ((avE ([(0 : Int), (1 : Int), (2 : Int), (3 : Int), (6 : Int), (0 : Int)] : List Int) ([(1 : Int), (2 : Int), (3 : Int), (6 : Int)] : List Int)) == (0 : Int)) (post (.t (.c (.v (.bool ((avV ([(0 : Int), (1 : Int), (2 : Int), (3 : Int), (6 : Int), (0 : Int)] : List Int) ([(1 : Int), (2 : Int), (3 : Int), (6 : Int)] : List Int)) == (1 : Int))))))) ((false = false) ∧ (post (.t (.c (.v (.bool false))))))) ((false = false) ∧ ((false = false) ∧ (post (.t (.c (.v (.bool false))))))))) ((false = false) ∧ ((false = false) ∧ ((false = false) ∧ (post (.t (.c (.v (.bool false))))))))) ((false = false) ∧ ((false = false) ∧ ((false = false) ∧ ((false = false) ∧ (post (.t (.c (.v (.bool false))))))))))) ((false = false) ∧ ((false = false) ∧ ((false = false) ∧ ((false = false) ∧ ((false = false) ∧ (post (.t (.c (.v (.bool false))))))))))) ((false = false) ∧ ((false = false) ∧ ((false = false) ∧ ((false = false) ∧ ((false = false) ∧ ((false = false) ∧ (post (.t (.c (.v (.bool false))))))))))))) ((false = false) ∧ ((false = false) ∧ ((false = false) ∧ ((false = false) ∧ ((false = false) ∧ ((false = false) ∧ ((false = false) ∧ (post (.t (.c (.v (.bool false))))))))))))) ((false = false) ∧ ((false = false) ∧ ((false = false) ∧ ((false = false) ∧ ((false = false) ∧ ((false = false) ∧ ((false = false) ∧ ((false = false) ∧ (post (.t (.c (.v (.bool false)))))))))))))) ((false = false) ∧ ((false = false) ∧ ((false = false) ∧ ((false = false) ∧ ((false = false) ∧ ((false = false) ∧ ((false = false) ∧ ((false = false) ∧ ((false = false) ∧ (post (.t (.c (.v (.bool false)))))))))))))))))))
def ann_law01_awake : Ann := ⟨fun _ => none, fun _ => none, fun _ => [], I1, false, fun _ => none, fun _ => none⟩
theorem ev_law01_awake (J : Inv)  (post : DV → Prop) : evFn Try.prog tab Sw100 ann_law01_awake J Try.f15 [] post = vc_law01_awake  post := by kernel_rfl
theorem fit_law01_awake : okFn ann_law01_awake Try.f15 = true := by kernel_rfl
theorem lp_law01_awake (J : Inv) (post : DV → Prop) : AllG J (loopsFn Try.prog tab Sw100 ann_law01_awake J Try.f15 post) = (True) := by kernel_rfl
set_option maxHeartbeats 8000000 in
set_option maxRecDepth 100000 in
theorem spec_law01_awake  : vc_law01_awake  (fun r => LeD r (.t (.c (.v (.bool true))))) := by
 unfold vc_law01_awake
 rw [pngs_listC, txs_of, lnks_listC, rgs_listC, ints_listC, ints_listC]
 have hs : ∀ k, k < exC.length → (txAt exC k).size ≤ 1000000 := by
  intro k hk
  have hk : k < 3 := hk
  rcases (by omega : k = 0 ∨ k = 1 ∨ k = 2) with rfl | rfl | rfl <;> decide
 refine ⟨numsP_pngs _, ⟨txP_txs _, numsP_lnks _, hs⟩, ⟨numsP_gen [_, _, _, _], by decide⟩, nums2_gen [(100, 5), (200, -3)], ⟨numsP_gen [_, _, _, _, _, _], numsP_gen [_, _, _, _], by decide, by decide⟩, ?_⟩
 refine cond_t (by kernel_rfl) (cond_t (by kernel_rfl) (cond_t (by rw [ex_ofE]; rfl) ⟨⟨numsP_rgs _, nums2_gen [(0, 0), (5, 7), (7, 9)], by rw [ex_ofV]; decide⟩, cond_t (by rw [ex_ofV]; kernel_rfl) (cond_t (by kernel_rfl) ⟨⟨numsP_ints _, numsP_gen [_, _, _, _], by decide⟩, cond_t (by kernel_rfl) (cond_t (by kernel_rfl) ⟨⟨numsP_ints _, numsP_gen [_, _], by decide⟩, cond_t (by kernel_rfl) (cond_t (by kernel_rfl) (leB (by kernel_rfl)))⟩)⟩)⟩))
def con_law01_awake : Con := fun args => match args with
 | [] => some (.t (.c (.v (.bool true))), none, false)
 | _ => none
theorem ok_law01_awake : Ok Try.prog 15 con_law01_awake := by
 refine Ok.fn (ann := ann_law01_awake) mixed tabOK VSw100 VI1 (fn := Try.f15) (by kernel_rfl) (by kernel_rfl) fit_law01_awake fun args r pre fresh h hp => ?_
 unfold con_law01_awake at h
 split at h
 ·cases h
  refine ⟨rfl, fun _ _ _ => False, _, LeA.refl _, Nat.le_of_ble_eq_true (by kernel_rfl), ?_, ?_⟩
  ·rw [ev_law01_awake]; exact spec_law01_awake 
  ·rw [lp_law01_awake]; trivial
 ·cases h
def Sy101 : Sum := addS Sw100 15 con_law01_awake
theorem VSy101 : Valid Try.prog Sy101 := Valid.add VSw100 ok_law01_awake
end Go.Proofs.Ytkifmfmenobhnaa