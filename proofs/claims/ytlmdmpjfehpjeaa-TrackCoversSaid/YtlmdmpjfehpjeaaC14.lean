/- Texts of this claim, together. -/
import Derived.Test.YtlmdmpjfehpjeaaC13
import Derived.Test.YtlmdmpjfehpjeaaC5
import Derived.Test.YtlmdmpjfehpjeaaC6

set_option linter.unusedVariables false
set_option linter.unusedSimpArgs false
namespace Go.Proofs.Ytlmdmpjfehpjeaa
open Go.RowKit Ev
def mk_ref05_CheckCover_0 (m0 m1 m2 m3 m4 m5 m6 m7 m8 m9 m10 m11 : Int) (b0 b1 b2 b3 b4 b5 : Int) (l : List THit) (c : List TBox) (K : Int) (v0_0 : Int) : DS := ⟨[none, none, none, some (.t (.c (.p 3 0))), some (.t (.c (.p 4 0))), some (.t (.c (.p 5 0))), none, none, some (.t (.c (.v (.int .i64 v0_0)))), none, none, none, none, none, none, none, none, none, none, none, none, none, none, none, none, none, none, none, none, none, none, none, none, none, none, none, none, none, none, none, none, none, none, none, none, none, none, none, none, none, none, none, none, none, none, none, none, none, none, none, none, none, none, none, none, none, none, none, none, none, none, none, none, none, none, none, none, none, none, none, none, none, none, none, none, none, none, none, none, none, none, none, none, none, none, none, none, none, none, none, none, none, none, none, none, none, none, none, none, none, none, none, none, none, none], [none, none, none, some (.box 26 [.v (.int .i64 m0), .v (.int .i64 m1), .v (.int .i64 m2), .v (.int .i64 m3), .v (.int .i64 m4), .v (.int .i64 m5), .v (.int .i64 m6), .v (.int .i64 m7), .v (.int .i64 m8), .v (.int .i64 m9), .v (.int .i64 m10), .v (.int .i64 m11)]), some (.box 107 [.v (.int .i64 b0), .v (.int .i64 b1), .v (.int .i64 b2), .v (.int .i64 b3), .v (.int .i64 b4), .v (.int .i64 b5), .sl 5 l.length (hitsC l)]), some (.box 110 [.sl 6 c.length (bxsC c), .v (.int .i64 K)]), none, none, none, none, none, none, none, none, none, none, none, none, none, none, none, none, none, none, none, none, none, none, none, none, none, none, none, none, none, none, none, none, none, none, none, none, none, none, none, none, none, none, none, none, none, none, none, none, none, none, none, none, none, none, none, none, none, none, none, none, none, none, none, none, none, none, none, none, none, none, none, none, none, none, none, none, none, none, none, none, none, none, none, none, none, none, none, none, none, none, none, none, none, none, none, none, none, none, none, none, none, none, none, none, none, none, none, none, none]⟩
def mk_ref05_CheckCover_2 (m0 m1 m2 m3 m4 m5 m6 m7 m8 m9 m10 m11 : Int) (b0 b1 b2 b3 b4 b5 : Int) (l : List THit) (c : List TBox) (K : Int) (v2_0 : Int) (v2_1 : Int) (v2_2 : Int) (v2_3 : Int) (v2_4 : Int) (v2_5 : Int) (v2_6 : Int) (v2_7 : Int) : DS := ⟨[none, none, none, some (.t (.c (.p 3 0))), some (.t (.c (.p 4 0))), some (.t (.c (.p 5 0))), none, none, some (.t (.c (.v (.int .i64 v2_7)))), some (.t (.c (.p 9 0))), none, some (.t (.c (.v (.int .i64 v2_6)))), none, none, none, none, none, none, none, none, none, none, none, none, none, none, none, none, none, none, none, none, none, none, none, none, none, none, none, none, none, none, none, none, none, none, none, none, none, none, none, none, none, none, none, none, none, none, none, none, none, none, none, none, none, none, none, none, none, none, none, none, none, none, none, none, none, none, none, none, none, none, none, none, none, none, none, none, none, none, none, none, none, none, none, none, none, none, none, none, none, none, none, none, none, none, none, none, none, none, none, none, none, none, none], [none, none, none, some (.box 26 [.v (.int .i64 m0), .v (.int .i64 m1), .v (.int .i64 m2), .v (.int .i64 m3), .v (.int .i64 m4), .v (.int .i64 m5), .v (.int .i64 m6), .v (.int .i64 m7), .v (.int .i64 m8), .v (.int .i64 m9), .v (.int .i64 m10), .v (.int .i64 m11)]), some (.box 107 [.v (.int .i64 b0), .v (.int .i64 b1), .v (.int .i64 b2), .v (.int .i64 b3), .v (.int .i64 b4), .v (.int .i64 b5), .sl 5 l.length (hitsC l)]), some (.box 110 [.sl 6 c.length (bxsC c), .v (.int .i64 K)]), none, none, none, some (.box 75 [.v (.int .i64 v2_0), .v (.int .i64 v2_1), .v (.int .i64 v2_2), .v (.int .i64 v2_3), .v (.int .i64 v2_4), .v (.int .i64 v2_5)]), none, none, none, none, none, none, none, none, none, none, none, none, none, none, none, none, none, none, none, none, none, none, none, none, none, none, none, none, none, none, none, none, none, none, none, none, none, none, none, none, none, none, none, none, none, none, none, none, none, none, none, none, none, none, none, none, none, none, none, none, none, none, none, none, none, none, none, none, none, none, none, none, none, none, none, none, none, none, none, none, none, none, none, none, none, none, none, none, none, none, none, none, none, none, none, none, none, none, none, none, none, none, none, none, none]⟩
def mk_ref05_CheckCover_4 (m0 m1 m2 m3 m4 m5 m6 m7 m8 m9 m10 m11 : Int) (b0 b1 b2 b3 b4 b5 : Int) (l : List THit) (c : List TBox) (K : Int) (v4_0 : Int) (v4_1 : Int) : DS := ⟨[none, none, none, some (.t (.c (.p 3 0))), some (.t (.c (.p 4 0))), some (.t (.c (.p 5 0))), none, none, none, none, none, none, some (.t (.c (.v (.int .i64 v4_0)))), some (.t (.c (.v (.int .i64 v4_1)))), none, none, none, none, none, none, none, none, none, none, none, none, none, none, none, none, none, none, none, none, none, none, none, none, none, none, none, none, none, none, none, none, none, none, none, none, none, none, none, none, none, none, none, none, none, none, none, none, none, none, none, none, none, none, none, none, none, none, none, none, none, none, none, none, none, none, none, none, none, none, none, none, none, none, none, none, none, none, none, none, none, none, none, none, none, none, none, none, none, none, none, none, none, none, none, none, none, none, none, none, none], [none, none, none, some (.box 26 [.v (.int .i64 m0), .v (.int .i64 m1), .v (.int .i64 m2), .v (.int .i64 m3), .v (.int .i64 m4), .v (.int .i64 m5), .v (.int .i64 m6), .v (.int .i64 m7), .v (.int .i64 m8), .v (.int .i64 m9), .v (.int .i64 m10), .v (.int .i64 m11)]), some (.box 107 [.v (.int .i64 b0), .v (.int .i64 b1), .v (.int .i64 b2), .v (.int .i64 b3), .v (.int .i64 b4), .v (.int .i64 b5), .sl 5 l.length (hitsC l)]), some (.box 110 [.sl 6 c.length (bxsC c), .v (.int .i64 K)]), none, none, none, none, none, none, none, none, none, none, none, none, none, none, none, none, none, none, none, none, none, none, none, none, none, none, none, none, none, none, none, none, none, none, none, none, none, none, none, none, none, none, none, none, none, none, none, none, none, none, none, none, none, none, none, none, none, none, none, none, none, none, none, none, none, none, none, none, none, none, none, none, none, none, none, none, none, none, none, none, none, none, none, none, none, none, none, none, none, none, none, none, none, none, none, none, none, none, none, none, none, none, none, none, none, none, none, none, none]⟩
def mk_ref05_CheckCover_6 (m0 m1 m2 m3 m4 m5 m6 m7 m8 m9 m10 m11 : Int) (b0 b1 b2 b3 b4 b5 : Int) (l : List THit) (c : List TBox) (K : Int) (v6_0 : Int) : DS := ⟨[none, none, none, some (.t (.c (.p 3 0))), some (.t (.c (.p 4 0))), some (.t (.c (.p 5 0))), none, none, none, none, none, none, none, none, some (.t (.c (.v (.int .i64 v6_0)))), none, none, none, none, none, none, none, none, none, none, none, none, none, none, none, none, none, none, none, none, none, none, none, none, none, none, none, none, none, none, none, none, none, none, none, none, none, none, none, none, none, none, none, none, none, none, none, none, none, none, none, none, none, none, none, none, none, none, none, none, none, none, none, none, none, none, none, none, none, none, none, none, none, none, none, none, none, none, none, none, none, none, none, none, none, none, none, none, none, none, none, none, none, none, none, none, none, none, none, none], [none, none, none, some (.box 26 [.v (.int .i64 m0), .v (.int .i64 m1), .v (.int .i64 m2), .v (.int .i64 m3), .v (.int .i64 m4), .v (.int .i64 m5), .v (.int .i64 m6), .v (.int .i64 m7), .v (.int .i64 m8), .v (.int .i64 m9), .v (.int .i64 m10), .v (.int .i64 m11)]), some (.box 107 [.v (.int .i64 b0), .v (.int .i64 b1), .v (.int .i64 b2), .v (.int .i64 b3), .v (.int .i64 b4), .v (.int .i64 b5), .sl 5 l.length (hitsC l)]), some (.box 110 [.sl 6 c.length (bxsC c), .v (.int .i64 K)]), none, none, none, none, none, none, none, none, none, none, none, none, none, none, none, none, none, none, none, none, none, none, none, none, none, none, none, none, none, none, none, none, none, none, none, none, none, none, none, none, none, none, none, none, none, none, none, none, none, none, none, none, none, none, none, none, none, none, none, none, none, none, none, none, none, none, none, none, none, none, none, none, none, none, none, none, none, none, none, none, none, none, none, none, none, none, none, none, none, none, none, none, none, none, none, none, none, none, none, none, none, none, none, none, none, none, none, none, none]⟩
def vc_ref05_CheckCover (J : Inv) (m0 m1 m2 m3 m4 m5 m6 m7 m8 m9 m10 m11 : Int) (b0 b1 b2 b3 b4 b5 : Int) (l : List THit) (c : List TBox) (K : Int) (post : DV → Prop) : Prop := cond (decide (((c.length : Nat) : Int) > (700 : Int))) (post (.tu [.c (.v (.int .i64 0)), .c (.v (.int .i64 8))])) (∃ n, J 0 (n :: []) (mk_ref05_CheckCover_0 m0 m1 m2 m3 m4 m5 m6 m7 m8 m9 m10 m11 b0 b1 b2 b3 b4 b5 l c K 0))
def ann_ref05_CheckCover : Ann := ⟨fun r => lookA r [(15, ([[], [], [1], [], [1, 2, 3], [1, 2, 3, 4], [0, 1, 2, 3, 4, 5]], [[63], [63], [63], [63], [63], [63], []])), (27, ([[], [], [1], [], [1, 2, 3], [1, 2, 3, 4], [0, 1, 2, 3, 4, 5], [0, 1, 2, 3, 4, 5, 6], [0, 1, 2, 3, 4, 5, 6, 7], [0, 1, 2, 3, 4, 5, 6, 7], [0, 1, 2, 3, 4, 5, 6, 7, 9], [0, 1, 2, 3, 4, 5, 6, 7], [0, 1, 2, 3, 4, 5, 6, 7, 9, 10, 11], [0, 1, 2, 3, 4, 5, 6, 7, 9, 10, 11, 12], [0, 1, 2, 3, 4, 5, 6, 7], [0, 1, 2, 3, 4, 5, 6, 7, 14], [0, 1, 2, 3, 4, 5, 6, 7, 8, 9, 10, 11, 12, 13, 14, 15], [0, 1, 2, 3, 4, 5, 6, 7, 8, 9, 10, 11, 12, 13, 14, 15, 16], [0, 1, 2, 3, 4, 5, 6, 7], [0, 1, 2, 3, 4, 5, 6, 7, 18], [0, 1, 2, 3, 4, 5, 6, 7, 8, 9, 10, 11, 12, 13, 14, 15, 16, 17, 18, 19], [0, 1, 2, 3, 4, 5, 6, 7, 8, 9, 10, 11, 12, 13, 14, 15, 16, 17, 18, 19, 20]], [[98, 108], [98, 108], [98, 108], [98, 108], [98, 108], [98, 108], [108], [108], [108], [108], [108], [108], [108], [108], [108], [108], [], [], [108], [108], [], []]))], fun b => lookA b [(0, (none, some ⟨[3, 4, 5, 8], [3, 4, 5], []⟩)), (2, (none, some ⟨[3, 4, 5, 8, 9, 11], [3, 4, 5, 9], []⟩)), (4, (none, some ⟨[3, 4, 5, 12, 13], [3, 4, 5], []⟩)), (6, (none, some ⟨[3, 4, 5, 14], [3, 4, 5], []⟩))], fun _ => [], I49, false, fun _ => none, fun _ => none⟩
theorem ev_ref05_CheckCover (J : Inv) (m0 m1 m2 m3 m4 m5 m6 m7 m8 m9 m10 m11 : Int) (b0 b1 b2 b3 b4 b5 : Int) (l : List THit) (c : List TBox) (K : Int) (post : DV → Prop) : evFn Try.prog tab S78 ann_ref05_CheckCover J Try.f61 [.t (.a [.v (.int .i64 m0), .v (.int .i64 m1), .v (.int .i64 m2), .v (.int .i64 m3), .v (.int .i64 m4), .v (.int .i64 m5), .v (.int .i64 m6), .v (.int .i64 m7), .v (.int .i64 m8), .v (.int .i64 m9), .v (.int .i64 m10), .v (.int .i64 m11)]), .t (.a [.v (.int .i64 b0), .v (.int .i64 b1), .v (.int .i64 b2), .v (.int .i64 b3), .v (.int .i64 b4), .v (.int .i64 b5), .sl 5 l.length (hitsC l)]), .t (.a [.sl 6 c.length (bxsC c), .v (.int .i64 K)])] post = vc_ref05_CheckCover J m0 m1 m2 m3 m4 m5 m6 m7 m8 m9 m10 m11 b0 b1 b2 b3 b4 b5 l c K post := by kernel_rfl
theorem fit_ref05_CheckCover : okFn ann_ref05_CheckCover Try.f61 = true := by kernel_rfl
def rd_ref05_CheckCover_0 (J : Inv) (m0 m1 m2 m3 m4 m5 m6 m7 m8 m9 m10 m11 : Int) (b0 b1 b2 b3 b4 b5 : Int) (l : List THit) (c : List TBox) (K : Int) (v0_0 : Int) (nn0 : Nat) (post : DV → Prop) : Prop := cond (decide (v0_0 < ((c.length : Nat) : Int))) ((0 ≤ v0_0 ∧ v0_0 < ((c.length : Nat) : Int)) ∧ (cond ((((bxAt c v0_0.toNat)).err) != (0 : Int)) (post (.tu [.c (.v (.int .i64 v0_0)), .c (.v (.int .i64 (((bxAt c v0_0.toNat)).err)))])) (cond (!(decide (((⟨⟨b0, b1, b2⟩, ⟨b3, b4, b5⟩⟩ : TBox)).has (bxAt c v0_0.toNat).lo))) ((true = true) ∧ (post (.tu [.c (.v (.int .i64 v0_0)), .c (.v (.int .i64 6))]))) (cond (!(decide (((⟨⟨b0, b1, b2⟩, ⟨b3, b4, b5⟩⟩ : TBox)).has (bxAt c v0_0.toNat).hi))) (post (.tu [.c (.v (.int .i64 v0_0)), .c (.v (.int .i64 6))])) (∃ n, J 2 (n :: nn0 :: []) (mk_ref05_CheckCover_2 m0 m1 m2 m3 m4 m5 m6 m7 m8 m9 m10 m11 b0 b1 b2 b3 b4 b5 l c K ((bxAt c v0_0.toNat).lo.x) ((bxAt c v0_0.toNat).lo.y) ((bxAt c v0_0.toNat).lo.z) ((bxAt c v0_0.toNat).hi.x) ((bxAt c v0_0.toNat).hi.y) ((bxAt c v0_0.toNat).hi.z) 0 v0_0)))))) (∃ n, J 4 (n :: []) (mk_ref05_CheckCover_4 m0 m1 m2 m3 m4 m5 m6 m7 m8 m9 m10 m11 b0 b1 b2 b3 b4 b5 l c K 0 0))
theorem er_ref05_CheckCover_0 (J : Inv) (m0 m1 m2 m3 m4 m5 m6 m7 m8 m9 m10 m11 : Int) (b0 b1 b2 b3 b4 b5 : Int) (l : List THit) (c : List TBox) (K : Int) (v0_0 : Int) (nn0 : Nat) (post : DV → Prop) : round Try.prog tab S78 ann_ref05_CheckCover J Try.f61 post 0 (nn0 :: []) (mk_ref05_CheckCover_0 m0 m1 m2 m3 m4 m5 m6 m7 m8 m9 m10 m11 b0 b1 b2 b3 b4 b5 l c K v0_0) = rd_ref05_CheckCover_0 J m0 m1 m2 m3 m4 m5 m6 m7 m8 m9 m10 m11 b0 b1 b2 b3 b4 b5 l c K v0_0 nn0 post := by kernel_rfl
def rd_ref05_CheckCover_2 (J : Inv) (m0 m1 m2 m3 m4 m5 m6 m7 m8 m9 m10 m11 : Int) (b0 b1 b2 b3 b4 b5 : Int) (l : List THit) (c : List TBox) (K : Int) (v2_0 : Int) (v2_1 : Int) (v2_2 : Int) (v2_3 : Int) (v2_4 : Int) (v2_5 : Int) (v2_6 : Int) (v2_7 : Int) (nn2 nn0 : Nat) (post : DV → Prop) : Prop := cond (decide (v2_6 < v2_7)) ((0 ≤ v2_6 ∧ v2_6 < ((c.length : Nat) : Int)) ∧ (cond (decide (¬ ((⟨⟨v2_0, v2_1, v2_2⟩, ⟨v2_3, v2_4, v2_5⟩⟩ : TBox)).apart (bxAt c v2_6.toNat))) (post (.tu [.c (.v (.int .i64 v2_7)), .c (.v (.int .i64 23))])) (lt (IntKind.i64.wrap (v2_6 + (1 : Int))) fun x1 => J 2 (nn2 :: nn0 :: []) (mk_ref05_CheckCover_2 m0 m1 m2 m3 m4 m5 m6 m7 m8 m9 m10 m11 b0 b1 b2 b3 b4 b5 l c K v2_0 v2_1 v2_2 v2_3 v2_4 v2_5 x1 v2_7)))) (lt (IntKind.i64.wrap (v2_7 + (1 : Int))) fun x2 => J 0 (nn0 :: []) (mk_ref05_CheckCover_0 m0 m1 m2 m3 m4 m5 m6 m7 m8 m9 m10 m11 b0 b1 b2 b3 b4 b5 l c K x2))
theorem er_ref05_CheckCover_2 (J : Inv) (m0 m1 m2 m3 m4 m5 m6 m7 m8 m9 m10 m11 : Int) (b0 b1 b2 b3 b4 b5 : Int) (l : List THit) (c : List TBox) (K : Int) (v2_0 : Int) (v2_1 : Int) (v2_2 : Int) (v2_3 : Int) (v2_4 : Int) (v2_5 : Int) (v2_6 : Int) (v2_7 : Int) (nn2 nn0 : Nat) (post : DV → Prop) : round Try.prog tab S78 ann_ref05_CheckCover J Try.f61 post 1 (nn2 :: nn0 :: []) (mk_ref05_CheckCover_2 m0 m1 m2 m3 m4 m5 m6 m7 m8 m9 m10 m11 b0 b1 b2 b3 b4 b5 l c K v2_0 v2_1 v2_2 v2_3 v2_4 v2_5 v2_6 v2_7) = rd_ref05_CheckCover_2 J m0 m1 m2 m3 m4 m5 m6 m7 m8 m9 m10 m11 b0 b1 b2 b3 b4 b5 l c K v2_0 v2_1 v2_2 v2_3 v2_4 v2_5 v2_6 v2_7 nn2 nn0 post := by kernel_rfl
def rd_ref05_CheckCover_4 (J : Inv) (m0 m1 m2 m3 m4 m5 m6 m7 m8 m9 m10 m11 : Int) (b0 b1 b2 b3 b4 b5 : Int) (l : List THit) (c : List TBox) (K : Int) (v4_0 : Int) (v4_1 : Int) (nn4 : Nat) (post : DV → Prop) : Prop := cond (decide (v4_1 < ((c.length : Nat) : Int))) ((0 ≤ v4_1 ∧ v4_1 < ((c.length : Nat) : Int)) ∧ ((((bxAt c v4_1.toNat)).lo.inS 20 = true ∧ ((bxAt c v4_1.toNat)).hi.inS 20 = true) ∧ (lt (IntKind.i64.wrap (v4_0 + (((bxAt c v4_1.toNat)).count))) fun x1 => lt (IntKind.i64.wrap (v4_1 + (1 : Int))) fun x2 => J 4 (nn4 :: []) (mk_ref05_CheckCover_4 m0 m1 m2 m3 m4 m5 m6 m7 m8 m9 m10 m11 b0 b1 b2 b3 b4 b5 l c K x1 x2)))) ((((⟨⟨b0, b1, b2⟩, ⟨b3, b4, b5⟩⟩ : TBox)).lo.inS 20 = true ∧ ((⟨⟨b0, b1, b2⟩, ⟨b3, b4, b5⟩⟩ : TBox)).hi.inS 20 = true) ∧ (cond (v4_0 != (((⟨⟨b0, b1, b2⟩, ⟨b3, b4, b5⟩⟩ : TBox)).count)) (post (.tu [.c (.v (.int .i64 0)), .c (.v (.int .i64 14))])) (∃ n, J 6 (n :: []) (mk_ref05_CheckCover_6 m0 m1 m2 m3 m4 m5 m6 m7 m8 m9 m10 m11 b0 b1 b2 b3 b4 b5 l c K 0))))
theorem er_ref05_CheckCover_4 (J : Inv) (m0 m1 m2 m3 m4 m5 m6 m7 m8 m9 m10 m11 : Int) (b0 b1 b2 b3 b4 b5 : Int) (l : List THit) (c : List TBox) (K : Int) (v4_0 : Int) (v4_1 : Int) (nn4 : Nat) (post : DV → Prop) : round Try.prog tab S78 ann_ref05_CheckCover J Try.f61 post 2 (nn4 :: []) (mk_ref05_CheckCover_4 m0 m1 m2 m3 m4 m5 m6 m7 m8 m9 m10 m11 b0 b1 b2 b3 b4 b5 l c K v4_0 v4_1) = rd_ref05_CheckCover_4 J m0 m1 m2 m3 m4 m5 m6 m7 m8 m9 m10 m11 b0 b1 b2 b3 b4 b5 l c K v4_0 v4_1 nn4 post := by kernel_rfl
def rd_ref05_CheckCover_6 (J : Inv) (m0 m1 m2 m3 m4 m5 m6 m7 m8 m9 m10 m11 : Int) (b0 b1 b2 b3 b4 b5 : Int) (l : List THit) (c : List TBox) (K : Int) (v6_0 : Int) (nn6 : Nat) (post : DV → Prop) : Prop := (fun (Z1 : TMod) (Z2 : List THit) => cond (decide (v6_0 < ((c.length : Nat) : Int))) ((0 ≤ v6_0 ∧ v6_0 < ((c.length : Nat) : Int)) ∧ (cond (canW Z1 (bxAt c v6_0.toNat)) ((0 ≤ v6_0 ∧ v6_0 < ((c.length : Nat) : Int)) ∧ ((numsP 5 l.length (hitsC l) ∧ (Z1).Ok ∧ ((bxAt c v6_0.toNat)).lo.inS 20 = true ∧ ((bxAt c v6_0.toNat)).hi.inS 20 = true ∧ (Z1).canBe (bxAt c v6_0.toNat) ∧ (Z2).length ≤ 12 ∧ ∀ i, i < (Z2).length → (hitAt Z2 i).Ok) ∧ (cond (decide ((((Z1).scores (bxAt c v6_0.toNat) Z2).lo) < K)) (post (.tu [.c (.v (.int .i64 v6_0)), .c (.v (.int .i64 19))])) (lt (IntKind.i64.wrap (v6_0 + (1 : Int))) fun x1 => J 6 (nn6 :: []) (mk_ref05_CheckCover_6 m0 m1 m2 m3 m4 m5 m6 m7 m8 m9 m10 m11 b0 b1 b2 b3 b4 b5 l c K x1))))) ((false = false) ∧ (lt (IntKind.i64.wrap (v6_0 + (1 : Int))) fun x2 => J 6 (nn6 :: []) (mk_ref05_CheckCover_6 m0 m1 m2 m3 m4 m5 m6 m7 m8 m9 m10 m11 b0 b1 b2 b3 b4 b5 l c K x2))))) (post (.tu [.c (.v (.int .i64 0)), .c (.v (.int .i64 0))]))) (⟨m0, m1, m2, m3, m4, m5, m6, m7, m8, m9, m10, m11⟩ : TMod) (listC l.length mkHit (hitsC l))
theorem er_ref05_CheckCover_6 (J : Inv) (m0 m1 m2 m3 m4 m5 m6 m7 m8 m9 m10 m11 : Int) (b0 b1 b2 b3 b4 b5 : Int) (l : List THit) (c : List TBox) (K : Int) (v6_0 : Int) (nn6 : Nat) (post : DV → Prop) : round Try.prog tab S78 ann_ref05_CheckCover J Try.f61 post 3 (nn6 :: []) (mk_ref05_CheckCover_6 m0 m1 m2 m3 m4 m5 m6 m7 m8 m9 m10 m11 b0 b1 b2 b3 b4 b5 l c K v6_0) = rd_ref05_CheckCover_6 J m0 m1 m2 m3 m4 m5 m6 m7 m8 m9 m10 m11 b0 b1 b2 b3 b4 b5 l c K v6_0 nn6 post := by kernel_rfl
theorem lp_ref05_CheckCover (J : Inv) (post : DV → Prop) : AllG J (loopsFn Try.prog tab S78 ann_ref05_CheckCover J Try.f61 post) = (((∀ F s, ¬ J 0 (0 :: F) s) ∧ ∀ n F s, J 0 ((n + 1) :: F) s → round Try.prog tab S78 ann_ref05_CheckCover J Try.f61 post 0 (n :: F) s) ∧ ((∀ F s, ¬ J 2 (0 :: F) s) ∧ ∀ n F s, J 2 ((n + 1) :: F) s → round Try.prog tab S78 ann_ref05_CheckCover J Try.f61 post 1 (n :: F) s) ∧ ((∀ F s, ¬ J 4 (0 :: F) s) ∧ ∀ n F s, J 4 ((n + 1) :: F) s → round Try.prog tab S78 ann_ref05_CheckCover J Try.f61 post 2 (n :: F) s) ∧ ((∀ F s, ¬ J 6 (0 :: F) s) ∧ ∀ n F s, J 6 ((n + 1) :: F) s → round Try.prog tab S78 ann_ref05_CheckCover J Try.f61 post 3 (n :: F) s) ∧ True) := by kernel_rfl
def J_ref05_CheckCover (m0 m1 m2 m3 m4 m5 m6 m7 m8 m9 m10 m11 : Int) (b0 b1 b2 b3 b4 b5 : Int) (l : List THit) (c : List TBox) (K : Int) : Inv := fun b F s => match b, F with
 | 0, [nn0] => ∃ (v0_0 : Int), s = mk_ref05_CheckCover_0 m0 m1 m2 m3 m4 m5 m6 m7 m8 m9 m10 m11 b0 b1 b2 b3 b4 b5 l c K v0_0 ∧ (0 ≤ v0_0 ∧ v0_0 ≤ c.length ∧ (nn0 : Int) + v0_0 = c.length + 1 ∧ c.length ≤ 700 ∧ ∀ j : Nat, (j : Int) < v0_0 → bxE (⟨⟨b0, b1, b2⟩, ⟨b3, b4, b5⟩⟩ : TBox) c j = 0)
 | 2, [nn2, nn0] => ∃ (v2_0 : Int) (v2_1 : Int) (v2_2 : Int) (v2_3 : Int) (v2_4 : Int) (v2_5 : Int) (v2_6 : Int) (v2_7 : Int), s = mk_ref05_CheckCover_2 m0 m1 m2 m3 m4 m5 m6 m7 m8 m9 m10 m11 b0 b1 b2 b3 b4 b5 l c K v2_0 v2_1 v2_2 v2_3 v2_4 v2_5 v2_6 v2_7 ∧ (0 ≤ v2_7 ∧ v2_7 < c.length ∧ (nn0 : Int) + v2_7 = c.length ∧ c.length ≤ 700 ∧ (∀ j : Nat, (j : Int) < v2_7 → bxE (⟨⟨b0, b1, b2⟩, ⟨b3, b4, b5⟩⟩ : TBox) c j = 0) ∧ (⟨⟨v2_0, v2_1, v2_2⟩, ⟨v2_3, v2_4, v2_5⟩⟩ : TBox) = bxAt c v2_7.toNat ∧ (bxAt c v2_7.toNat).err = 0 ∧ (bxAt c v2_7.toNat).sub (⟨⟨b0, b1, b2⟩, ⟨b3, b4, b5⟩⟩ : TBox) ∧ 0 ≤ v2_6 ∧ v2_6 ≤ v2_7 ∧ (nn2 : Int) + v2_6 = v2_7 + 1 ∧ ∀ j : Nat, (j : Int) < v2_6 → (bxAt c j).apart (bxAt c v2_7.toNat))
 | 4, [nn4] => ∃ (v4_0 : Int) (v4_1 : Int), s = mk_ref05_CheckCover_4 m0 m1 m2 m3 m4 m5 m6 m7 m8 m9 m10 m11 b0 b1 b2 b3 b4 b5 l c K v4_0 v4_1 ∧ (0 ≤ v4_1 ∧ v4_1 ≤ c.length ∧ (nn4 : Int) + v4_1 = c.length + 1 ∧ c.length ≤ 700 ∧ (∀ j : Nat, j < c.length → bxE (⟨⟨b0, b1, b2⟩, ⟨b3, b4, b5⟩⟩ : TBox) c j = 0) ∧ v4_0 = sumC (c.take v4_1.toNat))
 | 6, [nn6] => ∃ (v6_0 : Int), s = mk_ref05_CheckCover_6 m0 m1 m2 m3 m4 m5 m6 m7 m8 m9 m10 m11 b0 b1 b2 b3 b4 b5 l c K v6_0 ∧ (0 ≤ v6_0 ∧ v6_0 ≤ c.length ∧ (nn6 : Int) + v6_0 = c.length + 1 ∧ c.length ≤ 700 ∧ (∀ j : Nat, j < c.length → bxE (⟨⟨b0, b1, b2⟩, ⟨b3, b4, b5⟩⟩ : TBox) c j = 0) ∧ sumC c = (⟨⟨b0, b1, b2⟩, ⟨b3, b4, b5⟩⟩ : TBox).count ∧ ∀ j : Nat, (j : Int) < v6_0 → provB (⟨m0, m1, m2, m3, m4, m5, m6, m7, m8, m9, m10, m11⟩ : TMod) l K (bxAt c j) = true)
 | _, _ => False
set_option maxHeartbeats 8000000 in
set_option maxRecDepth 100000 in
theorem rnd_ref05_CheckCover_0 (m0 m1 m2 m3 m4 m5 m6 m7 m8 m9 m10 m11 : Int) (b0 b1 b2 b3 b4 b5 : Int) (l : List THit) (c : List TBox) (K : Int) (v0_0 : Int) (nn0 : Nat) (hp : ((⟨m0, m1, m2, m3, m4, m5, m6, m7, m8, m9, m10, m11⟩ : TMod)).err = 0 ∧ ((⟨⟨b0, b1, b2⟩, ⟨b3, b4, b5⟩⟩ : TBox)).err = 0 ∧ hitsE l = 0) (hi : 0 ≤ v0_0 ∧ v0_0 ≤ c.length ∧ ((nn0 + 1) : Int) + v0_0 = c.length + 1 ∧ c.length ≤ 700 ∧ ∀ j : Nat, (j : Int) < v0_0 → bxE (⟨⟨b0, b1, b2⟩, ⟨b3, b4, b5⟩⟩ : TBox) c j = 0) : rd_ref05_CheckCover_0 (J_ref05_CheckCover m0 m1 m2 m3 m4 m5 m6 m7 m8 m9 m10 m11 b0 b1 b2 b3 b4 b5 l c K) m0 m1 m2 m3 m4 m5 m6 m7 m8 m9 m10 m11 b0 b1 b2 b3 b4 b5 l c K v0_0 nn0 (fun r => LeD r (.tu [.c (.v (.int .i64 ((cvR (⟨m0, m1, m2, m3, m4, m5, m6, m7, m8, m9, m10, m11⟩ : TMod) (⟨⟨b0, b1, b2⟩, ⟨b3, b4, b5⟩⟩ : TBox) l c K).1))), .c (.v (.int .i64 ((cvR (⟨m0, m1, m2, m3, m4, m5, m6, m7, m8, m9, m10, m11⟩ : TMod) (⟨⟨b0, b1, b2⟩, ⟨b3, b4, b5⟩⟩ : TBox) l c K).2)))])) := by
 obtain ⟨i1, i2, i3, i4, i5⟩ := hi
 obtain ⟨hm, hb, hh⟩ := hp
 obtain ⟨k, rfl⟩ : ∃ k : Nat, v0_0 = k := ⟨v0_0.toNat, by omega⟩
 have hk : (k : Int).toNat = k := rfl
 have hz : ∀ j, j < k → bxE (⟨⟨b0, b1, b2⟩, ⟨b3, b4, b5⟩⟩ : TBox) c j = 0 := fun j hj => i5 j (by omega)
 have hE0 : cvE0 (⟨m0, m1, m2, m3, m4, m5, m6, m7, m8, m9, m10, m11⟩ : TMod) (⟨⟨b0, b1, b2⟩, ⟨b3, b4, b5⟩⟩ : TBox) l c = 0 := by unfold cvE0; rw [hm, hb, hh, decide_eq_true (by omega)]; rfl
 have hCV : cvE0 (⟨m0, m1, m2, m3, m4, m5, m6, m7, m8, m9, m10, m11⟩ : TMod) (⟨⟨b0, b1, b2⟩, ⟨b3, b4, b5⟩⟩ : TBox) l c = 0 → cvR (⟨m0, m1, m2, m3, m4, m5, m6, m7, m8, m9, m10, m11⟩ : TMod) (⟨⟨b0, b1, b2⟩, ⟨b3, b4, b5⟩⟩ : TBox) l c K = if scan (bxE (⟨⟨b0, b1, b2⟩, ⟨b3, b4, b5⟩⟩ : TBox) c) c.length ≠ 0 then (scanI (bxE (⟨⟨b0, b1, b2⟩, ⟨b3, b4, b5⟩⟩ : TBox) c) c.length, scan (bxE (⟨⟨b0, b1, b2⟩, ⟨b3, b4, b5⟩⟩ : TBox) c) c.length) else if sumC c < (⟨⟨b0, b1, b2⟩, ⟨b3, b4, b5⟩⟩ : TBox).count then (0, 14) else if 0 ≤ idxP (fun a => !provB (⟨m0, m1, m2, m3, m4, m5, m6, m7, m8, m9, m10, m11⟩ : TMod) l K a) c then (idxP (fun a => !provB (⟨m0, m1, m2, m3, m4, m5, m6, m7, m8, m9, m10, m11⟩ : TMod) l K a) c, 19) else (0, 0) := fun e => if_neg (by rw [e]; simp)
 replace hCV := hCV hE0
 unfold rd_ref05_CheckCover_0
 rw [hk]
 refine cond_i (fun h => ?_) (fun h => ?_)
 ·have hlt : k < c.length := by have := of_decide_eq_true h; omega
  have hat : ∀ x, x ≠ 0 → bxE (⟨⟨b0, b1, b2⟩, ⟨b3, b4, b5⟩⟩ : TBox) c k = x → cvR (⟨m0, m1, m2, m3, m4, m5, m6, m7, m8, m9, m10, m11⟩ : TMod) (⟨⟨b0, b1, b2⟩, ⟨b3, b4, b5⟩⟩ : TBox) l c K = ((k : Int), x) := by
   intro x hx e
   have e1 := scan_at hz hlt (by rw [e]; exact hx)
   have e2 := scanI_at hz hlt (by rw [e]; exact hx)
   rw [hCV, if_pos (by rw [e1, e]; exact hx), e1, e2, e]
  have hE : bxE (⟨⟨b0, b1, b2⟩, ⟨b3, b4, b5⟩⟩ : TBox) c k = if (bxAt c k).err ≠ 0 then (bxAt c k).err else firstNZ [unl (decide ((bxAt c k).sub (⟨⟨b0, b1, b2⟩, ⟨b3, b4, b5⟩⟩ : TBox))) 6, unl (!((c.take k).any (fun a => decide (¬ a.apart (bxAt c k))))) 23] := rfl
  refine ⟨by omega, cond_i (fun e => ?_) (fun e => ?_)⟩
  ·have e : (bxAt c k).err ≠ 0 := by simpa using e
   rw [hat _ e (by rw [hE, if_pos e])]; exact LeD.refl _
  have e : (bxAt c k).err = 0 := by simpa using e
  have hsub := sub_ends (b := (⟨⟨b0, b1, b2⟩, ⟨b3, b4, b5⟩⟩ : TBox)) (box_ok e)
  have hno : ¬ (bxAt c k).sub (⟨⟨b0, b1, b2⟩, ⟨b3, b4, b5⟩⟩ : TBox) → bxE (⟨⟨b0, b1, b2⟩, ⟨b3, b4, b5⟩⟩ : TBox) c k = 6 := fun q => by rw [hE, if_neg (by rw [e]; simp), decide_eq_false q]; rfl
  refine cond_i (fun e2 => ⟨rfl, ?_⟩) (fun e2 => cond_i (fun e3 => ?_) (fun e3 => ?_))
  ·have e2 : ¬ (⟨⟨b0, b1, b2⟩, ⟨b3, b4, b5⟩⟩ : TBox).has (bxAt c k).lo := by simpa using e2
   rw [hat 6 (by decide) (hno fun q => e2 (hsub.1 q).1)]; exact LeD.refl _
  ·have e3 : ¬ (⟨⟨b0, b1, b2⟩, ⟨b3, b4, b5⟩⟩ : TBox).has (bxAt c k).hi := by simpa using e3
   rw [hat 6 (by decide) (hno fun q => e3 (hsub.1 q).2)]; exact LeD.refl _
  ·have e2 : (⟨⟨b0, b1, b2⟩, ⟨b3, b4, b5⟩⟩ : TBox).has (bxAt c k).lo := by simpa using e2
   have e3 : (⟨⟨b0, b1, b2⟩, ⟨b3, b4, b5⟩⟩ : TBox).has (bxAt c k).hi := by simpa using e3
   exact ⟨k + 1, _, _, _, _, _, _, _, _, rfl, by omega, by omega, by omega, i4, i5, rfl, e, hsub.2 ⟨e2, e3⟩, by omega, by omega, by omega, fun j hj => by omega⟩
 ·have hge : k = c.length := by have := of_decide_eq_false h; omega
  exact ⟨c.length + 1, 0, 0, rfl, by omega, by omega, by omega, i4, fun j hj => hz j (by omega), by simp [sumC]⟩
theorem zero_ref05_CheckCover_0 (m0 m1 m2 m3 m4 m5 m6 m7 m8 m9 m10 m11 : Int) (b0 b1 b2 b3 b4 b5 : Int) (l : List THit) (c : List TBox) (K : Int) (v0_0 : Int)  (hi : 0 ≤ v0_0 ∧ v0_0 ≤ c.length ∧ (0 : Int) + v0_0 = c.length + 1 ∧ c.length ≤ 700 ∧ ∀ j : Nat, (j : Int) < v0_0 → bxE (⟨⟨b0, b1, b2⟩, ⟨b3, b4, b5⟩⟩ : TBox) c j = 0) : False := by
 omega
set_option maxHeartbeats 8000000 in
set_option maxRecDepth 100000 in
theorem rnd_ref05_CheckCover_2 (m0 m1 m2 m3 m4 m5 m6 m7 m8 m9 m10 m11 : Int) (b0 b1 b2 b3 b4 b5 : Int) (l : List THit) (c : List TBox) (K : Int) (v2_0 : Int) (v2_1 : Int) (v2_2 : Int) (v2_3 : Int) (v2_4 : Int) (v2_5 : Int) (v2_6 : Int) (v2_7 : Int) (nn2 nn0 : Nat) (hp : ((⟨m0, m1, m2, m3, m4, m5, m6, m7, m8, m9, m10, m11⟩ : TMod)).err = 0 ∧ ((⟨⟨b0, b1, b2⟩, ⟨b3, b4, b5⟩⟩ : TBox)).err = 0 ∧ hitsE l = 0) (hi : 0 ≤ v2_7 ∧ v2_7 < c.length ∧ (nn0 : Int) + v2_7 = c.length ∧ c.length ≤ 700 ∧ (∀ j : Nat, (j : Int) < v2_7 → bxE (⟨⟨b0, b1, b2⟩, ⟨b3, b4, b5⟩⟩ : TBox) c j = 0) ∧ (⟨⟨v2_0, v2_1, v2_2⟩, ⟨v2_3, v2_4, v2_5⟩⟩ : TBox) = bxAt c v2_7.toNat ∧ (bxAt c v2_7.toNat).err = 0 ∧ (bxAt c v2_7.toNat).sub (⟨⟨b0, b1, b2⟩, ⟨b3, b4, b5⟩⟩ : TBox) ∧ 0 ≤ v2_6 ∧ v2_6 ≤ v2_7 ∧ ((nn2 + 1) : Int) + v2_6 = v2_7 + 1 ∧ ∀ j : Nat, (j : Int) < v2_6 → (bxAt c j).apart (bxAt c v2_7.toNat)) : rd_ref05_CheckCover_2 (J_ref05_CheckCover m0 m1 m2 m3 m4 m5 m6 m7 m8 m9 m10 m11 b0 b1 b2 b3 b4 b5 l c K) m0 m1 m2 m3 m4 m5 m6 m7 m8 m9 m10 m11 b0 b1 b2 b3 b4 b5 l c K v2_0 v2_1 v2_2 v2_3 v2_4 v2_5 v2_6 v2_7 nn2 nn0 (fun r => LeD r (.tu [.c (.v (.int .i64 ((cvR (⟨m0, m1, m2, m3, m4, m5, m6, m7, m8, m9, m10, m11⟩ : TMod) (⟨⟨b0, b1, b2⟩, ⟨b3, b4, b5⟩⟩ : TBox) l c K).1))), .c (.v (.int .i64 ((cvR (⟨m0, m1, m2, m3, m4, m5, m6, m7, m8, m9, m10, m11⟩ : TMod) (⟨⟨b0, b1, b2⟩, ⟨b3, b4, b5⟩⟩ : TBox) l c K).2)))])) := by
 obtain ⟨i1, i2, i3, i4, i5, i6, i7, i8, i9, i10, i11, i12⟩ := hi
 obtain ⟨hm, hb, hh⟩ := hp
 obtain ⟨i, rfl⟩ : ∃ i : Nat, v2_7 = i := ⟨v2_7.toNat, by omega⟩
 obtain ⟨k, rfl⟩ : ∃ k : Nat, v2_6 = k := ⟨v2_6.toNat, by omega⟩
 have hki : (i : Int).toNat = i := rfl
 have hk : (k : Int).toNat = k := rfl
 rw [hki] at i6 i7 i8 i12
 have hz : ∀ j, j < i → bxE (⟨⟨b0, b1, b2⟩, ⟨b3, b4, b5⟩⟩ : TBox) c j = 0 := fun j hj => i5 j (by omega)
 have hE0 : cvE0 (⟨m0, m1, m2, m3, m4, m5, m6, m7, m8, m9, m10, m11⟩ : TMod) (⟨⟨b0, b1, b2⟩, ⟨b3, b4, b5⟩⟩ : TBox) l c = 0 := by unfold cvE0; rw [hm, hb, hh, decide_eq_true (by omega)]; rfl
 have hCV : cvE0 (⟨m0, m1, m2, m3, m4, m5, m6, m7, m8, m9, m10, m11⟩ : TMod) (⟨⟨b0, b1, b2⟩, ⟨b3, b4, b5⟩⟩ : TBox) l c = 0 → cvR (⟨m0, m1, m2, m3, m4, m5, m6, m7, m8, m9, m10, m11⟩ : TMod) (⟨⟨b0, b1, b2⟩, ⟨b3, b4, b5⟩⟩ : TBox) l c K = if scan (bxE (⟨⟨b0, b1, b2⟩, ⟨b3, b4, b5⟩⟩ : TBox) c) c.length ≠ 0 then (scanI (bxE (⟨⟨b0, b1, b2⟩, ⟨b3, b4, b5⟩⟩ : TBox) c) c.length, scan (bxE (⟨⟨b0, b1, b2⟩, ⟨b3, b4, b5⟩⟩ : TBox) c) c.length) else if sumC c < (⟨⟨b0, b1, b2⟩, ⟨b3, b4, b5⟩⟩ : TBox).count then (0, 14) else if 0 ≤ idxP (fun a => !provB (⟨m0, m1, m2, m3, m4, m5, m6, m7, m8, m9, m10, m11⟩ : TMod) l K a) c then (idxP (fun a => !provB (⟨m0, m1, m2, m3, m4, m5, m6, m7, m8, m9, m10, m11⟩ : TMod) l K a) c, 19) else (0, 0) := fun e => if_neg (by rw [e]; simp)
 replace hCV := hCV hE0
 have hE : bxE (⟨⟨b0, b1, b2⟩, ⟨b3, b4, b5⟩⟩ : TBox) c i = if (bxAt c i).err ≠ 0 then (bxAt c i).err else firstNZ [unl (decide ((bxAt c i).sub (⟨⟨b0, b1, b2⟩, ⟨b3, b4, b5⟩⟩ : TBox))) 6, unl (!((c.take i).any (fun a => decide (¬ a.apart (bxAt c i))))) 23] := rfl
 rw [if_neg (by rw [i7]; simp), decide_eq_true i8] at hE
 unfold rd_ref05_CheckCover_2
 rw [hk, i6]
 refine cond_i (fun h => ⟨by have := of_decide_eq_true h; omega, cond_i (fun e => ?_) (fun e => lt_i fun x hx => ?_)⟩) (fun h => lt_i fun x hx => ?_)
 ·have hlt : k < i := by have := of_decide_eq_true h; omega
  have e : ¬ (bxAt c i).apart (bxAt c k) := by simpa using e
  have e1 : (c.take i).any (fun a => decide (¬ a.apart (bxAt c i))) = true := by
   rw [List.any_eq_true]
   refine ⟨bxAt c k, ?_, by simpa using fun q => e (apart_symm q)⟩
   rw [List.mem_take_iff_getElem]
   exact ⟨k, by omega, by simp [bxAt, List.getD, show k < c.length by omega]⟩
  have e2 : bxE (⟨⟨b0, b1, b2⟩, ⟨b3, b4, b5⟩⟩ : TBox) c i = 23 := by rw [hE, e1]; rfl
  have g1 := scan_at hz (show i < c.length by omega) (by rw [e2]; decide)
  have g2 := scanI_at hz (show i < c.length by omega) (by rw [e2]; decide)
  rw [hCV, if_pos (by rw [g1, e2]; decide), g1, g2, e2]; exact LeD.refl _
 ·have hlt : k < i := by have := of_decide_eq_true h; omega
  have e : (bxAt c i).apart (bxAt c k) := by simpa using e
  rw [IntWalk.i64_in _ (by omega)] at hx
  subst hx
  exact ⟨_, _, _, _, _, _, _, _, rfl, i1, i2, i3, i4, i5, i6, i7, i8, by omega, by omega, by omega, fun j hj => by
   by_cases q : j = k
   ·rw [q]; exact apart_symm e
   ·exact i12 j (by omega)⟩
 ·have hge : k = i := by have := of_decide_eq_false h; omega
  rw [IntWalk.i64_in _ (by omega)] at hx
  subst hx
  have e1 : (c.take i).any (fun a => decide (¬ a.apart (bxAt c i))) = false := by
   rw [List.any_eq_false]
   intro a ha
   obtain ⟨j, hj, e⟩ := List.mem_take_iff_getElem.1 ha
   have := i12 j (by omega)
   rw [show bxAt c j = c[j] by simp [bxAt, List.getD, show j < c.length by omega], e] at this
   simpa using this
  have e2 : bxE (⟨⟨b0, b1, b2⟩, ⟨b3, b4, b5⟩⟩ : TBox) c i = 0 := by rw [hE, e1]; rfl
  exact ⟨_, rfl, by omega, by omega, by omega, i4, fun j hj => by
   by_cases q : j = i
   ·rw [q]; exact e2
   ·exact hz j (by omega)⟩
theorem zero_ref05_CheckCover_2 (m0 m1 m2 m3 m4 m5 m6 m7 m8 m9 m10 m11 : Int) (b0 b1 b2 b3 b4 b5 : Int) (l : List THit) (c : List TBox) (K : Int) (v2_0 : Int) (v2_1 : Int) (v2_2 : Int) (v2_3 : Int) (v2_4 : Int) (v2_5 : Int) (v2_6 : Int) (v2_7 : Int) (nn0 : Nat) (hi : 0 ≤ v2_7 ∧ v2_7 < c.length ∧ (nn0 : Int) + v2_7 = c.length ∧ c.length ≤ 700 ∧ (∀ j : Nat, (j : Int) < v2_7 → bxE (⟨⟨b0, b1, b2⟩, ⟨b3, b4, b5⟩⟩ : TBox) c j = 0) ∧ (⟨⟨v2_0, v2_1, v2_2⟩, ⟨v2_3, v2_4, v2_5⟩⟩ : TBox) = bxAt c v2_7.toNat ∧ (bxAt c v2_7.toNat).err = 0 ∧ (bxAt c v2_7.toNat).sub (⟨⟨b0, b1, b2⟩, ⟨b3, b4, b5⟩⟩ : TBox) ∧ 0 ≤ v2_6 ∧ v2_6 ≤ v2_7 ∧ (0 : Int) + v2_6 = v2_7 + 1 ∧ ∀ j : Nat, (j : Int) < v2_6 → (bxAt c j).apart (bxAt c v2_7.toNat)) : False := by
 omega
set_option maxHeartbeats 8000000 in
set_option maxRecDepth 100000 in
theorem rnd_ref05_CheckCover_4 (m0 m1 m2 m3 m4 m5 m6 m7 m8 m9 m10 m11 : Int) (b0 b1 b2 b3 b4 b5 : Int) (l : List THit) (c : List TBox) (K : Int) (v4_0 : Int) (v4_1 : Int) (nn4 : Nat) (hp : ((⟨m0, m1, m2, m3, m4, m5, m6, m7, m8, m9, m10, m11⟩ : TMod)).err = 0 ∧ ((⟨⟨b0, b1, b2⟩, ⟨b3, b4, b5⟩⟩ : TBox)).err = 0 ∧ hitsE l = 0) (hi : 0 ≤ v4_1 ∧ v4_1 ≤ c.length ∧ ((nn4 + 1) : Int) + v4_1 = c.length + 1 ∧ c.length ≤ 700 ∧ (∀ j : Nat, j < c.length → bxE (⟨⟨b0, b1, b2⟩, ⟨b3, b4, b5⟩⟩ : TBox) c j = 0) ∧ v4_0 = sumC (c.take v4_1.toNat)) : rd_ref05_CheckCover_4 (J_ref05_CheckCover m0 m1 m2 m3 m4 m5 m6 m7 m8 m9 m10 m11 b0 b1 b2 b3 b4 b5 l c K) m0 m1 m2 m3 m4 m5 m6 m7 m8 m9 m10 m11 b0 b1 b2 b3 b4 b5 l c K v4_0 v4_1 nn4 (fun r => LeD r (.tu [.c (.v (.int .i64 ((cvR (⟨m0, m1, m2, m3, m4, m5, m6, m7, m8, m9, m10, m11⟩ : TMod) (⟨⟨b0, b1, b2⟩, ⟨b3, b4, b5⟩⟩ : TBox) l c K).1))), .c (.v (.int .i64 ((cvR (⟨m0, m1, m2, m3, m4, m5, m6, m7, m8, m9, m10, m11⟩ : TMod) (⟨⟨b0, b1, b2⟩, ⟨b3, b4, b5⟩⟩ : TBox) l c K).2)))])) := by
 obtain ⟨i1, i2, i3, i4, i5, i6⟩ := hi
 obtain ⟨hm, hb, hh⟩ := hp
 have hin := box_in hb
 obtain ⟨k, rfl⟩ : ∃ k : Nat, v4_1 = k := ⟨v4_1.toNat, by omega⟩
 have hk : (k : Int).toNat = k := rfl
 rw [hk] at i6
 have hE0 : cvE0 (⟨m0, m1, m2, m3, m4, m5, m6, m7, m8, m9, m10, m11⟩ : TMod) (⟨⟨b0, b1, b2⟩, ⟨b3, b4, b5⟩⟩ : TBox) l c = 0 := by unfold cvE0; rw [hm, hb, hh, decide_eq_true (by omega)]; rfl
 have hCV : cvE0 (⟨m0, m1, m2, m3, m4, m5, m6, m7, m8, m9, m10, m11⟩ : TMod) (⟨⟨b0, b1, b2⟩, ⟨b3, b4, b5⟩⟩ : TBox) l c = 0 → cvR (⟨m0, m1, m2, m3, m4, m5, m6, m7, m8, m9, m10, m11⟩ : TMod) (⟨⟨b0, b1, b2⟩, ⟨b3, b4, b5⟩⟩ : TBox) l c K = if scan (bxE (⟨⟨b0, b1, b2⟩, ⟨b3, b4, b5⟩⟩ : TBox) c) c.length ≠ 0 then (scanI (bxE (⟨⟨b0, b1, b2⟩, ⟨b3, b4, b5⟩⟩ : TBox) c) c.length, scan (bxE (⟨⟨b0, b1, b2⟩, ⟨b3, b4, b5⟩⟩ : TBox) c) c.length) else if sumC c < (⟨⟨b0, b1, b2⟩, ⟨b3, b4, b5⟩⟩ : TBox).count then (0, 14) else if 0 ≤ idxP (fun a => !provB (⟨m0, m1, m2, m3, m4, m5, m6, m7, m8, m9, m10, m11⟩ : TMod) l K a) c then (idxP (fun a => !provB (⟨m0, m1, m2, m3, m4, m5, m6, m7, m8, m9, m10, m11⟩ : TMod) l K a) c, 19) else (0, 0) := fun e => if_neg (by rw [e]; simp)
 replace hCV := hCV hE0
 rw [if_neg (by rw [scan_end i5]; simp)] at hCV
 unfold rd_ref05_CheckCover_4
 rw [hk]
 refine cond_i (fun h => ?_) (fun h => ?_)
 ·have hlt : k < c.length := by have := of_decide_eq_true h; omega
  have hbx := box_in (bxE_err (i5 k hlt))
  have b1 := sumC_bd (b := (⟨⟨b0, b1, b2⟩, ⟨b3, b4, b5⟩⟩ : TBox)) c (k := k) fun j hj => i5 j (by omega)
  have b2 := err_cnt (bxE_err (i5 k hlt))
  refine ⟨by omega, ⟨hbx.1, hbx.2⟩, lt_i fun x1 h1 => lt_i fun x2 h2 => ?_⟩
  rw [IntWalk.i64_in _ (by omega)] at h1
  rw [IntWalk.i64_in _ (by omega)] at h2
  subst h1; subst h2
  refine ⟨_, _, rfl, by omega, by omega, by omega, i4, i5, ?_⟩
  rw [show ((k : Int) + 1).toNat = k + 1 by omega, bxAt_take hlt, sumC_app, i6]
  simp [sumC]
 ·have hge : k = c.length := by have := of_decide_eq_false h; omega
  subst hge
  rw [List.take_length] at i6
  have hle := sum_full_le hb i5
  refine ⟨⟨hin.1, hin.2⟩, cond_i (fun e => ?_) (fun e => ?_)⟩
  ·have e : v4_0 ≠ (⟨⟨b0, b1, b2⟩, ⟨b3, b4, b5⟩⟩ : TBox).count := by simpa using e
   rw [hCV, if_pos (by rw [← i6] at hle ⊢; omega)]; exact LeD.refl _
  ·have e : v4_0 = (⟨⟨b0, b1, b2⟩, ⟨b3, b4, b5⟩⟩ : TBox).count := by simpa using e
   exact ⟨c.length + 1, 0, rfl, by omega, by omega, by omega, i4, i5, by rw [← i6, e], fun j hj => by omega⟩
theorem zero_ref05_CheckCover_4 (m0 m1 m2 m3 m4 m5 m6 m7 m8 m9 m10 m11 : Int) (b0 b1 b2 b3 b4 b5 : Int) (l : List THit) (c : List TBox) (K : Int) (v4_0 : Int) (v4_1 : Int)  (hi : 0 ≤ v4_1 ∧ v4_1 ≤ c.length ∧ (0 : Int) + v4_1 = c.length + 1 ∧ c.length ≤ 700 ∧ (∀ j : Nat, j < c.length → bxE (⟨⟨b0, b1, b2⟩, ⟨b3, b4, b5⟩⟩ : TBox) c j = 0) ∧ v4_0 = sumC (c.take v4_1.toNat)) : False := by
 omega
set_option maxHeartbeats 8000000 in
set_option maxRecDepth 100000 in
theorem rnd_ref05_CheckCover_6 (m0 m1 m2 m3 m4 m5 m6 m7 m8 m9 m10 m11 : Int) (b0 b1 b2 b3 b4 b5 : Int) (l : List THit) (c : List TBox) (K : Int) (v6_0 : Int) (nn6 : Nat) (hp : ((⟨m0, m1, m2, m3, m4, m5, m6, m7, m8, m9, m10, m11⟩ : TMod)).err = 0 ∧ ((⟨⟨b0, b1, b2⟩, ⟨b3, b4, b5⟩⟩ : TBox)).err = 0 ∧ hitsE l = 0) (hi : 0 ≤ v6_0 ∧ v6_0 ≤ c.length ∧ ((nn6 + 1) : Int) + v6_0 = c.length + 1 ∧ c.length ≤ 700 ∧ (∀ j : Nat, j < c.length → bxE (⟨⟨b0, b1, b2⟩, ⟨b3, b4, b5⟩⟩ : TBox) c j = 0) ∧ sumC c = (⟨⟨b0, b1, b2⟩, ⟨b3, b4, b5⟩⟩ : TBox).count ∧ ∀ j : Nat, (j : Int) < v6_0 → provB (⟨m0, m1, m2, m3, m4, m5, m6, m7, m8, m9, m10, m11⟩ : TMod) l K (bxAt c j) = true) : rd_ref05_CheckCover_6 (J_ref05_CheckCover m0 m1 m2 m3 m4 m5 m6 m7 m8 m9 m10 m11 b0 b1 b2 b3 b4 b5 l c K) m0 m1 m2 m3 m4 m5 m6 m7 m8 m9 m10 m11 b0 b1 b2 b3 b4 b5 l c K v6_0 nn6 (fun r => LeD r (.tu [.c (.v (.int .i64 ((cvR (⟨m0, m1, m2, m3, m4, m5, m6, m7, m8, m9, m10, m11⟩ : TMod) (⟨⟨b0, b1, b2⟩, ⟨b3, b4, b5⟩⟩ : TBox) l c K).1))), .c (.v (.int .i64 ((cvR (⟨m0, m1, m2, m3, m4, m5, m6, m7, m8, m9, m10, m11⟩ : TMod) (⟨⟨b0, b1, b2⟩, ⟨b3, b4, b5⟩⟩ : TBox) l c K).2)))])) := by
 obtain ⟨i1, i2, i3, i4, i5, i6, i7⟩ := hi
 obtain ⟨hm, hb, hh⟩ := hp
 obtain ⟨q6, q7⟩ := hitsE_ok hh
 obtain ⟨k, rfl⟩ : ∃ k : Nat, v6_0 = k := ⟨v6_0.toNat, by omega⟩
 have hk : (k : Int).toNat = k := rfl
 have hE0 : cvE0 (⟨m0, m1, m2, m3, m4, m5, m6, m7, m8, m9, m10, m11⟩ : TMod) (⟨⟨b0, b1, b2⟩, ⟨b3, b4, b5⟩⟩ : TBox) l c = 0 := by unfold cvE0; rw [hm, hb, hh, decide_eq_true (by omega)]; rfl
 have hCV : cvE0 (⟨m0, m1, m2, m3, m4, m5, m6, m7, m8, m9, m10, m11⟩ : TMod) (⟨⟨b0, b1, b2⟩, ⟨b3, b4, b5⟩⟩ : TBox) l c = 0 → cvR (⟨m0, m1, m2, m3, m4, m5, m6, m7, m8, m9, m10, m11⟩ : TMod) (⟨⟨b0, b1, b2⟩, ⟨b3, b4, b5⟩⟩ : TBox) l c K = if scan (bxE (⟨⟨b0, b1, b2⟩, ⟨b3, b4, b5⟩⟩ : TBox) c) c.length ≠ 0 then (scanI (bxE (⟨⟨b0, b1, b2⟩, ⟨b3, b4, b5⟩⟩ : TBox) c) c.length, scan (bxE (⟨⟨b0, b1, b2⟩, ⟨b3, b4, b5⟩⟩ : TBox) c) c.length) else if sumC c < (⟨⟨b0, b1, b2⟩, ⟨b3, b4, b5⟩⟩ : TBox).count then (0, 14) else if 0 ≤ idxP (fun a => !provB (⟨m0, m1, m2, m3, m4, m5, m6, m7, m8, m9, m10, m11⟩ : TMod) l K a) c then (idxP (fun a => !provB (⟨m0, m1, m2, m3, m4, m5, m6, m7, m8, m9, m10, m11⟩ : TMod) l K a) c, 19) else (0, 0) := fun e => if_neg (by rw [e]; simp)
 replace hCV := hCV hE0
 rw [if_neg (by rw [scan_end i5]; simp), if_neg (by rw [i6]; omega)] at hCV
 unfold rd_ref05_CheckCover_6
 rw [hk]
 simp only [hits_listC]
 have hz : ∀ j, j < k → (fun a => !provB (⟨m0, m1, m2, m3, m4, m5, m6, m7, m8, m9, m10, m11⟩ : TMod) l K a) (c.getD j ⟨⟨0, 0, 0⟩, ⟨0, 0, 0⟩⟩) = false := fun j hj => by
  show (!provB (⟨m0, m1, m2, m3, m4, m5, m6, m7, m8, m9, m10, m11⟩ : TMod) l K (bxAt c j)) = false
  rw [i7 j (by omega)]; rfl
 have hnx : ∀ x, k < c.length → IntKind.i64.wrap ((k : Int) + 1) = x → x = (k : Int) + 1 := fun x hl hx => by rw [← hx]; exact IntWalk.i64_in _ (by omega)
 have hgo : ∀ x, k < c.length → provB (⟨m0, m1, m2, m3, m4, m5, m6, m7, m8, m9, m10, m11⟩ : TMod) l K (bxAt c k) = true → IntKind.i64.wrap ((k : Int) + 1) = x → J_ref05_CheckCover m0 m1 m2 m3 m4 m5 m6 m7 m8 m9 m10 m11 b0 b1 b2 b3 b4 b5 l c K 6 (nn6 :: []) (mk_ref05_CheckCover_6 m0 m1 m2 m3 m4 m5 m6 m7 m8 m9 m10 m11 b0 b1 b2 b3 b4 b5 l c K x) := fun x hl hpv hx => by
  rw [hnx x hl hx]
  exact ⟨_, rfl, by omega, by omega, by omega, i4, i5, i6, fun j hj => by
   by_cases q : j = k
   ·rw [q]; exact hpv
   ·exact i7 j (by omega)⟩
 refine cond_i (fun h => ?_) (fun h => ?_)
 ·have hlt : k < c.length := by have := of_decide_eq_true h; omega
  have e := bxE_err (i5 k hlt)
  have hbx := box_in e
  refine ⟨by omega, cond_i (fun e1 => ⟨by omega, ⟨numsP_hits l, err_ok hm, hbx.1, hbx.2, canB_iff.1 (by rw [← canW_eq hbx.1 hbx.2]; exact e1), q6, q7⟩, cond_i (fun e2 => ?_) (fun e2 => lt_i fun x hx => ?_)⟩) (fun e1 => ⟨trivial, lt_i fun x hx => ?_⟩)⟩
  ·have e2 := of_decide_eq_true e2
   have g1 : idxP (fun a => !provB (⟨m0, m1, m2, m3, m4, m5, m6, m7, m8, m9, m10, m11⟩ : TMod) l K a) c = k := idxP_at (d := (⟨⟨0, 0, 0⟩, ⟨0, 0, 0⟩⟩ : TBox)) hlt hz (by
    show (!provB (⟨m0, m1, m2, m3, m4, m5, m6, m7, m8, m9, m10, m11⟩ : TMod) l K (bxAt c k)) = true
    unfold provB
    rw [e1, decide_eq_false (by omega)]; rfl)
   rw [hCV, g1, if_pos (by omega)]; exact LeD.refl _
  ·have e2 := of_decide_eq_false e2
   exact hgo x hlt (by unfold provB; rw [e1, decide_eq_true (by omega)]; rfl) hx
  ·exact hgo x hlt (by unfold provB; rw [e1]; rfl) hx
 ·have hge : k = c.length := by have := of_decide_eq_false h; omega
  have g1 : idxP (fun a => !provB (⟨m0, m1, m2, m3, m4, m5, m6, m7, m8, m9, m10, m11⟩ : TMod) l K a) c = -1 := idxP_none (d := (⟨⟨0, 0, 0⟩, ⟨0, 0, 0⟩⟩ : TBox)) fun j hj => hz j (by omega)
  rw [hCV, g1, if_neg (by omega)]; exact LeD.refl _
theorem zero_ref05_CheckCover_6 (m0 m1 m2 m3 m4 m5 m6 m7 m8 m9 m10 m11 : Int) (b0 b1 b2 b3 b4 b5 : Int) (l : List THit) (c : List TBox) (K : Int) (v6_0 : Int)  (hi : 0 ≤ v6_0 ∧ v6_0 ≤ c.length ∧ (0 : Int) + v6_0 = c.length + 1 ∧ c.length ≤ 700 ∧ (∀ j : Nat, j < c.length → bxE (⟨⟨b0, b1, b2⟩, ⟨b3, b4, b5⟩⟩ : TBox) c j = 0) ∧ sumC c = (⟨⟨b0, b1, b2⟩, ⟨b3, b4, b5⟩⟩ : TBox).count ∧ ∀ j : Nat, (j : Int) < v6_0 → provB (⟨m0, m1, m2, m3, m4, m5, m6, m7, m8, m9, m10, m11⟩ : TMod) l K (bxAt c j) = true) : False := by
 omega
set_option maxHeartbeats 8000000 in
set_option maxRecDepth 100000 in
theorem spec_ref05_CheckCover (m0 m1 m2 m3 m4 m5 m6 m7 m8 m9 m10 m11 : Int) (b0 b1 b2 b3 b4 b5 : Int) (l : List THit) (c : List TBox) (K : Int) (hp : ((⟨m0, m1, m2, m3, m4, m5, m6, m7, m8, m9, m10, m11⟩ : TMod)).err = 0 ∧ ((⟨⟨b0, b1, b2⟩, ⟨b3, b4, b5⟩⟩ : TBox)).err = 0 ∧ hitsE l = 0) : vc_ref05_CheckCover (J_ref05_CheckCover m0 m1 m2 m3 m4 m5 m6 m7 m8 m9 m10 m11 b0 b1 b2 b3 b4 b5 l c K) m0 m1 m2 m3 m4 m5 m6 m7 m8 m9 m10 m11 b0 b1 b2 b3 b4 b5 l c K (fun r => LeD r (.tu [.c (.v (.int .i64 ((cvR (⟨m0, m1, m2, m3, m4, m5, m6, m7, m8, m9, m10, m11⟩ : TMod) (⟨⟨b0, b1, b2⟩, ⟨b3, b4, b5⟩⟩ : TBox) l c K).1))), .c (.v (.int .i64 ((cvR (⟨m0, m1, m2, m3, m4, m5, m6, m7, m8, m9, m10, m11⟩ : TMod) (⟨⟨b0, b1, b2⟩, ⟨b3, b4, b5⟩⟩ : TBox) l c K).2)))])) := by
 obtain ⟨hm, hb, hh⟩ := hp
 unfold vc_ref05_CheckCover
 refine cond_i (fun h => ?_) (fun h => ?_)
 ·have h := of_decide_eq_true h
  have e : cvE0 (⟨m0, m1, m2, m3, m4, m5, m6, m7, m8, m9, m10, m11⟩ : TMod) (⟨⟨b0, b1, b2⟩, ⟨b3, b4, b5⟩⟩ : TBox) l c = 8 := by unfold cvE0; rw [hm, hb, hh, decide_eq_false (by omega)]; rfl
  rw [show cvR (⟨m0, m1, m2, m3, m4, m5, m6, m7, m8, m9, m10, m11⟩ : TMod) (⟨⟨b0, b1, b2⟩, ⟨b3, b4, b5⟩⟩ : TBox) l c K = (0, cvE0 (⟨m0, m1, m2, m3, m4, m5, m6, m7, m8, m9, m10, m11⟩ : TMod) (⟨⟨b0, b1, b2⟩, ⟨b3, b4, b5⟩⟩ : TBox) l c) from if_pos (by rw [e]; decide), e]
  exact LeD.refl _
 ·have h := of_decide_eq_false h
  exact ⟨c.length + 1, 0, rfl, by omega, by omega, by omega, by omega, fun j hj => by omega⟩
theorem all_ref05_CheckCover (m0 m1 m2 m3 m4 m5 m6 m7 m8 m9 m10 m11 : Int) (b0 b1 b2 b3 b4 b5 : Int) (l : List THit) (c : List TBox) (K : Int) (hp : ((⟨m0, m1, m2, m3, m4, m5, m6, m7, m8, m9, m10, m11⟩ : TMod)).err = 0 ∧ ((⟨⟨b0, b1, b2⟩, ⟨b3, b4, b5⟩⟩ : TBox)).err = 0 ∧ hitsE l = 0) : AllG (J_ref05_CheckCover m0 m1 m2 m3 m4 m5 m6 m7 m8 m9 m10 m11 b0 b1 b2 b3 b4 b5 l c K) (loopsFn Try.prog tab S78 ann_ref05_CheckCover (J_ref05_CheckCover m0 m1 m2 m3 m4 m5 m6 m7 m8 m9 m10 m11 b0 b1 b2 b3 b4 b5 l c K) Try.f61 (fun r => LeD r (.tu [.c (.v (.int .i64 ((cvR (⟨m0, m1, m2, m3, m4, m5, m6, m7, m8, m9, m10, m11⟩ : TMod) (⟨⟨b0, b1, b2⟩, ⟨b3, b4, b5⟩⟩ : TBox) l c K).1))), .c (.v (.int .i64 ((cvR (⟨m0, m1, m2, m3, m4, m5, m6, m7, m8, m9, m10, m11⟩ : TMod) (⟨⟨b0, b1, b2⟩, ⟨b3, b4, b5⟩⟩ : TBox) l c K).2)))]))) := by
 rw [lp_ref05_CheckCover]
 refine ⟨⟨?_, ?_⟩, ⟨?_, ?_⟩, ⟨?_, ?_⟩, ⟨?_, ?_⟩, trivial⟩
 ·intro F s h
  obtain _ | ⟨g, F⟩ := F
  case cons => exact h.elim
  obtain ⟨w0, rfl, hi⟩ := h
  exact zero_ref05_CheckCover_0 m0 m1 m2 m3 m4 m5 m6 m7 m8 m9 m10 m11 b0 b1 b2 b3 b4 b5 l c K _ hi
 ·intro n F s h
  obtain _ | ⟨g, F⟩ := F
  case cons => exact h.elim
  obtain ⟨w0, rfl, hi⟩ := h
  rw [er_ref05_CheckCover_0]
  exact rnd_ref05_CheckCover_0 m0 m1 m2 m3 m4 m5 m6 m7 m8 m9 m10 m11 b0 b1 b2 b3 b4 b5 l c K _ _ hp hi
 ·intro F s h
  obtain _ | ⟨f0, F⟩ := F
  ·exact h.elim
  obtain _ | ⟨g, F⟩ := F
  case cons => exact h.elim
  obtain ⟨w0, w1, w2, w3, w4, w5, w6, w7, rfl, hi⟩ := h
  exact zero_ref05_CheckCover_2 m0 m1 m2 m3 m4 m5 m6 m7 m8 m9 m10 m11 b0 b1 b2 b3 b4 b5 l c K _ _ _ _ _ _ _ _ _ hi
 ·intro n F s h
  obtain _ | ⟨f0, F⟩ := F
  ·exact h.elim
  obtain _ | ⟨g, F⟩ := F
  case cons => exact h.elim
  obtain ⟨w0, w1, w2, w3, w4, w5, w6, w7, rfl, hi⟩ := h
  rw [er_ref05_CheckCover_2]
  exact rnd_ref05_CheckCover_2 m0 m1 m2 m3 m4 m5 m6 m7 m8 m9 m10 m11 b0 b1 b2 b3 b4 b5 l c K _ _ _ _ _ _ _ _ _ _ hp hi
 ·intro F s h
  obtain _ | ⟨g, F⟩ := F
  case cons => exact h.elim
  obtain ⟨w0, w1, rfl, hi⟩ := h
  exact zero_ref05_CheckCover_4 m0 m1 m2 m3 m4 m5 m6 m7 m8 m9 m10 m11 b0 b1 b2 b3 b4 b5 l c K _ _ hi
 ·intro n F s h
  obtain _ | ⟨g, F⟩ := F
  case cons => exact h.elim
  obtain ⟨w0, w1, rfl, hi⟩ := h
  rw [er_ref05_CheckCover_4]
  exact rnd_ref05_CheckCover_4 m0 m1 m2 m3 m4 m5 m6 m7 m8 m9 m10 m11 b0 b1 b2 b3 b4 b5 l c K _ _ _ hp hi
 ·intro F s h
  obtain _ | ⟨g, F⟩ := F
  case cons => exact h.elim
  obtain ⟨w0, rfl, hi⟩ := h
  exact zero_ref05_CheckCover_6 m0 m1 m2 m3 m4 m5 m6 m7 m8 m9 m10 m11 b0 b1 b2 b3 b4 b5 l c K _ hi
 ·intro n F s h
  obtain _ | ⟨g, F⟩ := F
  case cons => exact h.elim
  obtain ⟨w0, rfl, hi⟩ := h
  rw [er_ref05_CheckCover_6]
  exact rnd_ref05_CheckCover_6 m0 m1 m2 m3 m4 m5 m6 m7 m8 m9 m10 m11 b0 b1 b2 b3 b4 b5 l c K _ _ hp hi
def con_ref05_CheckCover : Con := fun args => match args with
 | [.t (.a [.v (.int .i64 m0), .v (.int .i64 m1), .v (.int .i64 m2), .v (.int .i64 m3), .v (.int .i64 m4), .v (.int .i64 m5), .v (.int .i64 m6), .v (.int .i64 m7), .v (.int .i64 m8), .v (.int .i64 m9), .v (.int .i64 m10), .v (.int .i64 m11)]), .t (.a [.v (.int .i64 b0), .v (.int .i64 b1), .v (.int .i64 b2), .v (.int .i64 b3), .v (.int .i64 b4), .v (.int .i64 b5), .sl 5 n_l c_l]), .t (.a [.sl 6 n_c c_c, .v (.int .i64 K)])] => some (.tu [.c (.v (.int .i64 ((cvR (⟨m0, m1, m2, m3, m4, m5, m6, m7, m8, m9, m10, m11⟩ : TMod) (⟨⟨b0, b1, b2⟩, ⟨b3, b4, b5⟩⟩ : TBox) (listC n_l mkHit c_l) (listC n_c mkBx c_c) K).1))), .c (.v (.int .i64 ((cvR (⟨m0, m1, m2, m3, m4, m5, m6, m7, m8, m9, m10, m11⟩ : TMod) (⟨⟨b0, b1, b2⟩, ⟨b3, b4, b5⟩⟩ : TBox) (listC n_l mkHit c_l) (listC n_c mkBx c_c) K).2)))], some (numsP 5 n_l c_l ∧ numsP 6 n_c c_c ∧ ((⟨m0, m1, m2, m3, m4, m5, m6, m7, m8, m9, m10, m11⟩ : TMod)).err = 0 ∧ ((⟨⟨b0, b1, b2⟩, ⟨b3, b4, b5⟩⟩ : TBox)).err = 0 ∧ hitsE (listC n_l mkHit c_l) = 0), false)
 | _ => none
theorem ok_ref05_CheckCover : Ok Try.prog 61 con_ref05_CheckCover := by
 refine Ok.fn (ann := ann_ref05_CheckCover) mixed tabOK VS78 VI49 (fn := Try.f61) (by kernel_rfl) (by kernel_rfl) fit_ref05_CheckCover fun args r pre fresh h hp => ?_
 unfold con_ref05_CheckCover at h
 split at h
 ·rename_i m0 m1 m2 m3 m4 m5 m6 m7 m8 m9 m10 m11 b0 b1 b2 b3 b4 b5 n_l c_l n_c c_c K
  cases h
  obtain ⟨hp0, hp1, hp⟩ := hp
  refine ⟨rfl, J_ref05_CheckCover m0 m1 m2 m3 m4 m5 m6 m7 m8 m9 m10 m11 b0 b1 b2 b3 b4 b5 (listC n_l mkHit c_l) (listC n_c mkBx c_c) K, [.t (.a [.v (.int .i64 m0), .v (.int .i64 m1), .v (.int .i64 m2), .v (.int .i64 m3), .v (.int .i64 m4), .v (.int .i64 m5), .v (.int .i64 m6), .v (.int .i64 m7), .v (.int .i64 m8), .v (.int .i64 m9), .v (.int .i64 m10), .v (.int .i64 m11)]), .t (.a [.v (.int .i64 b0), .v (.int .i64 b1), .v (.int .i64 b2), .v (.int .i64 b3), .v (.int .i64 b4), .v (.int .i64 b5), .sl 5 ((listC n_l mkHit c_l).length) (hitsC (listC n_l mkHit c_l))]), .t (.a [.sl 6 ((listC n_c mkBx c_c).length) (bxsC (listC n_c mkBx c_c)), .v (.int .i64 K)])], ?_, Nat.le_of_ble_eq_true (by kernel_rfl), ?_, ?_⟩
  ·exact (LeA_cons (LeD.refl _) (LeA_cons (leT_a (LeCs.cons (LeC1.refl _) (LeCs.cons (LeC1.refl _) (LeCs.cons (LeC1.refl _) (LeCs.cons (LeC1.refl _) (LeCs.cons (LeC1.refl _) (LeCs.cons (LeC1.refl _) (LeCs.cons ((leL_THit hp0)) LeCs.nil)))))))) (LeA_cons (leT_a (LeCs.cons ((leL_TBox hp1)) (LeCs.cons (LeC1.refl _) LeCs.nil))) LeA_nil)))
  ·rw [ev_ref05_CheckCover]; exact spec_ref05_CheckCover m0 m1 m2 m3 m4 m5 m6 m7 m8 m9 m10 m11 b0 b1 b2 b3 b4 b5 (listC n_l mkHit c_l) (listC n_c mkBx c_c) K hp
  ·exact all_ref05_CheckCover m0 m1 m2 m3 m4 m5 m6 m7 m8 m9 m10 m11 b0 b1 b2 b3 b4 b5 (listC n_l mkHit c_l) (listC n_c mkBx c_c) K hp
 ·cases h
def S79 : Sum := addS S78 61 con_ref05_CheckCover
theorem VS79 : Valid Try.prog S79 := Valid.add VS78 ok_ref05_CheckCover
end Go.Proofs.Ytlmdmpjfehpjeaa
set_option linter.unusedVariables false
set_option linter.unusedSimpArgs false
namespace Go.Proofs.Ytlmdmpjfehpjeaa
open Go.RowKit Ev
def vc_law05_TrackCovers (m0 m1 m2 m3 m4 m5 m6 m7 m8 m9 m10 m11 : Int) (b0 b1 b2 b3 b4 b5 : Int) (l : List THit) (c : List TBox) (K : Int) (post : DV → Prop) : Prop := (fun (Z1 : TMod) (Z2 : TBox) (Z3 : List THit) (Z4 : List TBox) => (numsP 5 l.length (hitsC l)) ∧ (cond (!(decide ((Z3).length ≤ 14))) ((true = true) ∧ ((true = true) ∧ ((true = true) ∧ (post (.t (.c (.v (.bool true)))))))) (cond (!(smallB Z2)) ((true = true) ∧ ((true = true) ∧ (post (.t (.c (.v (.bool true))))))) (cond (decide (((c.length : Nat) : Int) > (40 : Int))) (cond (decide (((c.length : Nat) : Int) ≤ (700 : Int))) ((true = true) ∧ (post (.t (.c (.v (.bool true)))))) (cond (decide (((c.length : Nat) : Int) > (702 : Int))) (post (.t (.c (.v (.bool true))))) ((numsP 5 l.length (hitsC l) ∧ (Z3).length ≤ 1000000) ∧ ((numsP 6 c.length (bxsC c) ∧ (Z4).length ≤ 1000000) ∧ (lt ((cvR Z1 Z2 (listC (Z3.length) mkHit (hitsC Z3)) (listC (Z4.length) mkBx (bxsC Z4)) K).1) fun x1 => lt ((cvR Z1 Z2 (listC (Z3.length) mkHit (hitsC Z3)) (listC (Z4.length) mkBx (bxsC Z4)) K).2) fun x2 => (numsP 5 (Z3.length) (hitsC Z3) ∧ numsP 6 (Z4.length) (bxsC Z4)) ∧ ((numsP 5 l.length (hitsC l) ∧ (Z3).length ≤ 1000000) ∧ (lt (if firstNZ [firstNZ [(Z1).err, (Z2).err], hitsE (listC (Z3.length) mkHit (hitsC Z3))] = 0 then unl (covR Z1 (listC (Z3.length) mkHit (hitsC Z3)) K Z2).2 12 else firstNZ [firstNZ [(Z1).err, (Z2).err], hitsE (listC (Z3.length) mkHit (hitsC Z3))]) fun x3 => (numsP 5 (Z3.length) (hitsC Z3)) ∧ (lt ((Z1).err) fun x4 => cond (x4 == (0 : Int)) (lt (firstNZ [(Z2).err, hitsE Z3]) fun x5 => (numsP 5 l.length (hitsC l)) ∧ (cond (x5 != (0 : Int)) (cond (x2 == x5) (cond (x1 == (0 : Int)) (cond (x3 == x5) (post (.t (.c (.v (.bool ((((if firstNZ [firstNZ [(Z1).err, (Z2).err], hitsE (listC (Z3.length) mkHit (hitsC Z3))] = 0 then (covR Z1 (listC (Z3.length) mkHit (hitsC Z3)) K Z2).1 else []).length : Nat) : Int) == (0 : Int))))))) ((false = false) ∧ (post (.t (.c (.v (.bool false))))))) ((false = false) ∧ ((false = false) ∧ (post (.t (.c (.v (.bool false)))))))) ((false = false) ∧ ((false = false) ∧ ((false = false) ∧ (post (.t (.c (.v (.bool false))))))))) (lt ((cvR Z1 Z2 Z3 Z4 K).1) fun x6 => lt ((cvR Z1 Z2 Z3 Z4 K).2) fun x7 => (numsP 5 l.length (hitsC l) ∧ numsP 6 c.length (bxsC c) ∧ (Z1).err = 0 ∧ (Z2).err = 0 ∧ hitsE Z3 = 0) ∧ (cond (x2 != x7) ((true = true) ∧ (post (.t (.c (.v (.bool false)))))) (cond (x1 != x6) (post (.t (.c (.v (.bool false))))) (lt ((bestV Z1 Z2 Z3).x) fun x8 => lt ((bestV Z1 Z2 Z3).y) fun x9 => lt ((bestV Z1 Z2 Z3).z) fun x10 => lt (bestS Z1 Z2 Z3) fun x11 => lt (decide ((Z1).steps Z2 ≠ [])) fun x12 => (numsP 5 l.length (hitsC l) ∧ (Z1).err = 0 ∧ (Z2).err = 0 ∧ hitsE Z3 = 0) ∧ (cond x12 (cond (decide (x11 < K)) (cond (x3 == (12 : Int)) (post (.t (.c (.v (.bool ((((if firstNZ [firstNZ [(Z1).err, (Z2).err], hitsE (listC (Z3.length) mkHit (hitsC Z3))] = 0 then (covR Z1 (listC (Z3.length) mkHit (hitsC Z3)) K Z2).1 else []).length : Nat) : Int) == (0 : Int))))))) ((false = false) ∧ (post (.t (.c (.v (.bool false))))))) (cond (x3 != (0 : Int)) ((true = true) ∧ (post (.t (.c (.v (.bool false)))))) (cond (decide ((((if firstNZ [firstNZ [(Z1).err, (Z2).err], hitsE (listC (Z3.length) mkHit (hitsC Z3))] = 0 then (covR Z1 (listC (Z3.length) mkHit (hitsC Z3)) K Z2).1 else []).length : Nat) : Int) > (700 : Int))) (post (.t (.c (.v (.bool false))))) (lt ((cvR Z1 Z2 Z3 (listC ((if firstNZ [firstNZ [(Z1).err, (Z2).err], hitsE (listC (Z3.length) mkHit (hitsC Z3))] = 0 then (covR Z1 (listC (Z3.length) mkHit (hitsC Z3)) K Z2).1 else []).length) mkBx (bxsC (if firstNZ [firstNZ [(Z1).err, (Z2).err], hitsE (listC (Z3.length) mkHit (hitsC Z3))] = 0 then (covR Z1 (listC (Z3.length) mkHit (hitsC Z3)) K Z2).1 else []))) K).1) fun x13 => lt ((cvR Z1 Z2 Z3 (listC ((if firstNZ [firstNZ [(Z1).err, (Z2).err], hitsE (listC (Z3.length) mkHit (hitsC Z3))] = 0 then (covR Z1 (listC (Z3.length) mkHit (hitsC Z3)) K Z2).1 else []).length) mkBx (bxsC (if firstNZ [firstNZ [(Z1).err, (Z2).err], hitsE (listC (Z3.length) mkHit (hitsC Z3))] = 0 then (covR Z1 (listC (Z3.length) mkHit (hitsC Z3)) K Z2).1 else []))) K).2) fun x14 => (numsP 5 l.length (hitsC l) ∧ numsP 6 ((if firstNZ [firstNZ [(Z1).err, (Z2).err], hitsE (listC (Z3.length) mkHit (hitsC Z3))] = 0 then (covR Z1 (listC (Z3.length) mkHit (hitsC Z3)) K Z2).1 else []).length) (bxsC (if firstNZ [firstNZ [(Z1).err, (Z2).err], hitsE (listC (Z3.length) mkHit (hitsC Z3))] = 0 then (covR Z1 (listC (Z3.length) mkHit (hitsC Z3)) K Z2).1 else [])) ∧ (Z1).err = 0 ∧ (Z2).err = 0 ∧ hitsE Z3 = 0) ∧ (cond (x14 == (0 : Int)) (post (.t (.c (.v (.bool (x13 == (0 : Int))))))) ((false = false) ∧ (post (.t (.c (.v (.bool false))))))))))) ((false = false) ∧ (cond (x3 != (0 : Int)) ((true = true) ∧ (post (.t (.c (.v (.bool false)))))) (cond (decide ((((if firstNZ [firstNZ [(Z1).err, (Z2).err], hitsE (listC (Z3.length) mkHit (hitsC Z3))] = 0 then (covR Z1 (listC (Z3.length) mkHit (hitsC Z3)) K Z2).1 else []).length : Nat) : Int) > (700 : Int))) (post (.t (.c (.v (.bool false))))) (lt ((cvR Z1 Z2 Z3 (listC ((if firstNZ [firstNZ [(Z1).err, (Z2).err], hitsE (listC (Z3.length) mkHit (hitsC Z3))] = 0 then (covR Z1 (listC (Z3.length) mkHit (hitsC Z3)) K Z2).1 else []).length) mkBx (bxsC (if firstNZ [firstNZ [(Z1).err, (Z2).err], hitsE (listC (Z3.length) mkHit (hitsC Z3))] = 0 then (covR Z1 (listC (Z3.length) mkHit (hitsC Z3)) K Z2).1 else []))) K).1) fun x15 => lt ((cvR Z1 Z2 Z3 (listC ((if firstNZ [firstNZ [(Z1).err, (Z2).err], hitsE (listC (Z3.length) mkHit (hitsC Z3))] = 0 then (covR Z1 (listC (Z3.length) mkHit (hitsC Z3)) K Z2).1 else []).length) mkBx (bxsC (if firstNZ [firstNZ [(Z1).err, (Z2).err], hitsE (listC (Z3.length) mkHit (hitsC Z3))] = 0 then (covR Z1 (listC (Z3.length) mkHit (hitsC Z3)) K Z2).1 else []))) K).2) fun x16 => (numsP 5 l.length (hitsC l) ∧ numsP 6 ((if firstNZ [firstNZ [(Z1).err, (Z2).err], hitsE (listC (Z3.length) mkHit (hitsC Z3))] = 0 then (covR Z1 (listC (Z3.length) mkHit (hitsC Z3)) K Z2).1 else []).length) (bxsC (if firstNZ [firstNZ [(Z1).err, (Z2).err], hitsE (listC (Z3.length) mkHit (hitsC Z3))] = 0 then (covR Z1 (listC (Z3.length) mkHit (hitsC Z3)) K Z2).1 else [])) ∧ (Z1).err = 0 ∧ (Z2).err = 0 ∧ hitsE Z3 = 0) ∧ (cond (x16 == (0 : Int)) (post (.t (.c (.v (.bool (x15 == (0 : Int))))))) ((false = false) ∧ (post (.t (.c (.v (.bool false)))))))))))))))))) (cond (x4 != (0 : Int)) (cond (x2 == x4) (cond (x1 == (0 : Int)) (cond (x3 == x4) (post (.t (.c (.v (.bool ((((if firstNZ [firstNZ [(Z1).err, (Z2).err], hitsE (listC (Z3.length) mkHit (hitsC Z3))] = 0 then (covR Z1 (listC (Z3.length) mkHit (hitsC Z3)) K Z2).1 else []).length : Nat) : Int) == (0 : Int))))))) ((false = false) ∧ (post (.t (.c (.v (.bool false))))))) ((false = false) ∧ ((false = false) ∧ (post (.t (.c (.v (.bool false)))))))) ((false = false) ∧ ((false = false) ∧ ((false = false) ∧ (post (.t (.c (.v (.bool false))))))))) (lt ((cvR Z1 Z2 Z3 Z4 K).1) fun x17 => lt ((cvR Z1 Z2 Z3 Z4 K).2) fun x18 => (numsP 5 l.length (hitsC l) ∧ numsP 6 c.length (bxsC c) ∧ (Z1).err = 0 ∧ (Z2).err = 0 ∧ hitsE Z3 = 0) ∧ (cond (x2 != x18) ((true = true) ∧ (post (.t (.c (.v (.bool false)))))) (cond (x1 != x17) (post (.t (.c (.v (.bool false))))) (lt ((bestV Z1 Z2 Z3).x) fun x19 => lt ((bestV Z1 Z2 Z3).y) fun x20 => lt ((bestV Z1 Z2 Z3).z) fun x21 => lt (bestS Z1 Z2 Z3) fun x22 => lt (decide ((Z1).steps Z2 ≠ [])) fun x23 => (numsP 5 l.length (hitsC l) ∧ (Z1).err = 0 ∧ (Z2).err = 0 ∧ hitsE Z3 = 0) ∧ (cond x23 (cond (decide (x22 < K)) (cond (x3 == (12 : Int)) (post (.t (.c (.v (.bool ((((if firstNZ [firstNZ [(Z1).err, (Z2).err], hitsE (listC (Z3.length) mkHit (hitsC Z3))] = 0 then (covR Z1 (listC (Z3.length) mkHit (hitsC Z3)) K Z2).1 else []).length : Nat) : Int) == (0 : Int))))))) ((false = false) ∧ (post (.t (.c (.v (.bool false))))))) (cond (x3 != (0 : Int)) ((true = true) ∧ (post (.t (.c (.v (.bool false)))))) (cond (decide ((((if firstNZ [firstNZ [(Z1).err, (Z2).err], hitsE (listC (Z3.length) mkHit (hitsC Z3))] = 0 then (covR Z1 (listC (Z3.length) mkHit (hitsC Z3)) K Z2).1 else []).length : Nat) : Int) > (700 : Int))) (post (.t (.c (.v (.bool false))))) (lt ((cvR Z1 Z2 Z3 (listC ((if firstNZ [firstNZ [(Z1).err, (Z2).err], hitsE (listC (Z3.length) mkHit (hitsC Z3))] = 0 then (covR Z1 (listC (Z3.length) mkHit (hitsC Z3)) K Z2).1 else []).length) mkBx (bxsC (if firstNZ [firstNZ [(Z1).err, (Z2).err], hitsE (listC (Z3.length) mkHit (hitsC Z3))] = 0 then (covR Z1 (listC (Z3.length) mkHit (hitsC Z3)) K Z2).1 else []))) K).1) fun x24 => lt ((cvR Z1 Z2 Z3 (listC ((if firstNZ [firstNZ [(Z1).err, (Z2).err], hitsE (listC (Z3.length) mkHit (hitsC Z3))] = 0 then (covR Z1 (listC (Z3.length) mkHit (hitsC Z3)) K Z2).1 else []).length) mkBx (bxsC (if firstNZ [firstNZ [(Z1).err, (Z2).err], hitsE (listC (Z3.length) mkHit (hitsC Z3))] = 0 then (covR Z1 (listC (Z3.length) mkHit (hitsC Z3)) K Z2).1 else []))) K).2) fun x25 => (numsP 5 l.length (hitsC l) ∧ numsP 6 ((if firstNZ [firstNZ [(Z1).err, (Z2).err], hitsE (listC (Z3.length) mkHit (hitsC Z3))] = 0 then (covR Z1 (listC (Z3.length) mkHit (hitsC Z3)) K Z2).1 else []).length) (bxsC (if firstNZ [firstNZ [(Z1).err, (Z2).err], hitsE (listC (Z3.length) mkHit (hitsC Z3))] = 0 then (covR Z1 (listC (Z3.length) mkHit (hitsC Z3)) K Z2).1 else [])) ∧ (Z1).err = 0 ∧ (Z2).err = 0 ∧ hitsE Z3 = 0) ∧ (cond (x25 == (0 : Int)) (post (.t (.c (.v (.bool (x24 == (0 : Int))))))) ((false = false) ∧ (post (.t (.c (.v (.bool false))))))))))) ((false = false) ∧ (cond (x3 != (0 : Int)) ((true = true) ∧ (post (.t (.c (.v (.bool false)))))) (cond (decide ((((if firstNZ [firstNZ [(Z1).err, (Z2).err], hitsE (listC (Z3.length) mkHit (hitsC Z3))] = 0 then (covR Z1 (listC (Z3.length) mkHit (hitsC Z3)) K Z2).1 else []).length : Nat) : Int) > (700 : Int))) (post (.t (.c (.v (.bool false))))) (lt ((cvR Z1 Z2 Z3 (listC ((if firstNZ [firstNZ [(Z1).err, (Z2).err], hitsE (listC (Z3.length) mkHit (hitsC Z3))] = 0 then (covR Z1 (listC (Z3.length) mkHit (hitsC Z3)) K Z2).1 else []).length) mkBx (bxsC (if firstNZ [firstNZ [(Z1).err, (Z2).err], hitsE (listC (Z3.length) mkHit (hitsC Z3))] = 0 then (covR Z1 (listC (Z3.length) mkHit (hitsC Z3)) K Z2).1 else []))) K).1) fun x26 => lt ((cvR Z1 Z2 Z3 (listC ((if firstNZ [firstNZ [(Z1).err, (Z2).err], hitsE (listC (Z3.length) mkHit (hitsC Z3))] = 0 then (covR Z1 (listC (Z3.length) mkHit (hitsC Z3)) K Z2).1 else []).length) mkBx (bxsC (if firstNZ [firstNZ [(Z1).err, (Z2).err], hitsE (listC (Z3.length) mkHit (hitsC Z3))] = 0 then (covR Z1 (listC (Z3.length) mkHit (hitsC Z3)) K Z2).1 else []))) K).2) fun x27 => (numsP 5 l.length (hitsC l) ∧ numsP 6 ((if firstNZ [firstNZ [(Z1).err, (Z2).err], hitsE (listC (Z3.length) mkHit (hitsC Z3))] = 0 then (covR Z1 (listC (Z3.length) mkHit (hitsC Z3)) K Z2).1 else []).length) (bxsC (if firstNZ [firstNZ [(Z1).err, (Z2).err], hitsE (listC (Z3.length) mkHit (hitsC Z3))] = 0 then (covR Z1 (listC (Z3.length) mkHit (hitsC Z3)) K Z2).1 else [])) ∧ (Z1).err = 0 ∧ (Z2).err = 0 ∧ hitsE Z3 = 0) ∧ (cond (x27 == (0 : Int)) (post (.t (.c (.v (.bool (x26 == (0 : Int))))))) ((false = false) ∧ (post (.t (.c (.v (.bool false))))))))))))))))))))))))) ((false = false) ∧ (cond (decide (((c.length : Nat) : Int) > (702 : Int))) (post (.t (.c (.v (.bool true))))) ((numsP 5 l.length (hitsC l) ∧ (Z3).length ≤ 1000000) ∧ ((numsP 6 c.length (bxsC c) ∧ (Z4).length ≤ 1000000) ∧ (lt ((cvR Z1 Z2 (listC (Z3.length) mkHit (hitsC Z3)) (listC (Z4.length) mkBx (bxsC Z4)) K).1) fun x28 => lt ((cvR Z1 Z2 (listC (Z3.length) mkHit (hitsC Z3)) (listC (Z4.length) mkBx (bxsC Z4)) K).2) fun x29 => (numsP 5 (Z3.length) (hitsC Z3) ∧ numsP 6 (Z4.length) (bxsC Z4)) ∧ ((numsP 5 l.length (hitsC l) ∧ (Z3).length ≤ 1000000) ∧ (lt (if firstNZ [firstNZ [(Z1).err, (Z2).err], hitsE (listC (Z3.length) mkHit (hitsC Z3))] = 0 then unl (covR Z1 (listC (Z3.length) mkHit (hitsC Z3)) K Z2).2 12 else firstNZ [firstNZ [(Z1).err, (Z2).err], hitsE (listC (Z3.length) mkHit (hitsC Z3))]) fun x30 => (numsP 5 (Z3.length) (hitsC Z3)) ∧ (lt ((Z1).err) fun x31 => cond (x31 == (0 : Int)) (lt (firstNZ [(Z2).err, hitsE Z3]) fun x32 => (numsP 5 l.length (hitsC l)) ∧ (cond (x32 != (0 : Int)) (cond (x29 == x32) (cond (x28 == (0 : Int)) (cond (x30 == x32) (post (.t (.c (.v (.bool ((((if firstNZ [firstNZ [(Z1).err, (Z2).err], hitsE (listC (Z3.length) mkHit (hitsC Z3))] = 0 then (covR Z1 (listC (Z3.length) mkHit (hitsC Z3)) K Z2).1 else []).length : Nat) : Int) == (0 : Int))))))) ((false = false) ∧ (post (.t (.c (.v (.bool false))))))) ((false = false) ∧ ((false = false) ∧ (post (.t (.c (.v (.bool false)))))))) ((false = false) ∧ ((false = false) ∧ ((false = false) ∧ (post (.t (.c (.v (.bool false))))))))) (lt ((cvR Z1 Z2 Z3 Z4 K).1) fun x33 => lt ((cvR Z1 Z2 Z3 Z4 K).2) fun x34 => (numsP 5 l.length (hitsC l) ∧ numsP 6 c.length (bxsC c) ∧ (Z1).err = 0 ∧ (Z2).err = 0 ∧ hitsE Z3 = 0) ∧ (cond (x29 != x34) ((true = true) ∧ (post (.t (.c (.v (.bool false)))))) (cond (x28 != x33) (post (.t (.c (.v (.bool false))))) (lt ((bestV Z1 Z2 Z3).x) fun x35 => lt ((bestV Z1 Z2 Z3).y) fun x36 => lt ((bestV Z1 Z2 Z3).z) fun x37 => lt (bestS Z1 Z2 Z3) fun x38 => lt (decide ((Z1).steps Z2 ≠ [])) fun x39 => (numsP 5 l.length (hitsC l) ∧ (Z1).err = 0 ∧ (Z2).err = 0 ∧ hitsE Z3 = 0) ∧ (cond x39 (cond (decide (x38 < K)) (cond (x30 == (12 : Int)) (post (.t (.c (.v (.bool ((((if firstNZ [firstNZ [(Z1).err, (Z2).err], hitsE (listC (Z3.length) mkHit (hitsC Z3))] = 0 then (covR Z1 (listC (Z3.length) mkHit (hitsC Z3)) K Z2).1 else []).length : Nat) : Int) == (0 : Int))))))) ((false = false) ∧ (post (.t (.c (.v (.bool false))))))) (cond (x30 != (0 : Int)) ((true = true) ∧ (post (.t (.c (.v (.bool false)))))) (cond (decide ((((if firstNZ [firstNZ [(Z1).err, (Z2).err], hitsE (listC (Z3.length) mkHit (hitsC Z3))] = 0 then (covR Z1 (listC (Z3.length) mkHit (hitsC Z3)) K Z2).1 else []).length : Nat) : Int) > (700 : Int))) (post (.t (.c (.v (.bool false))))) (lt ((cvR Z1 Z2 Z3 (listC ((if firstNZ [firstNZ [(Z1).err, (Z2).err], hitsE (listC (Z3.length) mkHit (hitsC Z3))] = 0 then (covR Z1 (listC (Z3.length) mkHit (hitsC Z3)) K Z2).1 else []).length) mkBx (bxsC (if firstNZ [firstNZ [(Z1).err, (Z2).err], hitsE (listC (Z3.length) mkHit (hitsC Z3))] = 0 then (covR Z1 (listC (Z3.length) mkHit (hitsC Z3)) K Z2).1 else []))) K).1) fun x40 => lt ((cvR Z1 Z2 Z3 (listC ((if firstNZ [firstNZ [(Z1).err, (Z2).err], hitsE (listC (Z3.length) mkHit (hitsC Z3))] = 0 then (covR Z1 (listC (Z3.length) mkHit (hitsC Z3)) K Z2).1 else []).length) mkBx (bxsC (if firstNZ [firstNZ [(Z1).err, (Z2).err], hitsE (listC (Z3.length) mkHit (hitsC Z3))] = 0 then (covR Z1 (listC (Z3.length) mkHit (hitsC Z3)) K Z2).1 else []))) K).2) fun x41 => (numsP 5 l.length (hitsC l) ∧ numsP 6 ((if firstNZ [firstNZ [(Z1).err, (Z2).err], hitsE (listC (Z3.length) mkHit (hitsC Z3))] = 0 then (covR Z1 (listC (Z3.length) mkHit (hitsC Z3)) K Z2).1 else []).length) (bxsC (if firstNZ [firstNZ [(Z1).err, (Z2).err], hitsE (listC (Z3.length) mkHit (hitsC Z3))] = 0 then (covR Z1 (listC (Z3.length) mkHit (hitsC Z3)) K Z2).1 else [])) ∧ (Z1).err = 0 ∧ (Z2).err = 0 ∧ hitsE Z3 = 0) ∧ (cond (x41 == (0 : Int)) (post (.t (.c (.v (.bool (x40 == (0 : Int))))))) ((false = false) ∧ (post (.t (.c (.v (.bool false))))))))))) ((false = false) ∧ (cond (x30 != (0 : Int)) ((true = true) ∧ (post (.t (.c (.v (.bool false)))))) (cond (decide ((((if firstNZ [firstNZ [(Z1).err, (Z2).err], hitsE (listC (Z3.length) mkHit (hitsC Z3))] = 0 then (covR Z1 (listC (Z3.length) mkHit (hitsC Z3)) K Z2).1 else []).length : Nat) : Int) > (700 : Int))) (post (.t (.c (.v (.bool false))))) (lt ((cvR Z1 Z2 Z3 (listC ((if firstNZ [firstNZ [(Z1).err, (Z2).err], hitsE (listC (Z3.length) mkHit (hitsC Z3))] = 0 then (covR Z1 (listC (Z3.length) mkHit (hitsC Z3)) K Z2).1 else []).length) mkBx (bxsC (if firstNZ [firstNZ [(Z1).err, (Z2).err], hitsE (listC (Z3.length) mkHit (hitsC Z3))] = 0 then (covR Z1 (listC (Z3.length) mkHit (hitsC Z3)) K Z2).1 else []))) K).1) fun x42 => lt ((cvR Z1 Z2 Z3 (listC ((if firstNZ [firstNZ [(Z1).err, (Z2).err], hitsE (listC (Z3.length) mkHit (hitsC Z3))] = 0 then (covR Z1 (listC (Z3.length) mkHit (hitsC Z3)) K Z2).1 else []).length) mkBx (bxsC (if firstNZ [firstNZ [(Z1).err, (Z2).err], hitsE (listC (Z3.length) mkHit (hitsC Z3))] = 0 then (covR Z1 (listC (Z3.length) mkHit (hitsC Z3)) K Z2).1 else []))) K).2) fun x43 => (numsP 5 l.length (hitsC l) ∧ numsP 6 ((if firstNZ [firstNZ [(Z1).err, (Z2).err], hitsE (listC (Z3.length) mkHit (hitsC Z3))] = 0 then (covR Z1 (listC (Z3.length) mkHit (hitsC Z3)) K Z2).1 else []).length) (bxsC (if firstNZ [firstNZ [(Z1).err, (Z2).err], hitsE (listC (Z3.length) mkHit (hitsC Z3))] = 0 then (covR Z1 (listC (Z3.length) mkHit (hitsC Z3)) K Z2).1 else [])) ∧ (Z1).err = 0 ∧ (Z2).err = 0 ∧ hitsE Z3 = 0) ∧ (cond (x43 == (0 : Int)) (post (.t (.c (.v (.bool (x42 == (0 : Int))))))) ((false = false) ∧ (post (.t (.c (.v (.bool false)))))))))))))))))) (cond (x31 != (0 : Int)) (cond (x29 == x31) (cond (x28 == (0 : Int)) (cond (x30 == x31) (post (.t (.c (.v (.bool ((((if firstNZ [firstNZ [(Z1).err, (Z2).err], hitsE (listC (Z3.length) mkHit (hitsC Z3))] = 0 then (covR Z1 (listC (Z3.length) mkHit (hitsC Z3)) K Z2).1 else []).length : Nat) : Int) == (0 : Int))))))) ((false = false) ∧ (post (.t (.c (.v (.bool false))))))) ((false = false) ∧ ((false = false) ∧ (post (.t (.c (.v (.bool false)))))))) ((false = false) ∧ ((false = false) ∧ ((false = false) ∧ (post (.t (.c (.v (.bool false))))))))) (lt ((cvR Z1 Z2 Z3 Z4 K).1) fun x44 => lt ((cvR Z1 Z2 Z3 Z4 K).2) fun x45 => (numsP 5 l.length (hitsC l) ∧ numsP 6 c.length (bxsC c) ∧ (Z1).err = 0 ∧ (Z2).err = 0 ∧ hitsE Z3 = 0) ∧ (cond (x29 != x45) ((true = true) ∧ (post (.t (.c (.v (.bool false)))))) (cond (x28 != x44) (post (.t (.c (.v (.bool false))))) (lt ((bestV Z1 Z2 Z3).x) fun x46 => lt ((bestV Z1 Z2 Z3).y) fun x47 => lt ((bestV Z1 Z2 Z3).z) fun x48 => lt (bestS Z1 Z2 Z3) fun x49 => lt (decide ((Z1).steps Z2 ≠ [])) fun x50 => (numsP 5 l.length (hitsC l) ∧ (Z1).err = 0 ∧ (Z2).err = 0 ∧ hitsE Z3 = 0) ∧ (cond x50 (cond (decide (x49 < K)) (cond (x30 == (12 : Int)) (post (.t (.c (.v (.bool ((((if firstNZ [firstNZ [(Z1).err, (Z2).err], hitsE (listC (Z3.length) mkHit (hitsC Z3))] = 0 then (covR Z1 (listC (Z3.length) mkHit (hitsC Z3)) K Z2).1 else []).length : Nat) : Int) == (0 : Int))))))) ((false = false) ∧ (post (.t (.c (.v (.bool false))))))) (cond (x30 != (0 : Int)) ((true = true) ∧ (post (.t (.c (.v (.bool false)))))) (cond (decide ((((if firstNZ [firstNZ [(Z1).err, (Z2).err], hitsE (listC (Z3.length) mkHit (hitsC Z3))] = 0 then (covR Z1 (listC (Z3.length) mkHit (hitsC Z3)) K Z2).1 else []).length : Nat) : Int) > (700 : Int))) (post (.t (.c (.v (.bool false))))) (lt ((cvR Z1 Z2 Z3 (listC ((if firstNZ [firstNZ [(Z1).err, (Z2).err], hitsE (listC (Z3.length) mkHit (hitsC Z3))] = 0 then (covR Z1 (listC (Z3.length) mkHit (hitsC Z3)) K Z2).1 else []).length) mkBx (bxsC (if firstNZ [firstNZ [(Z1).err, (Z2).err], hitsE (listC (Z3.length) mkHit (hitsC Z3))] = 0 then (covR Z1 (listC (Z3.length) mkHit (hitsC Z3)) K Z2).1 else []))) K).1) fun x51 => lt ((cvR Z1 Z2 Z3 (listC ((if firstNZ [firstNZ [(Z1).err, (Z2).err], hitsE (listC (Z3.length) mkHit (hitsC Z3))] = 0 then (covR Z1 (listC (Z3.length) mkHit (hitsC Z3)) K Z2).1 else []).length) mkBx (bxsC (if firstNZ [firstNZ [(Z1).err, (Z2).err], hitsE (listC (Z3.length) mkHit (hitsC Z3))] = 0 then (covR Z1 (listC (Z3.length) mkHit (hitsC Z3)) K Z2).1 else []))) K).2) fun x52 => (numsP 5 l.length (hitsC l) ∧ numsP 6 ((if firstNZ [firstNZ [(Z1).err, (Z2).err], hitsE (listC (Z3.length) mkHit (hitsC Z3))] = 0 then (covR Z1 (listC (Z3.length) mkHit (hitsC Z3)) K Z2).1 else []).length) (bxsC (if firstNZ [firstNZ [(Z1).err, (Z2).err], hitsE (listC (Z3.length) mkHit (hitsC Z3))] = 0 then (covR Z1 (listC (Z3.length) mkHit (hitsC Z3)) K Z2).1 else [])) ∧ (Z1).err = 0 ∧ (Z2).err = 0 ∧ hitsE Z3 = 0) ∧ (cond (x52 == (0 : Int)) (post (.t (.c (.v (.bool (x51 == (0 : Int))))))) ((false = false) ∧ (post (.t (.c (.v (.bool false))))))))))) ((false = false) ∧ (cond (x30 != (0 : Int)) ((true = true) ∧ (post (.t (.c (.v (.bool false)))))) (cond (decide ((((if firstNZ [firstNZ [(Z1).err, (Z2).err], hitsE (listC (Z3.length) mkHit (hitsC Z3))] = 0 then (covR Z1 (listC (Z3.length) mkHit (hitsC Z3)) K Z2).1 else []).length : Nat) : Int) > (700 : Int))) (post (.t (.c (.v (.bool false))))) (lt ((cvR Z1 Z2 Z3 (listC ((if firstNZ [firstNZ [(Z1).err, (Z2).err], hitsE (listC (Z3.length) mkHit (hitsC Z3))] = 0 then (covR Z1 (listC (Z3.length) mkHit (hitsC Z3)) K Z2).1 else []).length) mkBx (bxsC (if firstNZ [firstNZ [(Z1).err, (Z2).err], hitsE (listC (Z3.length) mkHit (hitsC Z3))] = 0 then (covR Z1 (listC (Z3.length) mkHit (hitsC Z3)) K Z2).1 else []))) K).1) fun x53 => lt ((cvR Z1 Z2 Z3 (listC ((if firstNZ [firstNZ [(Z1).err, (Z2).err], hitsE (listC (Z3.length) mkHit (hitsC Z3))] = 0 then (covR Z1 (listC (Z3.length) mkHit (hitsC Z3)) K Z2).1 else []).length) mkBx (bxsC (if firstNZ [firstNZ [(Z1).err, (Z2).err], hitsE (listC (Z3.length) mkHit (hitsC Z3))] = 0 then (covR Z1 (listC (Z3.length) mkHit (hitsC Z3)) K Z2).1 else []))) K).2) fun x54 => (numsP 5 l.length (hitsC l) ∧ numsP 6 ((if firstNZ [firstNZ [(Z1).err, (Z2).err], hitsE (listC (Z3.length) mkHit (hitsC Z3))] = 0 then (covR Z1 (listC (Z3.length) mkHit (hitsC Z3)) K Z2).1 else []).length) (bxsC (if firstNZ [firstNZ [(Z1).err, (Z2).err], hitsE (listC (Z3.length) mkHit (hitsC Z3))] = 0 then (covR Z1 (listC (Z3.length) mkHit (hitsC Z3)) K Z2).1 else [])) ∧ (Z1).err = 0 ∧ (Z2).err = 0 ∧ hitsE Z3 = 0) ∧ (cond (x54 == (0 : Int)) (post (.t (.c (.v (.bool (x53 == (0 : Int))))))) ((false = false) ∧ (post (.t (.c (.v (.bool false))))))))))))))))))))))))))))) (⟨m0, m1, m2, m3, m4, m5, m6, m7, m8, m9, m10, m11⟩ : TMod) (⟨⟨b0, b1, b2⟩, ⟨b3, b4, b5⟩⟩ : TBox) (listC l.length mkHit (hitsC l)) (listC c.length mkBx (bxsC c))
def ann_law05_TrackCovers : Ann := ⟨fun r => lookA r [(5, ([[], [], [1], [], [1, 2, 3], [0, 1, 2, 3, 4], [0, 1, 2, 3, 4, 5], [0, 1, 2, 3, 4, 5, 6], [0, 1, 2, 3, 4, 5, 6], [0, 1, 2, 3, 4, 5, 6, 7], [0, 1, 2, 3, 4, 5, 6, 7, 8, 9]], [[52, 54, 55], [52, 54, 55], [54, 55], [52, 54, 55], [55], [], [], [], [], [], []])), (6, ([[], [], [1], [], [3], [0, 1, 2, 3, 4], [0, 1, 2, 3, 4, 5], [0, 1, 2, 3, 4, 5, 6], [0, 1, 2, 3, 4, 5, 6], [0, 1, 2, 3, 4, 5, 6, 7], [0, 1, 2, 3, 4, 5, 6, 7, 8, 9]], [[61, 64], [61, 64], [64], [61, 64], [61, 64], [], [], [], [], [], []]))], fun _ => none, fun _ => [], I49, false, fun _ => none, fun _ => none⟩
theorem ev_law05_TrackCovers (J : Inv) (m0 m1 m2 m3 m4 m5 m6 m7 m8 m9 m10 m11 : Int) (b0 b1 b2 b3 b4 b5 : Int) (l : List THit) (c : List TBox) (K : Int) (post : DV → Prop) : evFn Try.prog tab S79 ann_law05_TrackCovers J Try.f10 [.t (.a [.v (.int .i64 m0), .v (.int .i64 m1), .v (.int .i64 m2), .v (.int .i64 m3), .v (.int .i64 m4), .v (.int .i64 m5), .v (.int .i64 m6), .v (.int .i64 m7), .v (.int .i64 m8), .v (.int .i64 m9), .v (.int .i64 m10), .v (.int .i64 m11)]), .t (.a [.v (.int .i64 b0), .v (.int .i64 b1), .v (.int .i64 b2), .v (.int .i64 b3), .v (.int .i64 b4), .v (.int .i64 b5), .sl 5 l.length (hitsC l)]), .t (.a [.sl 6 c.length (bxsC c), .v (.int .i64 K)])] post = vc_law05_TrackCovers m0 m1 m2 m3 m4 m5 m6 m7 m8 m9 m10 m11 b0 b1 b2 b3 b4 b5 l c K post := by kernel_rfl
theorem fit_law05_TrackCovers : okFn ann_law05_TrackCovers Try.f10 = true := by kernel_rfl
theorem lp_law05_TrackCovers (J : Inv) (post : DV → Prop) : AllG J (loopsFn Try.prog tab S79 ann_law05_TrackCovers J Try.f10 post) = (True) := by kernel_rfl
set_option maxHeartbeats 8000000 in
set_option maxRecDepth 100000 in
theorem spec_law05_TrackCovers (m0 m1 m2 m3 m4 m5 m6 m7 m8 m9 m10 m11 : Int) (b0 b1 b2 b3 b4 b5 : Int) (l : List THit) (c : List TBox) (K : Int) : vc_law05_TrackCovers m0 m1 m2 m3 m4 m5 m6 m7 m8 m9 m10 m11 b0 b1 b2 b3 b4 b5 l c K (fun r => LeD r (.t (.c (.v (.bool true))))) := by
 have hcv : ∀ e, e ≠ 0 → firstNZ [firstNZ [(⟨m0, m1, m2, m3, m4, m5, m6, m7, m8, m9, m10, m11⟩ : TMod).err, (⟨⟨b0, b1, b2⟩, ⟨b3, b4, b5⟩⟩ : TBox).err], hitsE l] = e → cvR (⟨m0, m1, m2, m3, m4, m5, m6, m7, m8, m9, m10, m11⟩ : TMod) (⟨⟨b0, b1, b2⟩, ⟨b3, b4, b5⟩⟩ : TBox) l c K = (0, e) := by
  intro e he h
  have e0 : cvE0 (⟨m0, m1, m2, m3, m4, m5, m6, m7, m8, m9, m10, m11⟩ : TMod) (⟨⟨b0, b1, b2⟩, ⟨b3, b4, b5⟩⟩ : TBox) l c = e := by unfold cvE0; rw [h]; exact firstNZ_hd he
  unfold cvR
  rw [e0, if_pos he]
 unfold vc_law05_TrackCovers
 simp only [hits_listC, bxs_listC, lt]
 refine ⟨numsP_hits l, cond_i (fun _ => ⟨trivial, trivial, trivial, LeD.refl _⟩) (fun e1 => cond_i (fun _ => ⟨trivial, trivial, LeD.refl _⟩) (fun e2 => cond_i (fun e3 => cond_i (fun _ => ⟨trivial, LeD.refl _⟩) (fun e4 => cond_i (fun _ => LeD.refl _) (fun e5 => ?_))) (fun e3 => ?_)))⟩
 ·have e1 : l.length ≤ 14 := by simpa using e1
  have e5 := of_decide_eq_false e5
  have g1 : numsP 5 l.length (hitsC l) ∧ l.length ≤ 1000000 := ⟨numsP_hits l, by omega⟩
  have g2 : numsP 6 c.length (bxsC c) ∧ c.length ≤ 1000000 := ⟨numsP_bxs c, by omega⟩
  clear e1 e2 e3 e4 e5
  have g3 := g1.1
  have g4 := g2.1
  by_cases hE : firstNZ [firstNZ [(⟨m0, m1, m2, m3, m4, m5, m6, m7, m8, m9, m10, m11⟩ : TMod).err, (⟨⟨b0, b1, b2⟩, ⟨b3, b4, b5⟩⟩ : TBox).err], hitsE l] = 0
  ·obtain ⟨q1, hh⟩ := fn2 hE
   obtain ⟨hm, hb⟩ := fn2 q1
   have hci := cover_iff (K := K) hm hb hh
   have hle := covR_len (K := K) hm hb hh
   obtain ⟨s1, s2⟩ := covR_spec (K := K) hm hh (⟨⟨b0, b1, b2⟩, ⟨b3, b4, b5⟩⟩ : TBox).count.toNat (⟨⟨b0, b1, b2⟩, ⟨b3, b4, b5⟩⟩ : TBox) hb (by have := err_cnt hb; omega)
   have e0 : firstNZ [(0 : Int), 0] = 0 := rfl
   cases hc : (covR (⟨m0, m1, m2, m3, m4, m5, m6, m7, m8, m9, m10, m11⟩ : TMod) l K (⟨⟨b0, b1, b2⟩, ⟨b3, b4, b5⟩⟩ : TBox)).2 with
   | false =>
    obtain ⟨h1, h2⟩ := hci.1 hc
    have h3 := (s2 hc).1
    simp [hm, hb, hh, hE, e0, g1, g2, hc, h1, h2, h3, unl, LeD.refl, g3, g4]
   | true =>
    have h3 := cover_acc hm hb hh (s1 hc)
    have h1 : ¬ ((⟨m0, m1, m2, m3, m4, m5, m6, m7, m8, m9, m10, m11⟩ : TMod).steps (⟨⟨b0, b1, b2⟩, ⟨b3, b4, b5⟩⟩ : TBox) ≠ [] ∧ bestS (⟨m0, m1, m2, m3, m4, m5, m6, m7, m8, m9, m10, m11⟩ : TMod) (⟨⟨b0, b1, b2⟩, ⟨b3, b4, b5⟩⟩ : TBox) l < K) := fun q => by rw [hci.2 q] at hc; cases hc
    have hn : ¬ ((covR (⟨m0, m1, m2, m3, m4, m5, m6, m7, m8, m9, m10, m11⟩ : TMod) l K (⟨⟨b0, b1, b2⟩, ⟨b3, b4, b5⟩⟩ : TBox)).1.length : Int) > 700 := by omega
    have hn2 : ¬ (700 < (covR (⟨m0, m1, m2, m3, m4, m5, m6, m7, m8, m9, m10, m11⟩ : TMod) l K (⟨⟨b0, b1, b2⟩, ⟨b3, b4, b5⟩⟩ : TBox)).1.length) := by omega
    by_cases h4 : (⟨m0, m1, m2, m3, m4, m5, m6, m7, m8, m9, m10, m11⟩ : TMod).steps (⟨⟨b0, b1, b2⟩, ⟨b3, b4, b5⟩⟩ : TBox) = []
    ·simp [hm, hb, hh, hE, e0, g1, g2, hc, h3, h4, hn, hn2, unl, LeD.refl, g3, g4, numsP_bxs]
    ·have h5 : ¬ bestS (⟨m0, m1, m2, m3, m4, m5, m6, m7, m8, m9, m10, m11⟩ : TMod) (⟨⟨b0, b1, b2⟩, ⟨b3, b4, b5⟩⟩ : TBox) l < K := fun q => h1 ⟨h4, q⟩
     simp [hm, hb, hh, hE, e0, g1, g2, hc, h3, h4, h5, hn, hn2, unl, LeD.refl, g3, g4, numsP_bxs]
  ·have h1 := hcv _ hE rfl
   by_cases hm : (⟨m0, m1, m2, m3, m4, m5, m6, m7, m8, m9, m10, m11⟩ : TMod).err = 0
   ·have h2 : firstNZ [(⟨⟨b0, b1, b2⟩, ⟨b3, b4, b5⟩⟩ : TBox).err, hitsE l] = firstNZ [firstNZ [(⟨m0, m1, m2, m3, m4, m5, m6, m7, m8, m9, m10, m11⟩ : TMod).err, (⟨⟨b0, b1, b2⟩, ⟨b3, b4, b5⟩⟩ : TBox).err], hitsE l] := by
     rw [hm]; simp only [firstNZ]; by_cases hb : (⟨⟨b0, b1, b2⟩, ⟨b3, b4, b5⟩⟩ : TBox).err = 0 <;> simp [hb]
    rw [← h2] at hE h1
    rw [hm] at h2
    simp [hm, h1, hE, h2.symm, g1, g2, g3, g4, LeD.refl]
   ·have h2 : firstNZ [firstNZ [(⟨m0, m1, m2, m3, m4, m5, m6, m7, m8, m9, m10, m11⟩ : TMod).err, (⟨⟨b0, b1, b2⟩, ⟨b3, b4, b5⟩⟩ : TBox).err], hitsE l] = (⟨m0, m1, m2, m3, m4, m5, m6, m7, m8, m9, m10, m11⟩ : TMod).err := by
     simp only [firstNZ]; simp [hm]
    rw [h2] at h1
    simp [hm, h1, h2, g1, g2, g3, g4, LeD.refl]
 ·have e1 : l.length ≤ 14 := by simpa using e1
  have e3 := of_decide_eq_false e3
  refine ⟨trivial, cond_i (fun _ => LeD.refl _) (fun e5 => ?_)⟩
  have g1 : numsP 5 l.length (hitsC l) ∧ l.length ≤ 1000000 := ⟨numsP_hits l, by omega⟩
  have g2 : numsP 6 c.length (bxsC c) ∧ c.length ≤ 1000000 := ⟨numsP_bxs c, by omega⟩
  clear e1 e2 e3 e5
  have g3 := g1.1
  have g4 := g2.1
  by_cases hE : firstNZ [firstNZ [(⟨m0, m1, m2, m3, m4, m5, m6, m7, m8, m9, m10, m11⟩ : TMod).err, (⟨⟨b0, b1, b2⟩, ⟨b3, b4, b5⟩⟩ : TBox).err], hitsE l] = 0
  ·obtain ⟨q1, hh⟩ := fn2 hE
   obtain ⟨hm, hb⟩ := fn2 q1
   have hci := cover_iff (K := K) hm hb hh
   have hle := covR_len (K := K) hm hb hh
   obtain ⟨s1, s2⟩ := covR_spec (K := K) hm hh (⟨⟨b0, b1, b2⟩, ⟨b3, b4, b5⟩⟩ : TBox).count.toNat (⟨⟨b0, b1, b2⟩, ⟨b3, b4, b5⟩⟩ : TBox) hb (by have := err_cnt hb; omega)
   have e0 : firstNZ [(0 : Int), 0] = 0 := rfl
   cases hc : (covR (⟨m0, m1, m2, m3, m4, m5, m6, m7, m8, m9, m10, m11⟩ : TMod) l K (⟨⟨b0, b1, b2⟩, ⟨b3, b4, b5⟩⟩ : TBox)).2 with
   | false =>
    obtain ⟨h1, h2⟩ := hci.1 hc
    have h3 := (s2 hc).1
    simp [hm, hb, hh, hE, e0, g1, g2, hc, h1, h2, h3, unl, LeD.refl, g3, g4]
   | true =>
    have h3 := cover_acc hm hb hh (s1 hc)
    have h1 : ¬ ((⟨m0, m1, m2, m3, m4, m5, m6, m7, m8, m9, m10, m11⟩ : TMod).steps (⟨⟨b0, b1, b2⟩, ⟨b3, b4, b5⟩⟩ : TBox) ≠ [] ∧ bestS (⟨m0, m1, m2, m3, m4, m5, m6, m7, m8, m9, m10, m11⟩ : TMod) (⟨⟨b0, b1, b2⟩, ⟨b3, b4, b5⟩⟩ : TBox) l < K) := fun q => by rw [hci.2 q] at hc; cases hc
    have hn : ¬ ((covR (⟨m0, m1, m2, m3, m4, m5, m6, m7, m8, m9, m10, m11⟩ : TMod) l K (⟨⟨b0, b1, b2⟩, ⟨b3, b4, b5⟩⟩ : TBox)).1.length : Int) > 700 := by omega
    have hn2 : ¬ (700 < (covR (⟨m0, m1, m2, m3, m4, m5, m6, m7, m8, m9, m10, m11⟩ : TMod) l K (⟨⟨b0, b1, b2⟩, ⟨b3, b4, b5⟩⟩ : TBox)).1.length) := by omega
    by_cases h4 : (⟨m0, m1, m2, m3, m4, m5, m6, m7, m8, m9, m10, m11⟩ : TMod).steps (⟨⟨b0, b1, b2⟩, ⟨b3, b4, b5⟩⟩ : TBox) = []
    ·simp [hm, hb, hh, hE, e0, g1, g2, hc, h3, h4, hn, hn2, unl, LeD.refl, g3, g4, numsP_bxs]
    ·have h5 : ¬ bestS (⟨m0, m1, m2, m3, m4, m5, m6, m7, m8, m9, m10, m11⟩ : TMod) (⟨⟨b0, b1, b2⟩, ⟨b3, b4, b5⟩⟩ : TBox) l < K := fun q => h1 ⟨h4, q⟩
     simp [hm, hb, hh, hE, e0, g1, g2, hc, h3, h4, h5, hn, hn2, unl, LeD.refl, g3, g4, numsP_bxs]
  ·have h1 := hcv _ hE rfl
   by_cases hm : (⟨m0, m1, m2, m3, m4, m5, m6, m7, m8, m9, m10, m11⟩ : TMod).err = 0
   ·have h2 : firstNZ [(⟨⟨b0, b1, b2⟩, ⟨b3, b4, b5⟩⟩ : TBox).err, hitsE l] = firstNZ [firstNZ [(⟨m0, m1, m2, m3, m4, m5, m6, m7, m8, m9, m10, m11⟩ : TMod).err, (⟨⟨b0, b1, b2⟩, ⟨b3, b4, b5⟩⟩ : TBox).err], hitsE l] := by
     rw [hm]; simp only [firstNZ]; by_cases hb : (⟨⟨b0, b1, b2⟩, ⟨b3, b4, b5⟩⟩ : TBox).err = 0 <;> simp [hb]
    rw [← h2] at hE h1
    rw [hm] at h2
    simp [hm, h1, hE, h2.symm, g1, g2, g3, g4, LeD.refl]
   ·have h2 : firstNZ [firstNZ [(⟨m0, m1, m2, m3, m4, m5, m6, m7, m8, m9, m10, m11⟩ : TMod).err, (⟨⟨b0, b1, b2⟩, ⟨b3, b4, b5⟩⟩ : TBox).err], hitsE l] = (⟨m0, m1, m2, m3, m4, m5, m6, m7, m8, m9, m10, m11⟩ : TMod).err := by
     simp only [firstNZ]; simp [hm]
    rw [h2] at h1
    simp [hm, h1, h2, g1, g2, g3, g4, LeD.refl]
theorem law_law05_TrackCovers (m0 m1 m2 m3 m4 m5 m6 m7 m8 m9 m10 m11 : Int) (b0 b1 b2 b3 b4 b5 : Int) (l : List THit) (c : List TBox) (K : Int) (W : World) (N : Nat → Prop) (vs : List Value) (h : All2 (RelD (RelF W N)) [.t (.a [.v (.int .i64 m0), .v (.int .i64 m1), .v (.int .i64 m2), .v (.int .i64 m3), .v (.int .i64 m4), .v (.int .i64 m5), .v (.int .i64 m6), .v (.int .i64 m7), .v (.int .i64 m8), .v (.int .i64 m9), .v (.int .i64 m10), .v (.int .i64 m11)]), .t (.a [.v (.int .i64 b0), .v (.int .i64 b1), .v (.int .i64 b2), .v (.int .i64 b3), .v (.int .i64 b4), .v (.int .i64 b5), .sl 5 l.length (hitsC l)]), .t (.a [.sl 6 c.length (bxsC c), .v (.int .i64 K)])] vs) : Calls Try.prog 10 vs.toArray W fun e w' => e = .returned (.bool true) ∧ Below W.heap.size W w' :=
 law_end (fn_sound mixed tabOK VS79 (ann := ann_law05_TrackCovers) VI49 (fn := Try.f10) (J := fun _ _ _ => False) (by kernel_rfl) fit_law05_TrackCovers (args := [.t (.a [.v (.int .i64 m0), .v (.int .i64 m1), .v (.int .i64 m2), .v (.int .i64 m3), .v (.int .i64 m4), .v (.int .i64 m5), .v (.int .i64 m6), .v (.int .i64 m7), .v (.int .i64 m8), .v (.int .i64 m9), .v (.int .i64 m10), .v (.int .i64 m11)]), .t (.a [.v (.int .i64 b0), .v (.int .i64 b1), .v (.int .i64 b2), .v (.int .i64 b3), .v (.int .i64 b4), .v (.int .i64 b5), .sl 5 l.length (hitsC l)]), .t (.a [.sl 6 c.length (bxsC c), .v (.int .i64 K)])]) (post := (fun r => LeD r (.t (.c (.v (.bool true)))))) (by rw [ev_law05_TrackCovers]; exact spec_law05_TrackCovers m0 m1 m2 m3 m4 m5 m6 m7 m8 m9 m10 m11 b0 b1 b2 b3 b4 b5 l c K) (by rw [lp_law05_TrackCovers]; trivial) (Nat.le_of_ble_eq_true (by kernel_rfl)) W N vs h)
end Go.Proofs.Ytlmdmpjfehpjeaa
set_option linter.unusedVariables false
set_option linter.unusedSimpArgs false
namespace Go.Proofs.Ytlmdmpjfehpjeaa.Ev
open Go.RowKit
inductive CK where
 | int (k : IntKind)
 | bool
 | str
 | sl (e : TypeId)
def findF (P : Program) (go : TypeId → Nat → Option CK) (j : Nat) : List Field → Option CK
 | [] => none
 | f :: l => bif Nat.ble f.offset j && Nat.blt j (f.offset + P.cellsOf f.type) then go f.type (j - f.offset) else findF P go j l
def kindAt (P : Program) : Nat → TypeId → Nat → Option CK
 | 0, _, _ => none
 | k + 1, t, j => match P.underlying t with
  | some (.int ik) => bif Nat.beq j 0 then some (.int ik) else none
  | some .bool => bif Nat.beq j 0 then some .bool else none
  | some .string => bif Nat.beq j 0 then some .str else none
  | some (.slice e) => bif Nat.beq j 0 then some (.sl e) else none
  | some (.array n e) => bif Nat.blt j (n * P.cellsOf e) then kindAt P k e (j % P.cellsOf e) else none
  | some (.struct fs) => findF P (kindAt P k) j fs.toList
  | _ => none
def kindB (P : Program) : Nat → TypeId → Bool
 | 0, _ => false
 | d + 1, t => (List.range (P.cellsOf t)).all fun j => match kindAt P 20 t j with
  | some (.sl e) => Nat.blt 0 (P.cellsOf e) && kindB P d e
  | some _ => true
  | none => false
def okK (P : Program) : Nat → CK → CV → Prop
 | _, .int ik, c => ∃ n, c = .v (.int ik n) ∧ (Lit.int ik n).wf = true
 | _, .bool, c => ∃ b, c = .v (.bool b)
 | _, .str, c => ∃ s, c = .v (.string s) ∧ s.size ≤ maxLen
 | 0, .sl e, c => False
 | d + 1, .sl e, c => ∃ n cc, c = .sl (P.cellsOf e) n cc ∧ n ≤ maxLen ∧ ∀ i j, i < n → j < P.cellsOf e → ∃ κ, kindAt P 20 e j = some κ ∧ okK P d κ (cc i j)
section
variable {H : Type} {enc : TypeId × Value → H} {P : Program} {w : World} {base : Nat} {spare : Nat → Bool} {held : Bool}
def leaf (H : Type) (enc : TypeId × Value → H) (P : Program) (w : World) (base : Nat) (spare : Nat → Bool) (held : Bool) : CK → Value → Prop
 | .int ik, u => ∃ n, u = .int ik n ∧ (Lit.int ik n).wf = true
 | .bool, u => ∃ b, u = .bool b
 | .str, u => ∃ s : ByteArray, u = .string s ∧ s.size ≤ maxLen
 | .sl e, u => ∃ t m y, P.underlying t = some (.slice e) ∧ DataW.trod enc P w base spare held m t [u] = some y
theorem leaf_of : ∀ (k : Nat) (t : TypeId) (fuel : Nat) (cs : List Value) (x : DataW H × List MemPlace) (j : Nat) (κ : CK), kindAt P k t j = some κ → DataW.trod enc P w base spare held fuel t cs = some x → ∃ u, cs[j]? = some u ∧ leaf H enc P w base spare held κ u := by
 intro k
 induction k with
 | zero => intro t fuel cs x j κ h; cases h
 | succ k ih =>
  intro t fuel cs x j κ hk h
  unfold kindAt at hk
  have zero : ∀ {κ' : CK}, (bif Nat.beq j 0 then some κ' else none) = some κ → j = 0 ∧ κ' = κ := by
   intro κ' e
   cases hb : Nat.beq j 0 with
   | false => rw [hb] at e; cases e
   | true => rw [hb] at e; cases e; exact ⟨Nat.eq_of_beq_eq_true hb, rfl⟩
  split at hk
  ·rename_i ik ht
   obtain ⟨rfl, rfl⟩ := zero hk
   obtain ⟨n, rfl, _, h2⟩ := DataW.trod_int ht h
   exact ⟨_, rfl, n, rfl, h2⟩
  ·rename_i ht
   obtain ⟨rfl, rfl⟩ := zero hk
   obtain ⟨b, rfl, _⟩ := DataW.trod_bool ht h
   exact ⟨_, rfl, b, rfl⟩
  ·rename_i ht
   obtain ⟨rfl, rfl⟩ := zero hk
   obtain ⟨s, rfl, _, h2⟩ := DataW.trod_string ht h
   exact ⟨_, rfl, s, rfl, h2⟩
  ·rename_i e ht
   obtain ⟨rfl, rfl⟩ := zero hk
   rcases DataW.trod_slice ht h with ⟨rfl, _⟩ | ⟨a, len, cap, elems, rest, m, _, rfl, _⟩
   ·exact ⟨_, rfl, t, fuel, x, ht, h⟩
   ·exact ⟨_, rfl, t, fuel, x, ht, h⟩
  ·rename_i n e ht
   cases hb : Nat.blt j (n * P.cellsOf e) with
   | false => rw [hb] at hk; cases hk
   | true =>
    rw [hb] at hk
    simp only [cond_true] at hk
    have hj : j < n * P.cellsOf e := Nat.le_of_ble_eq_true hb
    have hpos : 0 < P.cellsOf e := by
     rcases Nat.eq_zero_or_pos (P.cellsOf e) with q | q
     ·rw [q, Nat.mul_zero] at hj; omega
     ·exact q
    obtain ⟨xs, m, _, _, hl, hxs, hf⟩ := DataW.trod_array ht h
    have hi : j / P.cellsOf e < n := Nat.div_lt_of_lt_mul (by rwa [Nat.mul_comm])
    have h5 := hf _ hi
    rw [show xs[j / P.cellsOf e]? = some xs[j / P.cellsOf e] from List.getElem?_eq_getElem (by omega)] at h5
    obtain ⟨u, h6, h7⟩ := ih e _ _ _ _ _ hk h5
    refine ⟨u, ?_, h7⟩
    rw [List.getElem?_take, if_pos (Nat.mod_lt _ hpos), List.getElem?_drop] at h6
    rwa [Nat.div_add_mod' j (P.cellsOf e)] at h6
  ·rename_i fs ht
   obtain ⟨xs, m, _, _, hl, hxs, hf⟩ := DataW.trod_struct ht h
   have find : ∀ l : List Field, (∀ f ∈ l, ∃ i : Nat, fs[i]? = some f) → findF P (kindAt P k) j l = some κ → ∃ (f : Field) (i : Nat), fs[i]? = some f ∧ f.offset ≤ j ∧ j < f.offset + P.cellsOf f.type ∧ kindAt P k f.type (j - f.offset) = some κ := by
    intro l
    induction l with
    | nil => intro _ h; cases h
    | cons f l ihl =>
     intro hm h
     unfold findF at h
     cases hb : (Nat.ble f.offset j && Nat.blt j (f.offset + P.cellsOf f.type)) with
     | false => rw [hb] at h; exact ihl (fun g hg => hm g (by simp [hg])) h
     | true =>
      rw [hb] at h
      simp only [Bool.and_eq_true] at hb
      obtain ⟨i, hi⟩ := hm f (by simp)
      exact ⟨f, i, hi, Nat.le_of_ble_eq_true hb.1, Nat.le_of_ble_eq_true hb.2, h⟩
   obtain ⟨f, i, hi, h1, h2, h3⟩ := find fs.toList (fun f hf => by
    obtain ⟨i, hi, e⟩ := List.getElem_of_mem hf
    exact ⟨i, by rw [← e]; simp at hi ⊢⟩) hk
   have h5 := hf i f hi
   have hlt : i < fs.size := by
    rcases Nat.lt_or_ge i fs.size with q | q
    ·exact q
    ·rw [Array.getElem?_eq_none q] at hi; cases hi
   rw [show xs[i]? = some xs[i] from List.getElem?_eq_getElem (by omega)] at h5
   obtain ⟨u, h6, h7⟩ := ih _ _ _ _ _ _ h3 h5
   refine ⟨u, ?_, h7⟩
   rw [List.getElem?_take, if_pos (by omega), List.getElem?_drop] at h6
   rwa [show f.offset + (j - f.offset) = j by omega] at h6
  ·cases hk
theorem open_cell : ∀ (d : Nat) (t : TypeId) (fuel : Nat) (cs : List Value) (x : DataW H × List MemPlace), kindB P d t = true → DataW.trod enc P w base spare held fuel t cs = some x → ∀ j, j < P.cellsOf t → ∃ κ c u, kindAt P 20 t j = some κ ∧ cs[j]? = some u ∧ RelF w (fun _ => True) c u ∧ okK P d κ c := by
 intro d
 induction d with
 | zero => intro t fuel cs x h; cases h
 | succ d ih =>
  intro t fuel cs x hB h j hj
  have hB' := hB
  unfold kindB at hB
  have h1 := List.all_eq_true.1 hB j (List.mem_range.2 hj)
  cases hk : kindAt P 20 t j with
  | none => rw [hk] at h1; cases h1
  | some κ =>
   rw [hk] at h1
   obtain ⟨u, h2, h3⟩ := leaf_of 20 t fuel cs x j κ hk h
   cases κ with
   | int ik =>
    obtain ⟨n, rfl, hw⟩ := h3
    exact ⟨_, .v (.int ik n), _, rfl, h2, ⟨rfl, rfl⟩, by simp only [okK]; exact ⟨n, rfl, hw⟩⟩
   | bool =>
    obtain ⟨b, rfl⟩ := h3
    exact ⟨_, .v (.bool b), _, rfl, h2, ⟨rfl, rfl⟩, by simp only [okK]; exact ⟨b, rfl⟩⟩
   | str =>
    obtain ⟨s, rfl, hs⟩ := h3
    exact ⟨_, .v (.string s), _, rfl, h2, ⟨rfl, rfl⟩, by simp only [okK]; exact ⟨s, rfl, hs⟩⟩
   | sl e =>
    simp only [Bool.and_eq_true] at h1
    have hpos : 0 < P.cellsOf e := Nat.le_of_ble_eq_true h1.1
    obtain ⟨t', m, y, ht, hy⟩ := h3
    obtain ⟨n, css, ⟨ao, cap, rfl, g1, g2, g3, g4⟩, hel⟩ := slAt_of_trod ht rfl hpos hy
    have each : ∀ i j, i < n → j < P.cellsOf e → ∃ c : CV, ∃ κ u, kindAt P 20 e j = some κ ∧ (css i)[j]? = some u ∧ RelF w (fun _ => True) c u ∧ okK P d κ c := by
     intro i j hi hj
     obtain ⟨_, m', y', h6⟩ := hel i hi
     obtain ⟨κ, c, u, q⟩ := ih e m' (css i) y' h1.2 h6 j hj
     exact ⟨c, κ, u, q⟩
    classical
    let cc : Nat → Nat → CV := fun i j => if h : i < n ∧ j < P.cellsOf e then Classical.choose (each i j h.1 h.2) else .v (.bool false)
    have hcc : ∀ i j, i < n → j < P.cellsOf e → ∃ κ u, kindAt P 20 e j = some κ ∧ (css i)[j]? = some u ∧ RelF w (fun _ => True) (cc i j) u ∧ okK P d κ (cc i j) := by
     intro i j hi hj
     have : cc i j = Classical.choose (each i j hi hj) := dif_pos ⟨hi, hj⟩
     rw [this]
     exact Classical.choose_spec (each i j hi hj)
    refine ⟨_, .sl (P.cellsOf e) n cc, _, rfl, h2, ⟨ao, cap, rfl, g1, g2, g4, fun h0 => ?_⟩, by
     simp only [okK]
     exact ⟨n, cc, rfl, Nat.le_trans g1 g2, fun i j hi hj => by obtain ⟨κ, u, q1, _, _, q4⟩ := hcc i j hi hj; exact ⟨κ, q1, q4⟩⟩⟩
    obtain ⟨b, off, e1, hlt, hc⟩ := g3 h0
    refine ⟨b, off, e1, hlt, trivial, fun i j hi hj => ?_⟩
    obtain ⟨κ, u, q1, q2, q3, _⟩ := hcc i j hi hj
    refine ⟨u, ?_, q3⟩
    rw [hc i j hi hj]
    simp [List.getD, q2]
theorem open_cells {d : Nat} {t : TypeId} {fuel : Nat} {cs : List Value} {x : DataW H × List MemPlace} (hB : kindB P d t = true) (hl : cs.length = P.cellsOf t) (h : DataW.trod enc P w base spare held fuel t cs = some x) :
  ∃ l : List CV, l.length = P.cellsOf t ∧ All2 (RelF w (fun _ => True)) l cs ∧ ∀ j, j < P.cellsOf t → ∃ κ, kindAt P 20 t j = some κ ∧ okK P d κ (l.getD j (.v (.bool false))) := by
 have each := open_cell d t fuel cs x hB h
 obtain ⟨l, h1, h2⟩ := list_of (CV.v (.bool false)) (P.cellsOf t) (R := fun j c => ∃ κ u, kindAt P 20 t j = some κ ∧ cs[j]? = some u ∧ RelF w (fun _ => True) c u ∧ okK P d κ c) (fun j hj => by obtain ⟨κ, c, u, q⟩ := each j hj; exact ⟨c, κ, u, q⟩)
 refine ⟨l, h1, All2.of_get (by omega) fun i a b ha hb => ?_, fun j hj => ?_⟩
 ·have hi : i < P.cellsOf t := by
   rcases Nat.lt_or_ge i l.length with q | q
   ·omega
   ·rw [List.getElem?_eq_none q] at ha; cases ha
  obtain ⟨κ, u, _, q2, q3, _⟩ := h2 i hi
  rw [hb] at q2
  cases q2
  rw [show l.getD i (.v (.bool false)) = a by simp [List.getD, ha]] at q3
  exact q3
 ·obtain ⟨κ, u, q1, _, _, q4⟩ := h2 j hj
  exact ⟨κ, q1, q4⟩
theorem open_agg {d : Nat} {t : TypeId} {cs : Array Value} {y : DataW H} {ps : List MemPlace} (hB : kindB P d t = true) (hl : cs.size = P.cellsOf t) (h : DataW.Trod enc P w base spare held t (.agg cs) y ps) :
  ∃ l : List CV, l.length = P.cellsOf t ∧ All2 (RelF w (fun _ => True)) l cs.toList ∧ ∀ j, j < P.cellsOf t → ∃ κ, kindAt P 20 t j = some κ ∧ okK P d κ (l.getD j (.v (.bool false))) := by
 obtain ⟨fuel, hf⟩ := h
 exact open_cells hB (by simpa using hl) (by simpa [Value.cells] using hf)
end
theorem open_i64 {P : Program} {d : Nat} {t : TypeId} {j : Nat} {c : CV} (hk : kindAt P 20 t j = some (.int .i64)) (h : ∃ κ, kindAt P 20 t j = some κ ∧ okK P d κ c) : ∃ n : Int, c = .v (.int .i64 n) ∧ -9223372036854775808 ≤ n ∧ n ≤ 9223372036854775807 := by
 obtain ⟨κ, h1, h2⟩ := h
 rw [hk] at h1
 cases h1
 have h3 : ∃ n, c = .v (.int .i64 n) ∧ (Lit.int .i64 n).wf = true := by cases d <;> exact h2
 obtain ⟨n, e, hw⟩ := h3
 have := bounds_i64 hw
 exact ⟨n, e, this.1, this.2⟩
theorem open_sl {P : Program} {d : Nat} {t e : TypeId} {j : Nat} {c : CV} (hk : kindAt P 20 t j = some (.sl e)) (h : ∃ κ, kindAt P 20 t j = some κ ∧ okK P (d + 1) κ c) : ∃ n cc, c = .sl (P.cellsOf e) n cc ∧ n ≤ maxLen ∧ ∀ i j, i < n → j < P.cellsOf e → ∃ κ, kindAt P 20 e j = some κ ∧ okK P d κ (cc i j) := by
 obtain ⟨κ, h1, h2⟩ := h
 rw [hk] at h1
 cases h1
 exact h2
def allI (P : Program) (e : TypeId) : Bool := (List.range (P.cellsOf e)).all fun j => match kindAt P 20 e j with
 | some (.int .i64) => true
 | _ => false
theorem nums_of {P : Program} {d : Nat} {e : TypeId} {n : Nat} {cc : Nat → Nat → CV} (hk : allI P e = true) (h : ∀ i j, i < n → j < P.cellsOf e → ∃ κ, kindAt P 20 e j = some κ ∧ okK P d κ (cc i j)) : numsP (P.cellsOf e) n cc := by
 intro i j hi hj
 have h1 := List.all_eq_true.1 hk j (List.mem_range.2 hj)
 split at h1
 ·rename_i hq
  obtain ⟨m, e1, _⟩ := open_i64 hq (h i j hi hj)
  rw [e1]; rfl
 ·cases h1
end Go.Proofs.Ytlmdmpjfehpjeaa.Ev