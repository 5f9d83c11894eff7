/- Texts of this claim, together. -/
import Derived.WalkKit
import Derived.WalkSpells
import Derived.WalkLawsBesides
import Derived.Shelf.Strings.Builder1
import Derived.Shelf.Strings.Builder2
import Derived.Shelf.Strings.OnBuilder
import Derived.Shelf.Utf8.RuneCount
import Derived.Shelf.Strconv.Atoi
import Derived.Shelf.Strconv.Itoa0
import Derived.Shelf.Strconv.Itoa1
import Derived.Shelf.LaysM
import Derived.Shelf.Strconv.Itoa2
import Derived.Shelf.Strconv.Itoa3
import Derived.Shelf.Strconv.AtoiErrFast
import Derived.Shelf.Strconv.ParseIntEmpty
import Derived.Shelf.Strconv.AtoiFail
import Derived.Shelf.Strconv.Clone
import Derived.Shelf.Strconv.SyntaxError
import Derived.Shelf.LaysC
import Derived.Shelf.Strconv.ToError
import Derived.Shelf.Strconv.Lower
import Derived.Shelf.Strconv.ParseUint10
import Derived.Shelf.Strconv.ParseUint10Empty
import Derived.Shelf.Strconv.ParseUint10Any
import Derived.Shelf.Strconv.ParseInt10
import Derived.Shelf.Strconv.AtoiLong
import Derived.Shelf.Strconv.AtoiInnerAll
import Derived.Shelf.Strconv.RangeError
import Derived.Shelf.Strconv.ToErrorRange
import Derived.Shelf.Strconv.AtoiAll
import Derived.Shelf.Strings.Search1
import Derived.Shelf.Strings.Search2
import Derived.Shelf.Strings.Search3
import Derived.Shelf.Strings.Count
import Derived.Shelf.Strings.Shaped
import Derived.Shelf.Strings.Prefix
import Derived.Shelf.Strings.Split
import Derived.Shelf.Strings.SplitShaped
import Derived.Shelf.Unicode.Decode
import Derived.Shelf.Strings.RuneCount
import Derived.Shelf.Strings.Explode
import Derived.Shelf.Unicode.DecodeSlow
import Derived.Shelf.Unicode.DecodeAny
import Derived.Ground.Names2Prog
import Derived.Shelf.Slices.SearchI
import Derived.Test.YtfadkjcfjkmalaaGreatDoorProg
import Derived.Test.YtfadkjcfjkmalaaGreatDoorRows
import Derived.ProofKit
import Derived.LaidMore
import Derived.LaidSub
import Derived.Lay
import Derived.Shelf.Vars
import Derived.OpenShut
import Derived.Stop.Joined
import Derived.HandedShaped
import Derived.Deep.QuietTactic
import Derived.BigQuiet
import Derived.StillTailTactics

set_option linter.unusedVariables false
namespace Go.Proofs.YtfadkjcfjkmalaaGreatDoor.Ev
open Go.RowKit
def tab64 : List Int := [0, 1, 56, 2, 57, 49, 28, 3, 61, 58, 42, 50, 38, 29, 17, 4, 62, 47, 59, 36, 45, 43, 51, 22, 53, 39, 33, 30, 24, 18, 12, 5, 63, 55, 48, 27, 60, 41, 37, 16, 46, 35, 44, 21, 52, 32, 23, 11, 54, 26, 40, 15, 34, 20, 31, 10, 25, 14, 19, 9, 13, 8, 7, 6]
def G64 (w : World) : Prop := ∀ i, i < 64 → w.cell? ⟨7, i, none⟩ = some (.int .u8 (tab64.getD i 0))
theorem G64.below {w w' : World} (h : G64 w) (hb : Below w.heap.size w w') : G64 w' := by
 intro i hi
 have h0 := h i hi
 exact (hb.cell (World.block_lt_of_cell? _ _ h0)).trans h0
def varAt (w : World) (g : Nat) : Option (Array Value) := match w.heap[g]? with
 | some (.cells cs _ _) => some cs
 | _ => none
theorem varAt.below {w w' : World} {g : Nat} {cs : Array Value} (h : varAt w g = some cs) (hb : Below w.heap.size w w') : varAt w' g = some cs := by
 unfold varAt at h ⊢
 have hlt : g < w.heap.size := by
  rcases Nat.lt_or_ge g w.heap.size with h' | h'
  ·exact h'
  ·rw [Array.getElem?_eq_none h'] at h; cases h
 rw [hb.block g hlt]
 exact h
structure GStr (w : World) : Prop where
 pow : varAt w 5 = some ([1, 10, 100, 1000, 10000, 100000, 1000000, 10000000, 100000000, 1000000000, 10000000000, 100000000000, 1000000000000, 10000000000000, 100000000000000, 1000000000000000, 10000000000000000, 100000000000000000, 1000000000000000000, 10000000000000000000].map (Value.int .u64)).toArray
 len : ∃ m, w.cell? ⟨0, 0, none⟩ = some (.int .i64 m)
 syn : ∃ t p, w.cell? ⟨3, 0, none⟩ = some (.iface t p)
 rng : ∃ t p, w.cell? ⟨4, 0, none⟩ = some (.iface t p)
theorem GStr.below {w w' : World} (h : GStr w) (hb : Below w.heap.size w w') : GStr w' := by
 obtain ⟨h1, ⟨m, h2⟩, ⟨t, p, h3⟩, t', p', h4⟩ := h
 exact ⟨varAt.below h1 hb, ⟨m, (hb.cell (World.block_lt_of_cell? _ _ h2)).trans h2⟩, ⟨t, p, (hb.cell (World.block_lt_of_cell? _ _ h3)).trans h3⟩, t', p', (hb.cell (World.block_lt_of_cell? _ _ h4)).trans h4⟩
def Gd (w : World) : Prop := G64 w ∧ GStr w
theorem Gd.below {w w' : World} (h : Gd w) (hb : Below w.heap.size w w') : Gd w' := ⟨h.1.below hb, h.2.below hb⟩
end Go.Proofs.YtfadkjcfjkmalaaGreatDoor.Ev
namespace Go.Proofs
open Go.Shelf
def Tryz.lays156_ren : Go.Shelf.Ren := ⟨fun | 156 => 37 | 165 => 79 | 166 => 80 | 169 => 81 | 240 => 106 | 241 => 107 | 276 => 123 | 277 => 124 | n => n, fun | 31 => 83 | 9 => 9 | 3 => 3 | 4 => 4 | 0 => 0 | 20 => 20 | 72 => 144 | 76 => 148 | 70 => 141 | 37 => 142 | 75 => 147 | 127 => 175 | 164 => 187 | 5 => 5 | 80 => 150 | n => n, fun | n => n⟩
theorem Tryz.lays156 : Go.Proofs.Lays.n156 Tryz.prog Tryz.lays156_ren := {
 mixed := by kernel_rfl
 f156 := Tryz.func37.trans (congrArg some (by kernel_rfl))
 f165 := Tryz.func79.trans (congrArg some (by kernel_rfl))
 f166 := Tryz.func80.trans (congrArg some (by kernel_rfl))
 f169 := Tryz.func81.trans (congrArg some (by kernel_rfl))
 f240 := Tryz.func106.trans (congrArg some (by kernel_rfl))
 f241 := Tryz.func107.trans (congrArg some (by kernel_rfl))
 f276 := Tryz.func123.trans (congrArg some (by kernel_rfl))
 f277 := Tryz.func124.trans (congrArg some (by kernel_rfl))
 t0 := Tryz.underlying0
 a0 := Tryz.isAgg0
 z0 := Tryz.sizeOf0
 v0 := Tryz.zeroValue0
 t3 := Tryz.underlying3
 a3 := Tryz.isAgg3
 z3 := Tryz.sizeOf3
 v3 := Tryz.zeroValue3
 t4 := Tryz.underlying4
 a4 := Tryz.isAgg4
 z4 := Tryz.sizeOf4
 v4 := Tryz.zeroValue4
 t9 := Tryz.underlying9
 a9 := Tryz.isAgg9
 z9 := Tryz.sizeOf9
 v9 := Tryz.zeroValue9
 t20 := Tryz.underlying20
 a20 := Tryz.isAgg20
 z20 := Tryz.sizeOf20
 v20 := Tryz.zeroValue20
 t31 := Tryz.underlying83
 a31 := Tryz.isAgg83
 z31 := Tryz.sizeOf83
 v31 := Tryz.zeroValue83
 t37 := Tryz.underlying142
 a37 := Tryz.isAgg142
 z37 := Tryz.sizeOf142
 v37 := Tryz.zeroValue142
 t70 := Tryz.underlying141
 a70 := Tryz.isAgg141
 z70 := Tryz.sizeOf141
 v70 := Tryz.zeroValue141
 t72 := Tryz.underlying144
 a72 := Tryz.isAgg144
 z72 := Tryz.sizeOf144
 v72 := Tryz.zeroValue144
 t75 := Tryz.underlying147
 a75 := Tryz.isAgg147
 z75 := Tryz.sizeOf147
 v75 := Tryz.zeroValue147
 t76 := Tryz.underlying148
 a76 := Tryz.isAgg148
 z76 := Tryz.sizeOf148
 v76 := Tryz.zeroValue148
 t127 := Tryz.underlying175
 a127 := Tryz.isAgg175
 z127 := Tryz.sizeOf175
 v127 := Tryz.zeroValue175
 t164 := Tryz.underlying187
 a164 := Tryz.isAgg187
 z164 := Tryz.sizeOf187
 v164 := Tryz.zeroValue187 }
theorem Tryz.Builder_Extra_156 : Builder.Extra Tryz.prog Tryz.lays156_ren := {
 sizeBuilder := by kernel_rfl
 liesBuilder := by kernel_rfl
 t5 := Tryz.underlying5
 a5 := Tryz.isAgg5
 z5 := Tryz.sizeOf5
 v5 := Tryz.zeroValue5
 infoByte := by kernel_rfl
 cellsByte := by kernel_rfl
 sizeByte := by kernel_rfl
 neB5 := by decide }
open Go.RowKit in
theorem Tryz.strings_Join_none (a : Option Addr) (c : Nat) (sep : ByteArray) (w : World) :
  Calls Tryz.prog 37 #[.slice a 0 c, .string sep] w fun e w' => e = .returned (.string ⟨#[]⟩) ∧ w' = w := Any.strings_Join_none Tryz.lays156 Tryz.Builder_Extra_156 a c sep w
open Go.RowKit in
theorem Tryz.strings_Join (bk o c : Nat) (xs : List ByteArray) (sep : ByteArray) (w : World) (hcells : ∀ (j : Nat) x, xs[j]? = some x → w.cell? ⟨bk, o + j, none⟩ = some (.string x)) (hbk : bk < w.heap.size) (hN : xs.length ≤ 140737488355328) (hcap : xs.length ≤ c) (hlen : (Lib.join (xs.map (·.data.toList)) sep.data.toList).length ≤ 140737488355328) :
  Calls Tryz.prog 37 #[.slice (some ⟨bk, o, none⟩) xs.length c, .string sep] w fun e w' => e = .returned (.string ⟨(Lib.join (xs.map (·.data.toList)) sep.data.toList).toArray⟩) ∧ Below w.heap.size w w' := Any.strings_Join Tryz.lays156 Tryz.Builder_Extra_156 bk o c xs sep w hcells hbk hN hcap hlen
def Tryz.laysM171_ren : Go.Shelf.Ren := ⟨fun | 171 => 78 | 243 => 105 | 246 => 122 | 283 => 139 | 284 => 140 | 285 => 141 | 286 => 142 | 129 => 153 | 317 => 152 | 318 => 154 | 319 => 155 | 320 => 156 | 337 => 161 | 338 => 162 | n => n, fun | 3 => 3 | 9 => 9 | 2 => 2 | 4 => 4 | 171 => 201 | 0 => 0 | 53 => 202 | 37 => 142 | 5 => 5 | 173 => 205 | 212 => 220 | 51 => 221 | 20 => 20 | 213 => 222 | 46 => 184 | 232 => 231 | 233 => 232 | n => n, fun | 17 => 5 | 18 => 6 | 19 => 7 | n => n⟩
theorem Tryz.laysM171 : Go.Proofs.LaysM.n171 Tryz.prog Tryz.laysM171_ren := {
 mixed := by kernel_rfl
 f129 := Tryz.func153.trans (congrArg some (by kernel_rfl))
 f171 := Tryz.func78.trans (congrArg some (by kernel_rfl))
 f243 := Tryz.func105.trans (congrArg some (by kernel_rfl))
 f246 := Tryz.func122.trans (congrArg some (by kernel_rfl))
 f283 := Tryz.func139.trans (congrArg some (by kernel_rfl))
 f284 := Tryz.func140.trans (congrArg some (by kernel_rfl))
 f285 := Tryz.func141.trans (congrArg some (by kernel_rfl))
 f286 := Tryz.func142.trans (congrArg some (by kernel_rfl))
 f317 := Tryz.func152.trans (congrArg some (by kernel_rfl))
 f318 := Tryz.func154.trans (congrArg some (by kernel_rfl))
 f319 := Tryz.func155.trans (congrArg some (by kernel_rfl))
 f320 := Tryz.func156.trans (congrArg some (by kernel_rfl))
 f337 := Tryz.func161.trans (congrArg some (by kernel_rfl))
 f338 := Tryz.func162.trans (congrArg some (by kernel_rfl))
 t0 := Tryz.underlying0
 a0 := Tryz.isAgg0
 z0 := Tryz.sizeOf0
 v0 := Tryz.zeroValue0
 t2 := Tryz.underlying2
 a2 := Tryz.isAgg2
 z2 := Tryz.sizeOf2
 v2 := Tryz.zeroValue2
 t3 := Tryz.underlying3
 a3 := Tryz.isAgg3
 z3 := Tryz.sizeOf3
 v3 := Tryz.zeroValue3
 t4 := Tryz.underlying4
 a4 := Tryz.isAgg4
 z4 := Tryz.sizeOf4
 v4 := Tryz.zeroValue4
 t5 := Tryz.underlying5
 a5 := Tryz.isAgg5
 z5 := Tryz.sizeOf5
 v5 := Tryz.zeroValue5
 t9 := Tryz.underlying9
 a9 := Tryz.isAgg9
 z9 := Tryz.sizeOf9
 v9 := Tryz.zeroValue9
 t20 := Tryz.underlying20
 a20 := Tryz.isAgg20
 z20 := Tryz.sizeOf20
 v20 := Tryz.zeroValue20
 t37 := Tryz.underlying142
 a37 := Tryz.isAgg142
 z37 := Tryz.sizeOf142
 v37 := Tryz.zeroValue142
 t46 := Tryz.underlying184
 a46 := Tryz.isAgg184
 z46 := Tryz.sizeOf184
 v46 := Tryz.zeroValue184
 t51 := Tryz.underlying221
 a51 := Tryz.isAgg221
 z51 := Tryz.sizeOf221
 v51 := Tryz.zeroValue221
 t53 := Tryz.underlying202
 a53 := Tryz.isAgg202
 z53 := Tryz.sizeOf202
 v53 := Tryz.zeroValue202
 t171 := Tryz.underlying201
 a171 := Tryz.isAgg201
 z171 := Tryz.sizeOf201
 v171 := Tryz.zeroValue201
 t173 := Tryz.underlying205
 a173 := Tryz.isAgg205
 z173 := Tryz.sizeOf205
 v173 := Tryz.zeroValue205
 t212 := Tryz.underlying220
 a212 := Tryz.isAgg220
 z212 := Tryz.sizeOf220
 v212 := Tryz.zeroValue220
 t213 := Tryz.underlying222
 a213 := Tryz.isAgg222
 z213 := Tryz.sizeOf222
 t232 := Tryz.underlying231
 a232 := Tryz.isAgg231
 z232 := Tryz.sizeOf231
 v232 := Tryz.zeroValue231
 t233 := Tryz.underlying232
 a233 := Tryz.isAgg232
 z233 := Tryz.sizeOf232
 v233 := Tryz.zeroValue232
 g17 := by kernel_rfl
 g18 := by kernel_rfl
 g19 := by kernel_rfl
 i0 := by kernel_rfl
 i2 := by kernel_rfl
 i3 := by kernel_rfl
 i4 := by kernel_rfl
 i5 := by kernel_rfl
 i9 := by kernel_rfl
 i20 := by kernel_rfl
 i37 := by kernel_rfl
 i46 := by kernel_rfl
 i51 := by kernel_rfl
 i53 := by kernel_rfl
 i171 := by kernel_rfl
 i173 := by kernel_rfl
 i212 := by kernel_rfl
 i232 := by kernel_rfl
 i233 := by kernel_rfl
 m17 := by kernel_rfl
 m18 := by kernel_rfl
 m19 := by kernel_rfl }
open Go.RowKit Go.Sort Go.Lib in
theorem Tryz.strconv_Itoa (n : Int) (h0 : -9223372036854775808 ≤ n) (h1 : n ≤ 9223372036854775807) (w : World) (htab : Lib.TabIs Tryz.prog w "internal/strconv.uint64pow10" .u64 Lib.pow10Tab) :
  Calls Tryz.prog 78 #[.int .i64 n] w fun e w' => e = .returned (.string ⟨(Lib.itoa n).toArray⟩) ∧ ∃ k os, w' = grow (w.drewN k) os := Any.strconv_Itoa Tryz.laysM171 n h0 h1 w htab
def Tryz.laysC172_ren : Go.Shelf.Ren := ⟨fun | 172 => 84 | 244 => 112 | 245 => 113 | 247 => 129 | 279 => 130 | 280 => 131 | 281 => 132 | 282 => 133 | 287 => 149 | 316 => 150 | 171 => 78 | 205 => 151 | 321 => 159 | 322 => 160 | 243 => 105 | 246 => 122 | 283 => 139 | 284 => 140 | 285 => 141 | 286 => 142 | 129 => 153 | 317 => 152 | 318 => 154 | 319 => 155 | 320 => 156 | 337 => 161 | 338 => 162 | n => n, fun | 9 => 9 | 3 => 3 | 75 => 147 | 76 => 148 | 4 => 4 | 5 => 5 | 167 => 191 | 37 => 142 | 0 => 0 | 85 => 192 | 2 => 2 | 168 => 194 | 53 => 202 | 175 => 213 | 46 => 184 | 210 => 217 | 127 => 175 | 145 => 229 | 143 => 227 | 21 => 21 | 171 => 201 | 173 => 205 | 212 => 220 | 51 => 221 | 20 => 20 | 213 => 222 | 232 => 231 | 233 => 232 | 80 => 150 | n => n, fun | 15 => 3 | 16 => 4 | 17 => 5 | 18 => 6 | 19 => 7 | n => n⟩
theorem Tryz.laysC172 : Go.Proofs.LaysC.n172 Tryz.prog Tryz.laysC172_ren := {
 mixed := by kernel_rfl
 f129 := Tryz.func153.trans (congrArg some (by kernel_rfl))
 f171 := Tryz.func78.trans (congrArg some (by kernel_rfl))
 f172 := Tryz.func84.trans (congrArg some (by kernel_rfl))
 f205 := Tryz.func151.trans (congrArg some (by kernel_rfl))
 f243 := Tryz.func105.trans (congrArg some (by kernel_rfl))
 f244 := Tryz.func112.trans (congrArg some (by kernel_rfl))
 f245 := Tryz.func113.trans (congrArg some (by kernel_rfl))
 f246 := Tryz.func122.trans (congrArg some (by kernel_rfl))
 f247 := Tryz.func129.trans (congrArg some (by kernel_rfl))
 f279 := Tryz.func130.trans (congrArg some (by kernel_rfl))
 f280 := Tryz.func131.trans (congrArg some (by kernel_rfl))
 f281 := Tryz.func132.trans (congrArg some (by kernel_rfl))
 f282 := Tryz.func133.trans (congrArg some (by kernel_rfl))
 f283 := Tryz.func139.trans (congrArg some (by kernel_rfl))
 f284 := Tryz.func140.trans (congrArg some (by kernel_rfl))
 f285 := Tryz.func141.trans (congrArg some (by kernel_rfl))
 f286 := Tryz.func142.trans (congrArg some (by kernel_rfl))
 f287 := Tryz.func149.trans (congrArg some (by kernel_rfl))
 f316 := Tryz.func150.trans (congrArg some (by kernel_rfl))
 f317 := Tryz.func152.trans (congrArg some (by kernel_rfl))
 f318 := Tryz.func154.trans (congrArg some (by kernel_rfl))
 f319 := Tryz.func155.trans (congrArg some (by kernel_rfl))
 f320 := Tryz.func156.trans (congrArg some (by kernel_rfl))
 f321 := Tryz.func159.trans (congrArg some (by kernel_rfl))
 f322 := Tryz.func160.trans (congrArg some (by kernel_rfl))
 f337 := Tryz.func161.trans (congrArg some (by kernel_rfl))
 f338 := Tryz.func162.trans (congrArg some (by kernel_rfl))
 t0 := Tryz.underlying0
 a0 := Tryz.isAgg0
 z0 := Tryz.sizeOf0
 v0 := Tryz.zeroValue0
 t2 := Tryz.underlying2
 a2 := Tryz.isAgg2
 z2 := Tryz.sizeOf2
 v2 := Tryz.zeroValue2
 t3 := Tryz.underlying3
 a3 := Tryz.isAgg3
 z3 := Tryz.sizeOf3
 v3 := Tryz.zeroValue3
 t4 := Tryz.underlying4
 a4 := Tryz.isAgg4
 z4 := Tryz.sizeOf4
 v4 := Tryz.zeroValue4
 t5 := Tryz.underlying5
 a5 := Tryz.isAgg5
 z5 := Tryz.sizeOf5
 v5 := Tryz.zeroValue5
 t9 := Tryz.underlying9
 a9 := Tryz.isAgg9
 z9 := Tryz.sizeOf9
 v9 := Tryz.zeroValue9
 t20 := Tryz.underlying20
 a20 := Tryz.isAgg20
 z20 := Tryz.sizeOf20
 v20 := Tryz.zeroValue20
 t21 := Tryz.underlying21
 a21 := Tryz.isAgg21
 z21 := Tryz.sizeOf21
 v21 := Tryz.zeroValue21
 t37 := Tryz.underlying142
 a37 := Tryz.isAgg142
 z37 := Tryz.sizeOf142
 v37 := Tryz.zeroValue142
 t46 := Tryz.underlying184
 a46 := Tryz.isAgg184
 z46 := Tryz.sizeOf184
 v46 := Tryz.zeroValue184
 t51 := Tryz.underlying221
 a51 := Tryz.isAgg221
 z51 := Tryz.sizeOf221
 v51 := Tryz.zeroValue221
 t53 := Tryz.underlying202
 a53 := Tryz.isAgg202
 z53 := Tryz.sizeOf202
 v53 := Tryz.zeroValue202
 t75 := Tryz.underlying147
 a75 := Tryz.isAgg147
 z75 := Tryz.sizeOf147
 v75 := Tryz.zeroValue147
 t76 := Tryz.underlying148
 a76 := Tryz.isAgg148
 z76 := Tryz.sizeOf148
 v76 := Tryz.zeroValue148
 t85 := Tryz.underlying192
 a85 := Tryz.isAgg192
 z85 := Tryz.sizeOf192
 v85 := Tryz.zeroValue192
 t127 := Tryz.underlying175
 a127 := Tryz.isAgg175
 z127 := Tryz.sizeOf175
 v127 := Tryz.zeroValue175
 t143 := Tryz.underlying227
 a143 := Tryz.isAgg227
 z143 := Tryz.sizeOf227
 v143 := Tryz.zeroValue227
 t145 := Tryz.underlying229
 a145 := Tryz.isAgg229
 z145 := Tryz.sizeOf229
 v145 := Tryz.zeroValue229
 t167 := Tryz.underlying191
 a167 := Tryz.isAgg191
 z167 := Tryz.sizeOf191
 v167 := Tryz.zeroValue191
 t168 := Tryz.underlying194
 a168 := Tryz.isAgg194
 z168 := Tryz.sizeOf194
 v168 := Tryz.zeroValue194
 t171 := Tryz.underlying201
 a171 := Tryz.isAgg201
 z171 := Tryz.sizeOf201
 v171 := Tryz.zeroValue201
 t173 := Tryz.underlying205
 a173 := Tryz.isAgg205
 z173 := Tryz.sizeOf205
 v173 := Tryz.zeroValue205
 t175 := Tryz.underlying213
 a175 := Tryz.isAgg213
 z175 := Tryz.sizeOf213
 v175 := Tryz.zeroValue213
 t210 := Tryz.underlying217
 a210 := Tryz.isAgg217
 z210 := Tryz.sizeOf217
 v210 := Tryz.zeroValue217
 t212 := Tryz.underlying220
 a212 := Tryz.isAgg220
 z212 := Tryz.sizeOf220
 v212 := Tryz.zeroValue220
 t213 := Tryz.underlying222
 a213 := Tryz.isAgg222
 z213 := Tryz.sizeOf222
 t232 := Tryz.underlying231
 a232 := Tryz.isAgg231
 z232 := Tryz.sizeOf231
 v232 := Tryz.zeroValue231
 t233 := Tryz.underlying232
 a233 := Tryz.isAgg232
 z233 := Tryz.sizeOf232
 v233 := Tryz.zeroValue232
 g15 := by kernel_rfl
 g16 := by kernel_rfl
 g17 := by kernel_rfl
 g18 := by kernel_rfl
 g19 := by kernel_rfl
 t80 := Tryz.underlying150
 a80 := Tryz.isAgg150
 z80 := Tryz.sizeOf150
 v80 := Tryz.zeroValue150
 i0 := by kernel_rfl
 i2 := by kernel_rfl
 i3 := by kernel_rfl
 i4 := by kernel_rfl
 i5 := by kernel_rfl
 i9 := by kernel_rfl
 i20 := by kernel_rfl
 i21 := by kernel_rfl
 i37 := by kernel_rfl
 i46 := by kernel_rfl
 i51 := by kernel_rfl
 i53 := by kernel_rfl
 i75 := by kernel_rfl
 i76 := by kernel_rfl
 i80 := by kernel_rfl
 i85 := by kernel_rfl
 i127 := by kernel_rfl
 i143 := by kernel_rfl
 i145 := by kernel_rfl
 i167 := by kernel_rfl
 i168 := by kernel_rfl
 i171 := by kernel_rfl
 i173 := by kernel_rfl
 i175 := by kernel_rfl
 i210 := by kernel_rfl
 i212 := by kernel_rfl
 i232 := by kernel_rfl
 i233 := by kernel_rfl
 m15 := by kernel_rfl
 m16 := by kernel_rfl
 m17 := by kernel_rfl
 m18 := by kernel_rfl
 m19 := by kernel_rfl
 c0 := by kernel_rfl
 c2 := by kernel_rfl
 c3 := by kernel_rfl
 c4 := by kernel_rfl
 c5 := by kernel_rfl
 c9 := by kernel_rfl
 c20 := by kernel_rfl
 c21 := by kernel_rfl
 c37 := by kernel_rfl
 c46 := by kernel_rfl
 c51 := by kernel_rfl
 c53 := by kernel_rfl
 c75 := by kernel_rfl
 c76 := by kernel_rfl
 c80 := by kernel_rfl
 c85 := by kernel_rfl
 c127 := by kernel_rfl
 c143 := by kernel_rfl
 c145 := by kernel_rfl
 c167 := by kernel_rfl
 c168 := by kernel_rfl
 c171 := by kernel_rfl
 c173 := by kernel_rfl
 c175 := by kernel_rfl
 c210 := by kernel_rfl
 c212 := by kernel_rfl
 c213 := by kernel_rfl
 c232 := by kernel_rfl
 c233 := by kernel_rfl }
open Go.RowKit in
theorem Tryz.strconv_Atoi_ok (s : ByteArray) (hmax : s.size ≤ 9223372036854775806) (v : Int) (h : Lib.atoiAll s.data.toList = .ok v) (w : World) :
  Calls Tryz.prog 84 #[.string s] w fun e w' => e = .returned (.tuple #[.int .i64 v, .nilIface]) ∧ (w' = w ∨ ∃ t, w' = Lib.bytesWorld w 5 t) := Any.strconv_Atoi_ok Tryz.laysC172 s hmax v h w
open Go.RowKit in
theorem Tryz.strconv_Atoi_syntax (s : ByteArray) (hlim : s.size ≤ 281474976710656) (h : Lib.atoiAll s.data.toList = Lib.atoiAll []) (ev : Value) (w : World) (hv : w.cell? ⟨3, 0, none⟩ = some ev) (hev : ev = .nilIface ∨ ∃ te pe, ev = .iface te pe) :
  Calls Tryz.prog 84 #[.string s] w fun e w' => ∃ N, e = .returned (.tuple #[.int .i64 (0), .iface 194 (.pointer (some ⟨N, 0, none⟩))]) ∧ w.heap.size ≤ N ∧ w'.heap[N]? = some (.cells #[.string ⟨#[65, 116, 111, 105]⟩, .string s, ev] 217 (0, 0)) ∧ Below w.heap.size w w' := Any.strconv_Atoi_syntax Tryz.laysC172 s hlim h ev w hv hev
open Go.RowKit in
theorem Tryz.strconv_Atoi_range (s : ByteArray) (hlim : s.size ≤ 281474976710656) (h : Lib.atoiAll s.data.toList = .range) (ev : Value) (w : World) (hv : w.cell? ⟨4, 0, none⟩ = some ev) (hev : ev = .nilIface ∨ ∃ te pe, ev = .iface te pe) :
  Calls Tryz.prog 84 #[.string s] w fun e w' => ∃ N, e = .returned (.tuple #[.int .i64 (Lib.atoiSat s.data.toList), .iface 194 (.pointer (some ⟨N, 0, none⟩))]) ∧ w.heap.size ≤ N ∧ w'.heap[N]? = some (.cells #[.string ⟨#[65, 116, 111, 105]⟩, .string s, ev] 217 (0, 0)) ∧ Below w.heap.size w w' := Any.strconv_Atoi_range Tryz.laysC172 s hlim h ev w hv hev
def Tryz.lays143_ren : Go.Shelf.Ren := ⟨fun | 143 => 110 | 219 => 126 | 217 => 143 | 225 => 144 | 224 => 145 | 267 => 146 | 266 => 157 | 314 => 158 | n => n, fun | 9 => 9 | 3 => 3 | 4 => 4 | 5 => 5 | 46 => 184 | 146 => 224 | 51 => 221 | n => n, fun | 1 => 0 | n => n⟩
theorem Tryz.lays143 : Go.Proofs.Lays.n143 Tryz.prog Tryz.lays143_ren := {
 mixed := by kernel_rfl
 f143 := Tryz.func110.trans (congrArg some (by kernel_rfl))
 f217 := Tryz.func143.trans (congrArg some (by kernel_rfl))
 f219 := Tryz.func126.trans (congrArg some (by kernel_rfl))
 f224 := Tryz.func145.trans (congrArg some (by kernel_rfl))
 f225 := Tryz.func144.trans (congrArg some (by kernel_rfl))
 f266 := Tryz.func157.trans (congrArg some (by kernel_rfl))
 f267 := Tryz.func146.trans (congrArg some (by kernel_rfl))
 f314 := Tryz.func158.trans (congrArg some (by kernel_rfl))
 t3 := Tryz.underlying3
 a3 := Tryz.isAgg3
 z3 := Tryz.sizeOf3
 v3 := Tryz.zeroValue3
 t4 := Tryz.underlying4
 a4 := Tryz.isAgg4
 z4 := Tryz.sizeOf4
 v4 := Tryz.zeroValue4
 t5 := Tryz.underlying5
 a5 := Tryz.isAgg5
 z5 := Tryz.sizeOf5
 v5 := Tryz.zeroValue5
 t9 := Tryz.underlying9
 a9 := Tryz.isAgg9
 z9 := Tryz.sizeOf9
 v9 := Tryz.zeroValue9
 t46 := Tryz.underlying184
 a46 := Tryz.isAgg184
 z46 := Tryz.sizeOf184
 v46 := Tryz.zeroValue184
 t51 := Tryz.underlying221
 a51 := Tryz.isAgg221
 z51 := Tryz.sizeOf221
 v51 := Tryz.zeroValue221
 t146 := Tryz.underlying224
 a146 := Tryz.isAgg224
 z146 := Tryz.sizeOf224
 v146 := Tryz.zeroValue224
 g1 := by kernel_rfl }
open Go.RowKit Go.Lib in
theorem Tryz.strings_Index (s sub : ByteArray) (m : Int) (w : World) (hs : s.size < 4294967281) (hm : w.cell? ⟨0, 0, none⟩ = some (.int .i64 m)) :
  Calls Tryz.prog 110 #[.string s, .string sub] w fun e w' => e = .returned (.int .i64 (Lib.index s.data.toList sub.data.toList)) ∧ w' = w := Any.strings_Index Tryz.lays143 s sub m w hs hm
def Tryz.lays101_ren : Go.Shelf.Ren := ⟨fun | 101 => 85 | 208 => 114 | 206 => 134 | n => n, fun | 9 => 9 | 4 => 4 | 3 => 3 | n => n, fun | n => n⟩
theorem Tryz.lays101 : Go.Proofs.Lays.n101 Tryz.prog Tryz.lays101_ren := {
 mixed := by kernel_rfl
 f101 := Tryz.func85.trans (congrArg some (by kernel_rfl))
 f206 := Tryz.func134.trans (congrArg some (by kernel_rfl))
 f208 := Tryz.func114.trans (congrArg some (by kernel_rfl))
 t3 := Tryz.underlying3
 a3 := Tryz.isAgg3
 z3 := Tryz.sizeOf3
 v3 := Tryz.zeroValue3
 t4 := Tryz.underlying4
 a4 := Tryz.isAgg4
 z4 := Tryz.sizeOf4
 v4 := Tryz.zeroValue4
 t9 := Tryz.underlying9
 a9 := Tryz.isAgg9
 z9 := Tryz.sizeOf9
 v9 := Tryz.zeroValue9 }
open Go.RowKit Go.Lib in
theorem Tryz.strings_TrimPrefix (s p : ByteArray) (w : World) :
  Calls Tryz.prog 85 #[.string s, .string p] w fun e w' => e = .returned (.string ⟨(Lib.trimPrefix s.data.toList p.data.toList).toArray⟩) ∧ w' = w := Any.strings_TrimPrefix Tryz.lays101 s p w
def Tryz.lays146_ren : Go.Shelf.Ren := ⟨fun | 146 => 83 | 221 => 111 | 268 => 127 | 138 => 128 | 143 => 110 | 195 => 147 | 197 => 109 | 218 => 148 | 219 => 126 | 260 => 125 | 217 => 143 | 225 => 144 | 224 => 145 | 267 => 146 | 266 => 157 | 314 => 158 | n => n, fun | 9 => 9 | 31 => 83 | 3 => 3 | 4 => 4 | 0 => 0 | 105 => 177 | 21 => 21 | 5 => 5 | 46 => 184 | 119 => 207 | 139 => 210 | 138 => 209 | 146 => 224 | 51 => 221 | n => n, fun | 1 => 0 | 3 => 1 | 4 => 2 | n => n⟩
theorem Tryz.lays146 : Go.Proofs.Lays.n146 Tryz.prog Tryz.lays146_ren := {
 mixed := by kernel_rfl
 f138 := Tryz.func128.trans (congrArg some (by kernel_rfl))
 f143 := Tryz.func110.trans (congrArg some (by kernel_rfl))
 f146 := Tryz.func83.trans (congrArg some (by kernel_rfl))
 f195 := Tryz.func147.trans (congrArg some (by kernel_rfl))
 f197 := Tryz.func109.trans (congrArg some (by kernel_rfl))
 f217 := Tryz.func143.trans (congrArg some (by kernel_rfl))
 f218 := Tryz.func148.trans (congrArg some (by kernel_rfl))
 f219 := Tryz.func126.trans (congrArg some (by kernel_rfl))
 f221 := Tryz.func111.trans (congrArg some (by kernel_rfl))
 f224 := Tryz.func145.trans (congrArg some (by kernel_rfl))
 f225 := Tryz.func144.trans (congrArg some (by kernel_rfl))
 f260 := Tryz.func125.trans (congrArg some (by kernel_rfl))
 f266 := Tryz.func157.trans (congrArg some (by kernel_rfl))
 f267 := Tryz.func146.trans (congrArg some (by kernel_rfl))
 f268 := Tryz.func127.trans (congrArg some (by kernel_rfl))
 f314 := Tryz.func158.trans (congrArg some (by kernel_rfl))
 t0 := Tryz.underlying0
 a0 := Tryz.isAgg0
 z0 := Tryz.sizeOf0
 v0 := Tryz.zeroValue0
 t3 := Tryz.underlying3
 a3 := Tryz.isAgg3
 z3 := Tryz.sizeOf3
 v3 := Tryz.zeroValue3
 t4 := Tryz.underlying4
 a4 := Tryz.isAgg4
 z4 := Tryz.sizeOf4
 v4 := Tryz.zeroValue4
 t5 := Tryz.underlying5
 a5 := Tryz.isAgg5
 z5 := Tryz.sizeOf5
 v5 := Tryz.zeroValue5
 t9 := Tryz.underlying9
 a9 := Tryz.isAgg9
 z9 := Tryz.sizeOf9
 v9 := Tryz.zeroValue9
 t21 := Tryz.underlying21
 a21 := Tryz.isAgg21
 z21 := Tryz.sizeOf21
 v21 := Tryz.zeroValue21
 t31 := Tryz.underlying83
 a31 := Tryz.isAgg83
 z31 := Tryz.sizeOf83
 v31 := Tryz.zeroValue83
 t46 := Tryz.underlying184
 a46 := Tryz.isAgg184
 z46 := Tryz.sizeOf184
 v46 := Tryz.zeroValue184
 t51 := Tryz.underlying221
 a51 := Tryz.isAgg221
 z51 := Tryz.sizeOf221
 v51 := Tryz.zeroValue221
 t105 := Tryz.underlying177
 a105 := Tryz.isAgg177
 z105 := Tryz.sizeOf177
 v105 := Tryz.zeroValue177
 t119 := Tryz.underlying207
 a119 := Tryz.isAgg207
 z119 := Tryz.sizeOf207
 t138 := Tryz.underlying209
 a138 := Tryz.isAgg209
 z138 := Tryz.sizeOf209
 v138 := Tryz.zeroValue209
 t139 := Tryz.underlying210
 a139 := Tryz.isAgg210
 z139 := Tryz.sizeOf210
 v139 := Tryz.zeroValue210
 t146 := Tryz.underlying224
 a146 := Tryz.isAgg224
 z146 := Tryz.sizeOf224
 v146 := Tryz.zeroValue224
 g1 := by kernel_rfl
 g3 := by kernel_rfl
 g4 := by kernel_rfl }
open Go.RowKit Go.Lib in
theorem Tryz.strings_Split (s sep : ByteArray) (m : Int) (w : World) (hs : s.size < 4294967281) (hm : w.cell? ⟨0, 0, none⟩ = some (.int .i64 m)) (h1 : 1 ≤ sep.size) :
  Calls Tryz.prog 83 #[.string s, .string sep] w fun e w' =>
   e = .returned (.slice (some ⟨w.heap.size, 0, none⟩) (Lib.countB s sep + 1) (Lib.countB s sep + 1)) ∧ w' = w.alloc (.cells ((Lib.splitB sep 0 (Lib.countB s sep) s).map Value.string).toArray 9) := Any.strings_Split Tryz.lays146 (by kernel_rfl) s sep m w hs hm h1
end Go.Proofs
set_option linter.unusedVariables false
namespace Go.Proofs.YtfadkjcfjkmalaaGreatDoor
theorem change_and_shaped {H : Type} {enc : TypeId × Value → H} {a : Assume} {C : Checked} {os : Os} {f : FuncId} {fn : Func} {s : ChangeSpec} {conds : List PathCond} {apart fresh handsOn again : Bool} {X : World → Array Value → Prop}
  (hX : ∀ (w w' : World) (args : Array Value), w.heap = w'.heap → X w args → X w' args)
  (own : ownKnob C.prog.godebug = none) (started : os.Started) (noInit : C.prog.inits.idxOf? f = none) (hfn : C.prog.funcs[f]? = some fn)
  (witness : ∃ (w : World) (tape : Tape) (i : Input), w.os = os ∧ (w.forCall tape i).Shaped C.prog ∧ i.vars = [] ∧ Input.okWide C.prog (w.forCall tape i) .any w.heap.size f i ∧
   ((s.pre enc C.prog fn conds apart (w.forCall tape i).memory i.args ∧ X (w.forCall tape i).memory i.args) ∧ sizedMet enc C.prog fn (OpenSpec.ofChange s) apart (w.forCall tape i).memory i.args) ∧ a.holds C.prog (lone (Frame.enter C.prog f i.args .normal) [] (w.forCall tape i)))
  (contract : ∀ (W : World) (base : Nat) (args : Array Value) (ds gs : List (DataW H)) (before : List MemPlace),
   (∀ (j : Nat) t v, fn.params[j]? = some t → args[j]? = some v → Value.okWide C.prog W .any base t v) →
   DataW.Whole enc C.prog fn.params.toList s.vars apart W args.toList ds gs before →
   conds.all (PathCond.test C.prog ⟨fn.params.toList, ds, s.plain.varTypes C.prog, gs⟩) = true →
   (DataW.weightsEach C.prog (fn.params.toList ++ s.plain.varTypes C.prog) (ds ++ gs)).all (· ≤ reachBytes) = true → (W.ShapedOpen C.prog ∧ X W args) →
   a.holds C.prog (lone (Frame.enter C.prog f args .normal) [] W) →
   Calls C.prog f args W fun e W' => ∃ v, e = .returned v ∧ s.post enc C.prog fn apart fresh handsOn again W args v W') :
  ReturnsInHanded a C os f .any (fun w args => (s.pre enc C.prog fn conds apart w args ∧ X w args) ∧ sizedMet enc C.prog fn (OpenSpec.ofChange s) apart w args) (s.post enc C.prog fn apart fresh handsOn again) := by
 refine returnsInHanded_of_calls own started noInit witness ?_
 intro w tape i _ hsh _ hok hpre hholds
 obtain ⟨_, _, _, fn', hfn', _, _, _, _, hval⟩ := hok
 have e : fn' = fn := Option.some.inj (hfn'.symm.trans hfn)
 subst e
 obtain ⟨⟨⟨ds, gs, before, hw, hc⟩, hx⟩, hz⟩ := hpre
 have hw' := DataW.Whole.of_heap (w' := w.forCall tape i) (by rfl) hw
 refine (contract (w.forCall tape i) w.heap.size i.args ds gs before hval hw' hc (hz.weights hw) ⟨hsh, hX _ _ _ (by rfl) hx⟩ hholds).mono fun e W' ⟨v, he, hp⟩ => ?_
 subst he
 exact ChangeSpec.post_blind hp
open Go.ChangeShapes Go.WideShapes Go.ChangeAt Go.RowKit Ev
def laidL : List (String × DataW Unit) := [("math/bits.deBruijn32tab", Rows.laid_math_bits_deBruijn32tab), ("math/bits.deBruijn64tab", Rows.laid_math_bits_deBruijn64tab), ("internal/strconv.uint64pow10", Rows.laid_internal_strconv_uint64pow10), ("unicode/utf8.acceptRanges", Rows.laid_unicode_utf8_acceptRanges), ("strconv.ErrRange", Rows.laid_strconv_ErrRange), ("strconv.ErrSyntax", Rows.laid_strconv_ErrSyntax), ("unicode/utf8.first", Rows.laid_unicode_utf8_first)]
theorem laid_met (os : Os) (args : Array Value) : laidMetH Tryz.prog laidL ((World.laidAll Tryz.prog os laidL).forCall (fun _ _ => 0) ⟨#[], args, []⟩).memory := by
 rw [MakeChecks.laidMetH_plain _ _ _ (by kernel_rfl)]
 exact laidMet_laidAll _ (by kernel_rfl) (by kernel_rfl)
theorem lone_of {W : World} {n : String} {d : DataW Unit} (h : laidMetH Tryz.prog laidL W) (hf : laidL.filter (fun x => x.1 == n) = [(n, d)]) (hp : d.handleName?.isNone = true) :
  ∃ g t cs fuel p, Tryz.prog.globalNamed n = some g ∧ (Tryz.prog.globals[g]?).map (·.type) = some t ∧ W.var? Tryz.prog n = some cs ∧ DataW.trod (fun _ => ()) Tryz.prog W 0 (fun _ => true) false fuel t cs.toList = some (d, p) := by
 have h1 := h.filter (fun x => x.1 == n)
 rw [hf, MakeChecks.laidMetH_plain _ _ _ (by simp [hp])] at h1
 obtain ⟨ps, ⟨g1, t1, cs1, f1, p1, q1, hg1, ht1, hv1, hd1, _, _⟩, _, _⟩ := h1
 exact ⟨g1, t1, cs1, f1, p1, hg1, ht1, hv1, hd1⟩
set_option maxRecDepth 100000 in
theorem table_of {W : World} {n : String} {d : DataW Unit} {g : Nat} {t e : TypeId} {k : IntKind} {l : List Int} (h : laidMetH Tryz.prog laidL W) (hf : laidL.filter (fun x => x.1 == n) = [(n, d)]) (hp : d.handleName?.isNone = true)
  (hg : Tryz.prog.globalNamed n = some g) (ht : (Tryz.prog.globals[g]?).map (·.type) = some t) (hu : Tryz.prog.underlying t = some (.array l.length e)) (he : Tryz.prog.underlying e = some (.int k)) (c1 : Tryz.prog.cellsOf e = 1) (cn : Tryz.prog.cellsOf t = l.length)
  (hl : d = .agg (l.map fun n => DataW.lit (Lit.int k n))) : W.var? Tryz.prog n = some (l.map (Value.int k)).toArray := by
 obtain ⟨g1, t1, cs1, f1, p1, hg1, ht1, hv1, hd1⟩ := lone_of h hf hp
 obtain rfl := Option.some.inj (hg.symm.trans hg1)
 obtain rfl := Option.some.inj (ht.symm.trans ht1)
 obtain ⟨xs, m1, rfl, hx1, hlen, hn3, hel⟩ := DataW.trod_array hu hd1
 simp only [Prod.mk.injEq] at hx1
 have h2 := hl.symm.trans hx1.1
 injection h2 with h2
 rw [hv1]
 congr 1
 apply Array.ext'
 apply List.ext_getElem?
 intro i
 by_cases hi : i < l.length
 ·have h0 := hel i hi
  have hix : i < xs.length := by omega
  rw [List.getElem?_eq_getElem hix] at h0
  obtain ⟨v, e1, e2, _⟩ := DataW.trod_int he h0
  have h3 := congrArg (fun l => l[i]?) h2
  simp only [List.getElem?_map, List.getElem?_eq_getElem hix, List.getElem?_eq_getElem hi, Option.map_some, e2] at h3
  simp only [Option.some.injEq, DataW.lit.injEq, Lit.int.injEq, true_and] at h3
  rw [c1, Nat.mul_one] at e1
  have e3 := congrArg (fun l => l[0]?) e1
  simp only [List.getElem?_take, List.getElem?_drop, Nat.add_zero] at e3
  simp only [List.getElem?_map, List.getElem?_eq_getElem hi, Option.map_some, h3]
  simpa using e3
 ·rw [List.getElem?_eq_none (by omega), List.getElem?_eq_none (by simp; omega)]
set_option maxRecDepth 100000 in
theorem err_of {W : World} {n : String} {d x : DataW Unit} {nm : String} {g : Nat} {t : TypeId} {ms : Array (String × TypeId)} (h : laidMetH Tryz.prog laidL W) (hf : laidL.filter (fun x => x.1 == n) = [(n, d)]) (hp : d.handleName?.isNone = true)
  (hg : Tryz.prog.globalNamed n = some g) (ht : (Tryz.prog.globals[g]?).map (·.type) = some t) (hu : Tryz.prog.underlying t = some (.interface ms)) (hl : d = .iface nm x) : ∃ u v, W.cell? ⟨g, 0, none⟩ = some (.iface u v) := by
 obtain ⟨g1, t1, cs1, f1, p1, hg1, ht1, hv1, hd1⟩ := lone_of h hf hp
 obtain rfl := Option.some.inj (hg.symm.trans hg1)
 obtain rfl := Option.some.inj (ht.symm.trans ht1)
 subst hl
 rw [World.var?_cell hg hv1 0]
 cases f1 with
 | zero => simp [DataW.trod] at hd1
 | succ m =>
  unfold DataW.trod at hd1
  rw [hu] at hd1
  obtain ⟨l⟩ := cs1
  rcases l with _ | ⟨v, _ | ⟨v2, r⟩⟩
  ·simp at hd1
  ·cases v
   case iface u v => exact ⟨u, v, by simp⟩
   all_goals exfalso
   all_goals simp at hd1
  ·exfalso; simp at hd1
set_option maxRecDepth 100000 in
theorem gd_of {W : World} (hs : W.ShapedOpen Tryz.prog) (h : laidMetH Tryz.prog laidL W) : Gd W := by
 have a := table_of (k := .u64) (t := 220) (e := 202) (g := 5) (l := [1, 10, 100, 1000, 10000, 100000, 1000000, 10000000, 100000000, 1000000000, 10000000000, 100000000000, 1000000000000, 10000000000000, 100000000000000, 1000000000000000, 10000000000000000, 100000000000000000, 1000000000000000000, 10000000000000000000]) h (n := "internal/strconv.uint64pow10") rfl rfl (by kernel_rfl) (by kernel_rfl) (by kernel_rfl) (by kernel_rfl) (by kernel_rfl) (by kernel_rfl) rfl
 have b := table_of (k := .u8) (t := 232) (e := 5) (g := 7) (l := tab64) h (n := "math/bits.deBruijn64tab") rfl rfl (by kernel_rfl) (by kernel_rfl) (by kernel_rfl) (by kernel_rfl) (by kernel_rfl) (by kernel_rfl) rfl
 have c := err_of (g := 4) (t := 147) h (n := "strconv.ErrRange") rfl rfl (by kernel_rfl) (by kernel_rfl) Tryz.underlying147 rfl
 have d := err_of (g := 3) (t := 147) h (n := "strconv.ErrSyntax") rfl rfl (by kernel_rfl) (by kernel_rfl) Tryz.underlying147 rfl
 have e : ∃ m, W.cell? ⟨0, 0, none⟩ = some (.int .i64 m) := cell_of_shapedOpen_int (t := 3) (zero := #[.int .i64 0]) hs (Nat.le_of_ble_eq_true (by kernel_rfl)) (by kernel_rfl) rfl (by kernel_rfl) (by kernel_rfl) Tryz.underlying3
 refine ⟨fun i hi => ?_, ⟨?_, e, d, c⟩⟩
 ·have hg : Tryz.prog.globalNamed "math/bits.deBruijn64tab" = some 7 := by kernel_rfl
  rw [World.var?_cell hg b i]
  have hi : i < tab64.length := hi
  simp [List.getD, hi]
 ·have hg : Tryz.prog.globalNamed "internal/strconv.uint64pow10" = some 5 := by kernel_rfl
  unfold World.var? at a
  rw [hg] at a
  exact a
end Go.Proofs.YtfadkjcfjkmalaaGreatDoor
set_option linter.unusedVariables false
set_option linter.unusedSimpArgs false
namespace Go.Proofs.YtfadkjcfjkmalaaGreatDoor
def ch : Nat → Nat → Nat
 | _, 0 => 1
 | 0, _ + 1 => 0
 | n + 1, k + 1 => ch n k + ch n (k + 1)
def ex (s u : Nat) : Nat → Nat → Nat
 | 0, 0 => 1
 | 0, _ + 1 => 0
 | t + 1, 0 => ex s u t 0 * u
 | t + 1, k + 1 => ex s u t (k + 1) * u + ex s u t k * s
theorem gcd_tmod (a b : Int) : Int.gcd b (a.tmod b) = Int.gcd a b := by
 simp only [Int.gcd, Int.natAbs_tmod]
 rw [Nat.gcd_comm b.natAbs, ← Nat.gcd_rec, Nat.gcd_comm]
end Go.Proofs.YtfadkjcfjkmalaaGreatDoor
set_option linter.unusedVariables false
set_option linter.unusedSimpArgs false
namespace Go.Proofs.YtfadkjcfjkmalaaGreatDoor
open Go.RowKit
theorem hid {p : Prop} (h : p) : Hid p := h
def inB (n lo hi : Int) : Bool := decide (lo ≤ n) && decide (n ≤ hi)
theorem inB_true {n lo hi : Int} : inB n lo hi = true ↔ lo ≤ n ∧ n ≤ hi := by simp [inB]
def unl (b : Bool) (n : Int) : Int := if b = true then 0 else n
def firstNZ : List Int → Int
 | [] => 0
 | x :: l => if x = 0 then firstNZ l else x
theorem firstNZ_zero {l : List Int} : firstNZ l = 0 ↔ ∀ x ∈ l, x = 0 := by
 induction l with
 | nil => simp [firstNZ]
 | cons a l ih =>
  simp only [firstNZ]
  split
  ·rename_i h; simp [ih, h]
  ·rename_i h; simp [h]
theorem firstNZ_append_zero {l m : List Int} (h : ∀ x ∈ l, x = 0) : firstNZ (l ++ m) = firstNZ m := by
 induction l with
 | nil => rfl
 | cons a l ih =>
  have ha : a = 0 := h a (by simp)
  simp only [List.cons_append, firstNZ, ha, if_true]
  exact ih fun x hx => h x (by simp [hx])
theorem Below.drewN {B : Nat} {a w : World} (n : Nat) (h : Below B a w) : Below B a (w.drewN n) := ⟨h.os, h.tape, h.output, h.size, h.block⟩
theorem Below_call {w a w1 : World} (h : Below w.heap.size w a) (hb : Below a.heap.size a w1) : Below w.heap.size w w1 := h.trans (hb.mono h.size)
theorem Below_alloc {w w' : World} (h : Below w.heap.size w w') (o : Obj) : Below w.heap.size w (w'.alloc o) := h.alloc h.size o
def SlAt (w : World) (v : Value) (n sz : Nat) (c : Nat → Nat → Value) : Prop :=
 ∃ ao cap, v = .slice ao n cap ∧ n ≤ cap ∧ cap ≤ maxLen ∧
  (0 < n → ∃ b off, ao = some ⟨b, off, none⟩ ∧ b < w.heap.size ∧ ∀ i j, i < n → j < sz → w.cell? ⟨b, off + i * sz + j, none⟩ = some (c i j)) ∧ (ao = none → cap = 0)
theorem SlAt.below {w w' : World} {v : Value} {n sz : Nat} {c : Nat → Nat → Value} (h : SlAt w v n sz c) (hb : Below w.heap.size w w') : SlAt w' v n sz c := by
 obtain ⟨ao, cap, rfl, h1, h2, h3, h4⟩ := h
 refine ⟨ao, cap, rfl, h1, h2, fun h0 => ?_, h4⟩
 obtain ⟨b, off, e, hlt, hc⟩ := h3 h0
 exact ⟨b, off, e, Nat.lt_of_lt_of_le hlt hb.size, fun i j hi hj => (hb.cell (p := ⟨b, _, none⟩) hlt).trans (hc i j hi hj)⟩
def IntsAt (w : World) (v : Value) (l : List Int) : Prop := SlAt w v l.length 1 (fun i _ => .int .i64 (l.getD i 0))
theorem IntsAt.below {w w' : World} {v : Value} {l : List Int} (h : IntsAt w v l) (hb : Below w.heap.size w w') : IntsAt w' v l := SlAt.below h hb
theorem IntsAt.open {w : World} {v : Value} {l : List Int} (h : IntsAt w v l) : ∃ ao cap, v = .slice ao l.length cap ∧ l.length ≤ cap ∧ cap ≤ maxLen ∧
  ∀ k, k < l.length → ∃ b off, ao = some ⟨b, off, none⟩ ∧ b < w.heap.size ∧ ∀ i, i < l.length → w.cell? ⟨b, off + i, none⟩ = some (.int .i64 (l.getD i 0)) := by
 obtain ⟨ao, cap, rfl, h1, h2, h3, _⟩ := h
 refine ⟨ao, cap, rfl, h1, h2, fun k hk => ?_⟩
 obtain ⟨b, off, e, hlt, hc⟩ := h3 (by omega)
 exact ⟨b, off, e, hlt, fun i hi => by simpa using hc i 0 hi (by omega)⟩
def nth (l : List Int) (i : Nat) : Int := l.getD i 0
theorem IntsAt.opn {w : World} {v : Value} {l : List Int} (h : IntsAt w v l) : ∃ ao cap, v = .slice ao l.length cap ∧ l.length ≤ cap ∧ cap ≤ maxLen ∧
  ∀ k, k < l.length → ∃ b off, ao = some ⟨b, off, none⟩ ∧ b < w.heap.size ∧ ∀ i, i < l.length → w.cell? ⟨b, off + i, none⟩ = some (.int .i64 (nth l i)) := h.open
theorem IntsAt.nil (w : World) : IntsAt w (.slice none 0 0) [] := ⟨none, 0, rfl, by simp, by simp, fun h => by simp at h, fun _ => rfl⟩
theorem ownsRow_base {w : World} {base base' : Nat} {e : TypeId} {size : Nat} {v : Value} {n : Nat} {xs : List Value} (h : w.ownsRow base e size v n xs) (hb : base' ≤ base) : w.ownsRow base' e size v n xs := by
 refine ⟨h.1, ?_⟩
 rcases h.2 with h2 | ⟨g, cap, cur, hv, hg, r⟩
 ·exact Or.inl h2
 ·exact Or.inr ⟨g, cap, cur, hv, Nat.le_trans hb hg, r⟩
theorem intsAt_new (w : World) (e : TypeId) (l : List Int) (n N : Nat) (hn : n = l.length) (hm : n ≤ 1000) (hN : w.heap.size = N) : IntsAt (w.alloc (.cells (l.map (Value.int .i64)).toArray e)) (.slice (some ⟨N, 0, none⟩) n n) l := by
 subst hn; subst hN
 refine ⟨_, _, rfl, Nat.le_refl _, by unfold maxLen; omega, fun _ => ⟨_, 0, rfl, by simp, fun i j hi hj => ?_⟩, fun h => by cases h⟩
 obtain rfl : j = 0 := by omega
 rw [cell_of_row (w.alloc _) w.heap.size _ _ e (0, 0) (heap_alloc_new w _)]
 simp [hi, List.getD]
theorem ret_int {k : IntKind} {a b : Int} (h : a = b) : Ending.returned (.int k a) = .returned (.int k b) := by rw [h]
end Go.Proofs.YtfadkjcfjkmalaaGreatDoor
set_option linter.unusedVariables false
set_option linter.unusedSimpArgs false
namespace Go.Proofs.YtfadkjcfjkmalaaGreatDoor.Ev
open Go.RowKit
def All2 {α β : Type} (R : α → β → Prop) : List α → List β → Prop
 | [], [] => True
 | a :: l, b :: m => R a b ∧ All2 R l m
 | _, _ => False
namespace All2
variable {α β γ : Type} {R R' : α → β → Prop}
theorem length : ∀ {l : List α} {m : List β}, All2 R l m → l.length = m.length
 | [], [], _ => rfl
 | _ :: _, _ :: _, h => by simp [length h.2]
 | [], _ :: _, h => h.elim
 | _ :: _, [], h => h.elim
theorem mono (hm : ∀ a b, R a b → R' a b) : ∀ {l : List α} {m : List β}, All2 R l m → All2 R' l m
 | [], [], _ => trivial
 | _ :: _, _ :: _, h => ⟨hm _ _ h.1, mono hm h.2⟩
 | [], _ :: _, h => h.elim
 | _ :: _, [], h => h.elim
theorem get : ∀ {l : List α} {m : List β} {i : Nat} {a : α}, All2 R l m → l[i]? = some a → ∃ b, m[i]? = some b ∧ R a b
 | [], [], _, _, _, h => by simp at h
 | x :: l, y :: m, 0, a, h, e => by
  simp at e; subst e; exact ⟨y, by simp, h.1⟩
 | x :: l, y :: m, i + 1, a, h, e => by
  simp at e; obtain ⟨b, h1, h2⟩ := get h.2 e; exact ⟨b, by simpa using h1, h2⟩
 | [], _ :: _, _, _, h, _ => h.elim
 | _ :: _, [], _, _, h, _ => h.elim
theorem append : ∀ {l : List α} {m : List β} {l' : List α} {m' : List β}, All2 R l m → All2 R l' m' → All2 R (l ++ l') (m ++ m')
 | [], [], _, _, _, h => h
 | _ :: _, _ :: _, _, _, h, h' => ⟨h.1, append h.2 h'⟩
 | [], _ :: _, _, _, h, _ => h.elim
 | _ :: _, [], _, _, h, _ => h.elim
theorem set : ∀ {l : List α} {m : List β} {i : Nat} {a : α} {b : β}, All2 R l m → R a b → All2 R (l.set i a) (m.set i b)
 | [], [], _, _, _, _, _ => trivial
 | _ :: _, _ :: _, 0, _, _, h, hr => ⟨hr, h.2⟩
 | _ :: _, _ :: _, i + 1, _, _, h, hr => ⟨h.1, set h.2 hr⟩
 | [], _ :: _, _, _, _, h, _ => h.elim
 | _ :: _, [], _, _, _, h, _ => h.elim
theorem drop : ∀ {l : List α} {m : List β} (i : Nat), All2 R l m → All2 R (l.drop i) (m.drop i)
 | _, _, 0, h => h
 | [], [], _ + 1, _ => trivial
 | _ :: _, _ :: _, i + 1, h => drop i h.2
 | [], _ :: _, _, h => h.elim
 | _ :: _, [], _, h => h.elim
theorem take : ∀ {l : List α} {m : List β} (i : Nat), All2 R l m → All2 R (l.take i) (m.take i)
 | _, _, 0, _ => trivial
 | [], [], _ + 1, _ => trivial
 | _ :: _, _ :: _, i + 1, h => ⟨h.1, take i h.2⟩
 | [], _ :: _, _, h => h.elim
 | _ :: _, [], _, h => h.elim
theorem map_left {f : γ → α} : ∀ {l : List γ} {m : List β}, All2 (fun c b => R (f c) b) l m → All2 R (l.map f) m
 | [], [], _ => trivial
 | _ :: _, _ :: _, h => ⟨h.1, map_left h.2⟩
 | [], _ :: _, h => h.elim
 | _ :: _, [], h => h.elim
theorem of_get : ∀ {l : List α} {m : List β}, l.length = m.length → (∀ (i : Nat) (a : α) (b : β), l[i]? = some a → m[i]? = some b → R a b) → All2 R l m
 | [], [], _, _ => trivial
 | a :: l, b :: m, h, hr => ⟨hr 0 a b rfl rfl, of_get (by simpa using h) fun i a b h1 h2 => hr (i + 1) a b (by simpa using h1) (by simpa using h2)⟩
 | [], _ :: _, h, _ => by simp at h
 | _ :: _, [], h, _ => by simp at h
theorem all_right {p : β → Prop} (hp : ∀ a b, R a b → p b) : ∀ {l : List α} {m : List β}, All2 R l m → ∀ b ∈ m, p b
 | [], [], _, b, hb => by simp at hb
 | _ :: _, _ :: _, h, b, hb => by
  rcases List.mem_cons.1 hb with rfl | hb
  ·exact hp _ _ h.1
  ·exact all_right hp h.2 b hb
 | [], _ :: _, h, _, _ => h.elim
 | _ :: _, [], h, _, _ => h.elim
end All2
inductive CV where
 | v (x : Value)
 | sl (sz n : Nat) (c : Nat → Nat → CV)
 | px (n off : Nat) (c : Nat → CV)
 | os (k : Nat)
 | p (k off : Nat)
 | pe (k i sz off : Nat)
 | ob (k off sz n : Nat)
 | er (b : Bool)
 | any
inductive TV where
 | c (x : CV)
 | a (l : List CV)
 | fn (f : FuncId) (l : List CV)
 | fb (f : FuncId) (l : List CV)
inductive DV where
 | t (x : TV)
 | tu (l : List TV)
inductive Row where
 | box (ty : TypeId) (c : List CV)
 | gen (ty : TypeId) (sz : Nat) (l : List (List CV))
 | num (ty : TypeId) (k : IntKind) (l : List Int)
 | dead
structure DS where
 t : List (Option DV)
 h : List (Option Row)
inductive Loc where
 | box (b : Nat)
 | row (v : Value)
def Loc.block : Loc → Option Nat
 | .box b => some b
 | .row v => v.ownBlock
def RelF (w : World) (N : Nat → Prop) : CV → Value → Prop
 | .v x, v => v = x ∧ v.oneCell' = true
 | .sl sz n c, v => ∃ ao cap, v = .slice ao n cap ∧ n ≤ cap ∧ cap ≤ maxLen ∧ (ao = none → cap = 0) ∧
   (0 < n → ∃ b off, ao = some ⟨b, off, none⟩ ∧ b < w.heap.size ∧ N b ∧ ∀ i j, i < n → j < sz → ∃ x, w.cell? ⟨b, off + i * sz + j, none⟩ = some x ∧ RelF w N (c i j) x)
 | .px n off c, v => ∃ b o, v = .pointer (some ⟨b, o + off, none⟩) ∧ b < w.heap.size ∧ N b ∧ ∀ j, j < n → ∃ x, w.cell? ⟨b, o + j, none⟩ = some x ∧ RelF w N (c j) x
 | .er b, v => (b = true ∧ v = .nilIface) ∨ (b = false ∧ ∃ t p, v = .iface t p)
 | .any, v => v.oneCell' = true
 | _, _ => False
theorem RelF.mono {w w' : World} {N N' : Nat → Prop} (hs : w.heap.size ≤ w'.heap.size) (hc : ∀ b, N b → b < w.heap.size → ∀ off, w'.cell? ⟨b, off, none⟩ = w.cell? ⟨b, off, none⟩) (hN : ∀ b, N b → b < w.heap.size → N' b) :
  ∀ (x : CV) {v : Value}, RelF w N x v → RelF w' N' x v
 | .v x, v, h => h
 | .sl sz n c, v, h => by
  obtain ⟨ao, cap, h1, h2, h3, h4, h5⟩ := h
  refine ⟨ao, cap, h1, h2, h3, h4, fun h0 => ?_⟩
  obtain ⟨b, off, g1, g2, g3, g4⟩ := h5 h0
  refine ⟨b, off, g1, Nat.lt_of_lt_of_le g2 hs, hN b g3 g2, fun i j hi hj => ?_⟩
  obtain ⟨x, e1, e2⟩ := g4 i j hi hj
  exact ⟨x, (hc b g3 g2 _).trans e1, RelF.mono hs hc hN (c i j) e2⟩
 | .px n off c, v, h => by
  obtain ⟨b, o, g1, g2, g3, g4⟩ := h
  refine ⟨b, o, g1, Nat.lt_of_lt_of_le g2 hs, hN b g3 g2, fun j hj => ?_⟩
  obtain ⟨x, e1, e2⟩ := g4 j hj
  exact ⟨x, (hc b g3 g2 _).trans e1, RelF.mono hs hc hN (c j) e2⟩
 | .er _, _, h => h
 | .any, _, h => h
 | .os _, _, h => h.elim
 | .p _ _, _, h => h.elim
 | .pe _ _ _ _, _, h => h.elim
 | .ob _ _ _ _, _, h => h.elim
theorem RelF.one {w : World} {N : Nat → Prop} : ∀ {x : CV} {v : Value}, RelF w N x v → v.oneCell' = true
 | .v x, v, h => h.2
 | .sl sz n c, v, h => by obtain ⟨ao, cap, rfl, _⟩ := h; rfl
 | .px n off c, v, h => by obtain ⟨b, o, rfl, _⟩ := h; rfl
 | .er _, v, h => by rcases h with ⟨_, rfl⟩ | ⟨_, _, _, rfl⟩ <;> rfl
 | .any, _, h => h
 | .os _, _, h => h.elim
 | .p _ _, _, h => h.elim
 | .pe _ _ _ _, _, h => h.elim
 | .ob _ _ _ _, _, h => h.elim
@[reducible] def Map := Nat → Option Loc
def RelC (w : World) (N : Nat → Prop) (M : Map) : CV → Value → Prop
 | .os k, v => M k = some (.row v) ∧ (v = .slice none 0 0 ∨ ∃ b n cap, v = .slice (some ⟨b, 0, none⟩) n cap)
 | .p k off, v => ∃ b, M k = some (.box b) ∧ v = .pointer (some ⟨b, off, none⟩)
 | .pe k i sz off, v => ∃ b n cap, M k = some (.row (.slice (some ⟨b, 0, none⟩) n cap)) ∧ v = .pointer (some ⟨b, i * sz + off, none⟩)
 | .ob k off sz n, v => (∃ b cap, M k = some (.box b) ∧ v = .slice (some ⟨b, off, none⟩) n cap ∧ n ≤ cap ∧ cap ≤ maxLen) ∨
   ∃ b c o cap, M k = some (.row (.slice (some ⟨b, 0, none⟩) (off + n) c)) ∧ (0 < n → o = off) ∧ v = .slice (some ⟨b, o, none⟩) n cap ∧ n ≤ cap ∧ cap ≤ maxLen
 | .v x, v => RelF w N (.v x) v
 | .sl sz n c, v => RelF w N (.sl sz n c) v
 | .px n off c, v => RelF w N (.px n off c) v
 | .er b, v => RelF w N (.er b) v
 | .any, v => RelF w N .any v
theorem RelC.one {w : World} {N : Nat → Prop} {M : Map} : ∀ {x : CV} {v : Value}, RelC w N M x v → v.oneCell' = true
 | .v x, v, h => RelF.one h
 | .sl sz n c, v, h => RelF.one h
 | .px n off c, v, h => RelF.one h
 | .er _, v, h => RelF.one h
 | .any, v, h => RelF.one h
 | .os _, _, h => by obtain ⟨_, rfl | ⟨_, _, _, rfl⟩⟩ := h <;> rfl
 | .p _ _, _, h => by obtain ⟨_, _, rfl⟩ := h; rfl
 | .pe _ _ _ _, _, h => by obtain ⟨_, _, _, _, rfl⟩ := h; rfl
 | .ob _ _ _ _, _, h => by rcases h with ⟨_, _, _, rfl, _⟩ | ⟨_, _, _, _, _, _, rfl, _⟩ <;> rfl
theorem RelC.ofF {w : World} {N : Nat → Prop} {M : Map} : ∀ {x : CV} {v : Value}, RelF w N x v → RelC w N M x v
 | .v x, v, h => h
 | .sl sz n c, v, h => h
 | .px n off c, v, h => h
 | .er _, v, h => h
 | .any, v, h => h
 | .os _, _, h => h.elim
 | .p _ _, _, h => h.elim
 | .pe _ _ _ _, _, h => h.elim
 | .ob _ _ _ _, _, h => h.elim
def RelT (R : CV → Value → Prop) : TV → Value → Prop
 | .c x, v => R x v
 | .a l, v => ∃ vs : List Value, v = .agg vs.toArray ∧ All2 R l vs
 | .fn f l, v => ∃ vs : List Value, v = .func (.func f) #[] vs.toArray ∧ All2 R l vs
 | .fb f l, v => ∃ vs : List Value, v = .func (.func f) #[.agg vs.toArray] #[] ∧ All2 R l vs
def RelD (R : CV → Value → Prop) : DV → Value → Prop
 | .t x, v => RelT R x v
 | .tu l, v => ∃ vs : List Value, v = .tuple vs.toArray ∧ All2 (RelT R) l vs
theorem RelT.mono {R R' : CV → Value → Prop} (h : ∀ x v, R x v → R' x v) : ∀ {x : TV} {v : Value}, RelT R x v → RelT R' x v
 | .c _, _, g => h _ _ g
 | .a _, _, ⟨vs, e, g⟩ => ⟨vs, e, g.mono h⟩
 | .fn _ _, _, ⟨vs, e, g⟩ => ⟨vs, e, g.mono h⟩
 | .fb _ _, _, ⟨vs, e, g⟩ => ⟨vs, e, g.mono h⟩
theorem RelD.mono {R R' : CV → Value → Prop} (h : ∀ x v, R x v → R' x v) : ∀ {x : DV} {v : Value}, RelD R x v → RelD R' x v
 | .t _, _, g => RelT.mono h g
 | .tu _, _, ⟨vs, e, g⟩ => ⟨vs, e, g.mono fun _ _ => RelT.mono h⟩
def RelR (w : World) (base : Nat) (N : Nat → Prop) (M : Map) (k : Nat) : Row → Prop
 | .box ty c => ∃ b cs, M k = some (.box b) ∧ w.heap[b]? = some (.cells cs ty (0, 0)) ∧ All2 (RelC w N M) c cs.toList
 | .gen ty sz l => ∃ v xs, M k = some (.row v) ∧ w.ownsRow base ty sz v l.length xs ∧ (∀ e ∈ l, e.length = sz) ∧ All2 (RelF w N) l.flatten xs
 | .num ty kd l => ∃ v, M k = some (.row v) ∧ w.ownsRow base ty 1 v l.length (l.map (Value.int kd))
 | .dead => True
def Row.alive : Row → Bool
 | .dead => false
 | _ => true
def DS.at (st : DS) (k : Nat) : Option Row := (st.h[k]?).join
def DS.tm (st : DS) (i : Nat) : Option DV := (st.t[i]?).join
def fgn (w0 : World) (N0 : Nat → Prop) (M : Map) (b : Nat) : Prop := (b < w0.heap.size → N0 b) ∧ ∀ k l, M k = some l → l.block ≠ some b
def nown (M : Map) (b : Nat) : Prop := ∀ k l, M k = some l → l.block ≠ some b
structure Pins where
 blk : Nat → Obj → Prop
 non : Nat → Prop
 key : Nat → Option Loc
 lim : Nat
def Marks (w0 : World) (M : Map) (w : World) (l : List Deferred) : Prop := (∀ d ∈ l, ∃ D, d = { target := .collected D, args := #[] } ∧ w0.heap.size ≤ D ∧ w.heap[D]? = some (.deferred (some [])) ∧ nown M D) ∧ l.Pairwise (· ≠ ·) ∧ Gd w0
theorem Marks.nil {w0 : World} {M : Map} {w : World} (hG : Gd w0) : Marks w0 M w [] := ⟨fun d h => by simp at h, List.Pairwise.nil, hG⟩
theorem Marks.mono {w0 : World} {M M' : Map} {w w' : World} {l : List Deferred} (h : Marks w0 M w l) (hb : ∀ b, nown M b → b < w.heap.size → w'.heap[b]? = w.heap[b]? ∧ nown M' b) : Marks w0 M' w' l :=
 ⟨fun d hd => by
  obtain ⟨D, h1, h2, h3, h4⟩ := h.1 d hd
  obtain ⟨g1, g2⟩ := hb D h4 (Array.getElem?_eq_some_iff.1 h3).1
  exact ⟨D, h1, h2, g1.trans h3, g2⟩, h.2⟩
def noPins : Pins := ⟨fun _ _ => False, fun _ => False, fun _ => none, 0⟩
structure Abs (w0 : World) (N0 : Nat → Prop) (Z : Pins) (M : Map) (st : DS) (a : Act) (w : World) : Prop where
 below : Below w0.heap.size w0 w
 fits : a.tmps.size = st.t.length
 defs : Marks w0 M w a.defers
 tmp : ∀ i dv, st.tm i = some dv → ∃ v, a.tmps[i]? = some v ∧ RelD (RelC w (fgn w0 N0 M) M) dv v
 row : ∀ k r, st.at k = some r → RelR w w0.heap.size (fgn w0 N0 M) M k r
 dom : ∀ k, st.at k = none → M k = none
 own : ∀ k l b, M k = some l → l.block = some b → w0.heap.size ≤ b ∧ b < w.heap.size
 apart : ∀ k k' r r' l l' b, st.at k = some r → r.alive = true → st.at k' = some r' → r'.alive = true → M k = some l → M k' = some l' → l.block = some b → l'.block = some b → k = k'
 pinB : ∀ b o, Z.blk b o → w.heap[b]? = some o ∧ nown M b
 pinN : ∀ b, Z.non b → b < w.heap.size ∧ nown M b
 pinK : ∀ k l, Z.key k = some l → M k = some l
 lim : ∀ d ∈ a.defers, ∀ D, d = { target := .collected D, args := #[] } → Z.lim ≤ D
theorem Abs.gd {w0 : World} {N0 : Nat → Prop} {Z : Pins} {M : Map} {st : DS} {a : Act} {w : World} (ha : Abs w0 N0 Z M st a w) : Gd w := ha.defs.2.2.below ha.below
end Go.Proofs.YtfadkjcfjkmalaaGreatDoor.Ev
set_option linter.unusedVariables false
set_option linter.unusedSimpArgs false
namespace Go.Proofs.YtfadkjcfjkmalaaGreatDoor.Ev
open Go.RowKit
inductive Sh where
 | st (fs : List (Nat × TypeId))
 | ar (n : Nat) (e : TypeId)
 | sl (e : TypeId)
 | nm (k : IntKind)
 | str
 | bl
 | oth
def Sh.agg : Sh → Bool
 | .st _ | .ar _ _ => true
 | _ => false
structure TyI where
 sh : Sh
 size : Nat
 bytes : Nat
 zero : List Value
 eqok : Bool
@[reducible] def Tab := TypeId → Option TyI
def shOf : TypeDesc → Sh
 | .struct fs => .st (fs.toList.map fun f => (f.offset, f.type))
 | .array n e => .ar n e
 | .slice e => .sl e
 | .int k => .nm k
 | .string => .str
 | .bool => .bl
 | _ => .oth
structure TyOK (P : Program) (t : TypeId) (i : TyI) : Prop where
 und : (P.underlying t).map shOf = some i.sh
 info : (P.info? t).map (fun x => (x.size, x.bytes)) = some (i.size, i.bytes)
 zero : ((P.info? t).bind (·.zero)).map (·.cells.toList) = some i.zero
 eq : i.eqok = true → P.stoodInHeld t = false ∧ P.eqGuardType P.depth t = false ∧ (P.fieldsOf t).toList.all (fun f => f.name != "_") = true
def TabOK (P : Program) (T : Tab) : Prop := ∀ t i, T t = some i → TyOK P t i
def pureRun (P : Program) {α : Type} : Sem α → Option α
 | .pure a => some a
 | .program k => pureRun P (k P)
 | .mark _ k => pureRun P k
 | _ => none
theorem pureRun_run {P : Program} {α : Type} : ∀ (s : Sem α) {a : α}, pureRun P s = some a → ∀ w, s.run P w = .ok a w
 | .pure a, b, h, w => by simp only [pureRun, Option.some.injEq] at h; subst h; rfl
 | .program k, b, h, w => by simp only [pureRun] at h; exact pureRun_run (k P) h w
 | .mark _ k, b, h, w => by simp only [pureRun] at h; exact pureRun_run k h w
 | .load .., _, h, _ | .store .., _, h, _ | .new .., _, h, _ | .shape .., _, h, _ | .freeze .., _, h, _ | .frozen .., _, h, _ | .getObj .., _, h, _ | .setObj .., _, h, _
 | .choose .., _, h, _ | .sys .., _, h, _ | .halt .., _, h, _ => by simp [pureRun] at h
def allV : List CV → Option (List Value)
 | [] => some []
 | .v x :: l => (allV l).map (x :: ·)
 | _ :: _ => none
def toValue : DV → Option Value
 | .t (.c (.v x)) => some x
 | .t (.a l) => (allV l).map fun vs => .agg vs.toArray
 | _ => none
def roomP (bytes n : Nat) : Prop := n * bytes ≤ 140737488355328 ∧ n ≤ maxLen
def oneAll : List Value → Bool
 | [] => true
 | x :: l => x.oneCell' && oneAll l
def ofValue : Value → Option DV
 | .agg cs => bif oneAll cs.toList then some (.t (.a (cs.toList.map CV.v))) else none
 | .tuple _ => none
 | x => some (.t (.c (.v x)))
def opv (st : DS) : Operand → Option DV
 | .tmp i => st.tm i
 | .const (.func (.func f) first caps) => none
 | .const x => ofValue x
 | .func f => some (.t (.fn f []))
 | .global _ => none
def opvs (st : DS) : List Operand → Option (List DV)
 | [] => some []
 | x :: l => match opv st x, opvs st l with
  | some d, some ds => some (d :: ds)
  | _, _ => none
def DS.rd (st : DS) (forb : Nat → Bool) (k : Nat) : Option Row := bif forb k then none else st.at k
def cellsOf : DV → Option (List CV)
 | .t (.c x) => some [x]
 | .t (.a l) => some l
 | _ => none
def numsC (kd : IntKind) (l : List Int) : Nat → Nat → CV := fun i _ => .v (.int kd (l.getD i 0))
def genC (l : List (List CV)) : Nat → Nat → CV := fun i j => (l.getD i []).getD j (.v (.bool false))
def boxC (l : List CV) : Nat → CV := fun j => l.getD j (.v (.bool false))
def cvInt : CV → Int
 | .v (.int _ n) => n
 | _ => 0
def isF : CV → Bool
 | .v _ | .sl _ _ _ | .px _ _ _ | .er _ | .any => true
 | _ => false
def allF : List CV → Bool
 | [] => true
 | x :: l => isF x && allF l
def toF (st : DS) (forb : Nat → Bool) : CV → Option CV
 | .os k => match st.rd forb k with
  | some (.gen _ sz l) => some (.sl sz l.length (genC l))
  | some (.num _ kd l) => some (.sl 1 l.length (numsC kd l))
  | _ => none
 | .p k off => match st.rd forb k with
  | some (.box _ c) => bif allF c then some (.px c.length off (boxC c)) else none
  | _ => none
 | .pe _ _ _ _ => none
 | .ob k off sz n => match st.rd forb k with
  | some (.box _ c) => bif allF c && Nat.ble (off + n * sz) c.length then some (.sl sz n (fun i j => boxC c (off + i * sz + j))) else none
  | some (.num _ kd l) => bif Nat.beq 1 sz then some (.sl 1 n (fun i j => numsC kd l (off + i) j)) else none
  | _ => none
 | x => some x
def toFs (st : DS) (forb : Nat → Bool) : List CV → Option (List CV)
 | [] => some []
 | x :: l => match toF st forb x, toFs st forb l with
  | some d, some ds => some (d :: ds)
  | _, _ => none
def toFT (st : DS) (forb : Nat → Bool) : TV → Option TV
 | .c x => (toF st forb x).map .c
 | .a l => (toFs st forb l).map .a
 | .fn f l => (toFs st forb l).map (.fn f)
 | .fb f l => (toFs st forb l).map (.fb f)
def toFTs (st : DS) (forb : Nat → Bool) : List TV → Option (List TV)
 | [] => some []
 | x :: l => match toFT st forb x, toFTs st forb l with
  | some d, some ds => some (d :: ds)
  | _, _ => none
def toFD (st : DS) (forb : Nat → Bool) : DV → Option DV
 | .t x => (toFT st forb x).map .t
 | .tu l => (toFTs st forb l).map .tu
def toFDs (st : DS) (forb : Nat → Bool) : List DV → Option (List DV)
 | [] => some []
 | x :: l => match toFD st forb x, toFDs st forb l with
  | some d, some ds => some (d :: ds)
  | _, _ => none
def ownT : TV → Bool
 | .c x => !isF x
 | .a l => !allF l
 | .fn _ l => !allF l
 | .fb _ l => !allF l
def ownTs : List TV → Bool
 | [] => false
 | x :: l => ownT x || ownTs l
def ownD : DV → Bool
 | .t x => ownT x
 | .tu l => ownTs l
def ownDs : List DV → Bool
 | [] => false
 | x :: l => ownD x || ownDs l
def flatC : CV → Bool
 | .v _ => true
 | _ => false
def flatCs : List CV → Bool
 | [] => true
 | x :: l => flatC x && flatCs l
def flatT : TV → Bool
 | .c x => flatC x
 | .a l => flatCs l
 | .fn _ l => flatCs l
 | .fb _ l => flatCs l
def flatTs : List TV → Bool
 | [] => true
 | x :: l => flatT x && flatTs l
def flatD : DV → Bool
 | .t x => flatT x
 | .tu l => flatTs l
def anyT : TV → Bool
 | .c .any => true
 | x => flatT x
def anyTs : List TV → Bool
 | [] => true
 | x :: l => anyT x && anyTs l
def flatA : DV → Bool
 | .t x => anyT x
 | .tu l => anyTs l
def okP : Option Prop → Prop
 | none => True
 | some p => p
inductive Fre where
 | no
 | new
 | own (r : Row)
 | wr (j ty : Nat) (cs : List CV)
 | clo (ty : Nat) (c : List CV)
 | wrs (tya ty : Nat) (cs : List CV)
instance : Coe Bool Fre := ⟨fun b => bif b then .new else .no⟩
def resN (W : World) (N : Nat → Prop) (fresh : Fre) (b : Nat) : Prop := (fresh = .no ∧ N b) ∨ W.heap.size ≤ b
def box1 (b : Nat) : Map := fun k => if k = 0 then some (.box b) else none
def own1 (v : Value) : Map := fun k => if k = 0 then some (.row v) else none
def nb (W : World) (u : Value) (b : Nat) : Prop := W.heap.size ≤ b ∧ u.ownBlock ≠ some b
def RetOk (W : World) (N : Nat → Prop) (w' : World) (r : DV) (v : Value) : Fre → Prop
 | .own R => ∃ u, RelD (RelC w' (nb W u) (own1 u)) r v ∧ RelR w' W.heap.size (fun _ => False) (own1 u) 0 R
 | .clo ty c => ∃ b cs, W.heap.size ≤ b ∧ w'.heap[b]? = some (.cells cs ty (0, 0)) ∧ All2 (RelF w' (fun _ => False)) c cs.toList ∧ RelD (RelC w' (fun b' => W.heap.size ≤ b' ∧ b' ≠ b) (box1 b)) r v
 | .no => RelD (RelF w' (resN W N .no)) r v
 | .new => RelD (RelF w' (resN W N .new)) r v
 | .wr _ _ cs => flatD r = true ∧ flatCs cs = true ∧ RelD (RelF w' (fun _ => False)) r v
 | .wrs _ _ cs => flatD r = true ∧ flatCs cs = true ∧ RelD (RelF w' (fun _ => False)) r v
def cutW (W : World) (B : Nat) : World := { W with heap := W.heap.extract 0 B }
theorem cutW_size {W : World} {B : Nat} (h : B < W.heap.size) : (cutW W B).heap.size = B := by
 simp [cutW]; omega
structure FrameB (W : World) (B : Nat) (w' : World) : Prop where
 os : w'.os = W.os
 tape : w'.tape = W.tape
 output : w'.output = W.output
 size : W.heap.size ≤ w'.heap.size
 block : ∀ b, b < W.heap.size → b ≠ B → w'.heap[b]? = W.heap[b]?
def CallOk (W : World) (N : Nat → Prop) (args : List DV) (vs : List Value) : Fre → Prop
 | .wr j ty cs => All2 (RelD (RelF W (fun _ => True))) args vs ∧ ∃ B cells, vs[j]? = some (.pointer (some ⟨B, 0, none⟩)) ∧ W.heap[B]? = some (.cells cells ty (0, 0)) ∧ (∃ c, args[j]? = some (.t (.c (.px cells.size 0 c)))) ∧ (∀ i a v, i ≠ j → args[i]? = some a → vs[i]? = some v → RelD (RelF W (fun b => N b ∧ b ≠ B)) a v) ∧ Gd (cutW W B)
 | .wrs tya ty cs => ∃ x n c v0 A cap pc B cells, args = [x, .t (.c (.px n 0 c))] ∧ vs = [v0, .slice (some ⟨A, 0, none⟩) n cap] ∧ n ≤ cap ∧ cap ≤ maxLen ∧ 0 < n ∧ A ≠ B ∧
   W.heap[A]? = some (.cells pc tya (0, 0)) ∧ pc.toList = (List.range n).map (fun i => Value.pointer (some ⟨B, i, none⟩)) ∧ W.heap[B]? = some (.cells cells ty (0, 0)) ∧ All2 (RelF W (fun _ => True)) ((List.range n).map c) cells.toList ∧ RelD (RelF W (fun b => N b ∧ b ≠ A ∧ b ≠ B)) x v0 ∧ Gd (cutW W (min A B))
 | _ => All2 (RelD (RelF W N)) args vs
def FrameOk (W : World) (vs : List Value) (w' : World) : Fre → Prop
 | .wr j ty cs => ∃ B cells', vs[j]? = some (.pointer (some ⟨B, 0, none⟩)) ∧ w'.heap[B]? = some (.cells cells' ty (0, 0)) ∧ All2 (RelF w' (fun _ => False)) cs cells'.toList ∧ FrameB W B w'
 | .wrs tya ty cs => ∃ A n cap pc B cells', vs[1]? = some (.slice (some ⟨A, 0, none⟩) n cap) ∧ W.heap[A]? = some (.cells pc tya (0, 0)) ∧ pc[0]? = some (.pointer (some ⟨B, 0, none⟩)) ∧ w'.heap[B]? = some (.cells cells' ty (0, 0)) ∧ All2 (RelF w' (fun _ => False)) cs cells'.toList ∧ FrameB W B w'
 | _ => Below W.heap.size W w'
@[reducible] def Sum := FuncId → List DV → Option (DV × Option Prop × Fre)
def Enters (P : Program) (f : FuncId) : Prop := ∀ args w, (callFunc f args).run P w = .ok (.enter f args) w
def Valid (P : Program) (S : Sum) : Prop := ∀ f args r pre fresh, S f args = some (r, pre, fresh) → okP pre → Enters P f ∧ ∀ (W : World) (N : Nat → Prop) (vs : List Value), Gd W → CallOk W N args vs fresh →
  Calls P f vs.toArray W fun e w' => ∃ v, e = .returned v ∧ RetOk W N w' r v fresh ∧ FrameOk W vs w' fresh
structure Eff where
 v : DV
 up : List (Nat × Row)
 pr : Option Prop
def Eff.pre (e : Eff) : Prop := okP e.pr
def val (v : DV) : Eff := ⟨v, [], none⟩
def dInt (k : IntKind) (n : Int) : DV := .t (.c (.v (.int k n)))
def dI (n : Int) : DV := .t (.c (.v (.int .i64 n)))
def dB (b : Bool) : DV := .t (.c (.v (.bool b)))
def noV : DV := .tu []
def pickE (b : Bool) : Option DV → Option DV → Option Eff
 | some (.t (.c (.v (.bool x)))), some (.t (.c (.v (.bool y)))) => some (val (dB (bif b then x else y)))
 | some d, some (.tu []) => some ⟨d, [], some (b = true)⟩
 | some (.tu []), some d => some ⟨d, [], some (b = false)⟩
 | _, _ => none
def sub (l : List CV) (off n : Nat) : List CV := (l.drop off).take n
def put (l : List CV) (off : Nat) (xs : List CV) : List CV := l.take off ++ xs ++ l.drop (off + xs.length)
def loadL (i : TyI) (c : List CV) (off : Nat) : Option Eff :=
 bif i.sh.agg then (bif Nat.ble (off + i.size) c.length then some (val (.t (.a (sub c off i.size)))) else none)
 else (c[off]?).map fun x => val (.t (.c x))
def fwd (c : Nat → CV) (off : Nat) : Nat → List CV
 | 0 => []
 | n + 1 => c off :: fwd c (off + 1) n
def loadF (i : TyI) (n : Nat) (c : Nat → CV) (off : Nat) : Option Eff :=
 bif i.sh.agg then (bif Nat.ble (off + i.size) n then some (val (.t (.a (fwd c off i.size)))) else none)
 else bif Nat.blt off n then some (val (.t (.c (c off)))) else none
def numCell : Value → CV → Option (CV × Prop)
 | .int k _, x => some (.v (.int k (cvInt x)), x = .v (.int k (cvInt x)))
 | _, _ => none
def numCells : List Value → (Nat → CV) → Nat → Option (List CV × Prop)
 | [], _, _ => some ([], True)
 | z :: zs, c, off => match numCell z (c off), numCells zs c (off + 1) with
  | some (x, p), some (xs, q) => some (x :: xs, p ∧ q)
  | _, _ => none
def loadG (i : TyI) (sz : Nat) (l : List (List CV)) (j off : Nat) : Option Eff :=
 match numCells i.zero (genC l j) off with
 | some (xs, p) => bif Nat.ble (off + i.size) sz && Nat.beq i.zero.length i.size then (match i.sh.agg, xs with
  | true, xs => some ⟨.t (.a xs), [], some (j < l.length ∧ p)⟩
  | false, [x] => some ⟨.t (.c x), [], some (j < l.length ∧ p)⟩
  | false, _ => none) else none
 | none => (l[j]?).bind fun e => loadL i e off
def loadE (T : Tab) (forb : Nat → Bool) (st : DS) (t : TypeId) (x : DV) : Option Eff :=
 match T t, x with
 | some i, .t (.c (.p k off)) => match st.rd forb k with
  | some (.box _ c) => loadL i c off
  | _ => none
 | some i, .t (.c (.px n off c)) => loadF i n c off
 | some i, .t (.c (.pe k j sz off)) => match st.rd forb k with
  | some (.gen _ sz' l) => bif Nat.beq sz sz' then loadG i sz l j off else none
  | some (.num _ kd l) => bif Nat.beq sz 1 && Nat.beq off 0 && !i.sh.agg then some ⟨dInt kd (l.getD j 0), [], some (j < l.length)⟩ else none
  | _ => none
 | _, _ => none
def storeE (T : Tab) (forb : Nat → Bool) (st : DS) (t : TypeId) (x y : DV) : Option Eff :=
 match T t, cellsOf y with
 | some i, some xs => (match x with
  | .t (.c (.p k off)) => (match st.rd forb k with
   | some (.box ty c) => bif Nat.beq xs.length i.size && Nat.ble (off + xs.length) c.length then some ⟨noV, [(k, .box ty (put c off xs))], none⟩ else none
   | _ => none)
  | .t (.c (.pe k j sz off)) => (match st.rd forb k with
   | some (.num ty kd' l) => (match xs with
    | [.v (.int kd n)] => bif Nat.beq sz 1 && Nat.beq off 0 && Nat.beq i.size 1 then some ⟨noV, [(k, .num ty kd' (l.set j n))], some (j < l.length ∧ kd = kd')⟩ else none
    | _ => none)
   | some (.gen ty sz' l) => bif Nat.beq sz sz' && (Nat.beq xs.length i.size && (Nat.ble (off + xs.length) sz && allF xs)) then some ⟨noV, [(k, .gen ty sz' (l.set j (put (l.getD j []) off xs)))], some (j < l.length)⟩ else none
   | _ => none)
  | _ => none)
 | _, _ => none
def sizeT (T : Tab) (t : TypeId) : Nat := match T t with
 | some i => i.size
 | none => 0
def fieldOf (T : Tab) (s : TypeId) (f : Nat) : Option (Nat × TypeId) := match T s with
 | some ⟨.st fs, _, _, _, _⟩ => fs[f]?
 | _ => none
def fieldAddrE (T : Tab) (s : TypeId) (f : Nat) (x : DV) : Option Eff :=
 match fieldOf T s f with
 | none => none
 | some (o, ft) => bif Nat.beq (sizeT T ft) 0 then none else
  match x with
  | .t (.c (.p k off)) => some (val (.t (.c (.p k (off + o)))))
  | .t (.c (.px n off c)) => some (val (.t (.c (.px n (off + o) c))))
  | .t (.c (.pe k j sz off)) => some (val (.t (.c (.pe k j sz (off + o)))))
  | _ => none
def indexAddrE (T : Tab) (forb : Nat → Bool) (st : DS) (t : TypeId) (x ix : DV) : Option Eff :=
 match T t, ix with
 | some ⟨.ar n e, _, _, _, _⟩, .t (.c (.v (.int kd i))) => match T e with
  | none => none
  | some ei => match x with
   | .t (.c (.p k off)) => some ⟨.t (.c (.p k (off + i.toNat * ei.size))), [], some (0 ≤ i ∧ i < n)⟩
   | .t (.c (.px m off c)) => some ⟨.t (.c (.px m (off + i.toNat * ei.size) c)), [], some (0 ≤ i ∧ i < n)⟩
   | _ => none
 | some ⟨.sl e, _, _, _, _⟩, .t (.c (.v (.int kd i))) => match T e with
  | none => none
  | some ei => match x with
   | .t (.c (.sl sz n c)) => bif Nat.beq sz ei.size then some ⟨.t (.c (.px sz 0 (fun j => c i.toNat j))), [], some (0 ≤ i ∧ i < n)⟩ else none
   | .t (.c (.os k)) => match st.rd forb k with
    | some (.gen _ sz l) => bif Nat.beq sz ei.size then some ⟨.t (.c (.pe k i.toNat sz 0)), [], some (0 ≤ i ∧ i < l.length)⟩ else none
    | some (.num _ _ l) => bif Nat.beq 1 ei.size then some ⟨.t (.c (.pe k i.toNat 1 0)), [], some (0 ≤ i ∧ i < l.length)⟩ else none
    | _ => none
   | .t (.c (.ob k off sz n)) => match st.rd forb k with
    | some (.box _ _) => bif Nat.beq sz ei.size then some ⟨.t (.c (.p k (off + i.toNat * ei.size))), [], some (0 ≤ i ∧ i < n)⟩ else none
    | _ => none
   | _ => none
 | _, _ => none
def arrPtrE (T : Tab) (t : TypeId) (x : DV) : Option Eff := match T t, x with
 | some ⟨.ar n e, _, _, _, _⟩, .t (.c (.sl sz m c)) => bif Nat.beq sz 1 && Nat.blt 0 n then some ⟨.t (.c (.px n 0 (fun j => c j 0))), [], some (n ≤ m)⟩ else none
 | _, _ => none
def partE (T : Tab) (t : TypeId) (l : List CV) (off : Nat) : Option Eff := (T t).bind fun i => loadL i l off
def fieldE (T : Tab) (s : TypeId) (f : Nat) (x : DV) : Option Eff :=
 match fieldOf T s f, x with
 | some (o, ft), .t (.a l) => partE T ft l o
 | _, _ => none
def indexE (T : Tab) (t : TypeId) (x ix : DV) : Option Eff := match T t, x, ix with
 | some ⟨.ar n e, _, _, _, _⟩, .t (.a l), .t (.c (.v (.int _ i))) => (partE T e l (i.toNat * sizeT T e)).map fun f => ⟨f.v, [], some (0 ≤ i ∧ i < n)⟩
 | some ⟨.str, _, _, _, _⟩, .t (.c (.v (.string s))), .t (.c (.v (.int _ i))) => some ⟨dInt .u8 ((s.data.getD i.toNat 0).toNat : Nat), [], some (0 ≤ i ∧ i < s.size)⟩
 | _, _, _ => none
def zeros (z : List Value) : Option (Option IntKind) := match z with
 | [.int k n] => bif n == 0 then some (some k) else none
 | z => bif oneAll z then some none else none
def makeE (T : Tab) (st : DS) (dst : Option Tmp) (t : TypeId) (x y : DV) : Option Eff := match dst with
 | none => none
 | some d => match T t, x, y with
  | some ⟨.sl e, _, _, _, _⟩, .t (.c (.v (.int .i64 n))), .t (.c (.v (.int .i64 m))) => (match T e, st.at d with
   | some ei, none => bif Nat.blt d st.h.length && Nat.blt 0 ei.size && Nat.beq ei.zero.length ei.size then (match zeros ei.zero with
    | some (some k) => some ⟨.t (.c (.os d)), [(d, .num e k (List.replicate n.toNat 0))], some (m = n ∧ 0 ≤ n ∧ roomP ei.bytes n.toNat)⟩
    | some none => some ⟨.t (.c (.os d)), [(d, .gen e ei.size (List.replicate n.toNat (ei.zero.map CV.v)))], some (m = n ∧ 0 ≤ n ∧ roomP ei.bytes n.toNat)⟩
    | none => none) else none
   | _, _ => none)
  | _, _, _ => none
def extractE (i : Nat) : DV → Option Eff
 | .tu l => (l[i]?).map fun x => val (.t x)
 | _ => none
def partsOf (st : DS) : List (Nat × Operand) → Option (List (Nat × List CV))
 | [] => some []
 | (i, x) :: l => match (opv st x).bind cellsOf, partsOf st l with
  | some c, some r => some ((i, c) :: r)
  | _, _ => none
def fillE (place : Nat → Option (Nat × Nat)) (cells : List CV) : List (Nat × List CV) → Option (List CV)
 | [] => some cells
 | (i, c) :: rest => match place i with
  | none => none
  | some (off, size) => bif Nat.beq c.length size && Nat.ble (off + c.length) cells.length then fillE place (put cells off c) rest else none
def placesOf (T : Tab) : List (Nat × TypeId) → Option (List (Nat × Nat))
 | [] => some []
 | (o, t) :: l => match T t, placesOf T l with
  | some i, some r => some ((o, i.size) :: r)
  | _, _ => none
def buildE (T : Tab) (st : DS) (t : TypeId) (parts : List (Nat × Operand)) : Option Eff :=
 match T t, partsOf st parts with
 | some i, some ps => bif oneAll i.zero then (match i.sh with
  | .st fs => (placesOf T fs).bind fun pl => (fillE (fun j => pl[j]?) (i.zero.map .v) ps).map fun l => val (.t (.a l))
  | .ar _ e => (T e).bind fun ei => (fillE (fun j => some (j * ei.size, ei.size)) (i.zero.map .v) ps).map fun l => val (.t (.a l))
  | _ => none) else none
 | _, _ => none
def allocE (T : Tab) (st : DS) (dst : Option Tmp) (e : TypeId) (c : List CV) : Option Eff :=
 match dst with
 | some d => match st.at d with
  | none => bif Nat.blt d st.h.length then some ⟨.t (.c (.p d 0)), [(d, .box e c)], none⟩ else none
  | some _ => none
 | none => none
def inOrder (sz : Nat) : Nat → List (Nat × List CV) → Option (List (List CV))
 | _, [] => some []
 | k, (i, c) :: l => bif Nat.beq i k && Nat.beq c.length sz && allF c then (inOrder sz (k + 1) l).map (c :: ·) else none
def ptrsK : Nat → List CV → Option Nat
 | i, [.p k off] => bif Nat.beq off i then some k else none
 | i, .p k off :: l => match ptrsK (i + 1) l with
  | some k' => bif Nat.beq k k' && Nat.beq off i then some k else none
  | none => none
 | _, _ => none
def inPtr : Nat → List (Nat × List CV) → Option (List CV)
 | _, [] => some []
 | k, (i, c) :: l => match c with
  | [.p a off] => bif Nat.beq i k then (inPtr (k + 1) l).map (.p a off :: ·) else none
  | _ => none
def buildSliceE (T : Tab) (st : DS) (dst : Option Tmp) (t : TypeId) (n : Nat) (parts : List (Nat × Operand)) : Option Eff :=
 match dst with
 | none => none
 | some d => match T t, partsOf st parts with
 | some ⟨.sl e, _, _, _, _⟩, some ps => match T e, st.at d with
  | some ei, none => match inOrder ei.size 0 ps with
   | some l => bif Nat.beq l.length n && Nat.ble (n * ei.size) 1000 && Nat.blt 0 ei.size && Nat.beq ei.zero.length ei.size && Nat.blt d st.h.length then some ⟨.t (.c (.os d)), [(d, .gen e ei.size l)], none⟩ else none
   | none => (match inPtr 0 ps with
    | some c => (match ptrsK 0 c with
     | some _ => bif Nat.beq c.length n && Nat.ble n 1000 && Nat.blt 0 n && Nat.beq ei.size 1 && Nat.beq ei.zero.length ei.size && Nat.blt d st.h.length then some ⟨.t (.c (.ob d 0 1 n)), [(d, .box e c)], none⟩ else none
     | none => none)
    | none => none)
  | _, _ => none
 | _, _ => none
def nilCheckE : DV → Option Eff
 | .t (.c (.p k off)) => some (val (.t (.c (.p k off))))
 | .t (.c (.px n off c)) => some (val (.t (.c (.px n off c))))
 | .t (.c (.pe k i sz off)) => some (val (.t (.c (.pe k i sz off))))
 | _ => none
def plain2 (P : Program) (f : Value → Value → Sem Value) (x y : Option DV) : Option Eff :=
 match x.bind toValue, y.bind toValue with
 | some a, some b => ((pureRun P (f a b)).bind ofValue).map val
 | _, _ => none
def plain1 (P : Program) (f : Value → Sem Value) (x : Option DV) : Option Eff :=
 match x.bind toValue with
 | some a => ((pureRun P (f a)).bind ofValue).map val
 | none => none
def toValues : List DV → Option (List Value)
 | [] => some []
 | d :: l => match toValue d, toValues l with
  | some v, some vs => some (v :: vs)
  | _, _ => none
def plainN (P : Program) (f : Array Value → Sem Value) (xs : Option (List DV)) : Option Eff :=
 match xs.bind toValues with
 | some vs => ((pureRun P (f vs.toArray)).bind ofValue).map val
 | none => none
def divE (op : BinOp) : Option DV → Option DV → Option Eff
 | some (.t (.c (.v (.int k a)))), some (.t (.c (.v (.int k' b)))) => match op with
  | .quo => some ⟨dInt k (k.wrap (a.tdiv b)), [], some (k = k' ∧ b ≠ 0)⟩
  | .rem => some ⟨dInt k (a.tmod b), [], some (k = k' ∧ b ≠ 0)⟩
  | _ => none
 | _, _ => none
def shiftE (op : BinOp) : Option DV → Option DV → Option Eff
 | some (.t (.c (.v (.int k a)))), some (.t (.c (.v (.int _ b)))) => match op with
  | .shl => some ⟨dInt k (k.wrap (a * 2 ^ (min b.toNat k.bits))), [], some (0 ≤ b)⟩
  | .shr => some ⟨dInt k (a.fdiv (2 ^ (min b.toNat k.bits))), [], some (0 ≤ b)⟩
  | _ => none
 | _, _ => none
def eqFs (rec : TypeId → List Value → List Value → Option Bool) (T : Tab) (xs ys : List Value) : List (Nat × TypeId) → Option Bool
 | [] => some true
 | (o, t) :: l => match T t with
  | some i => bif !(Nat.ble (o + i.size) xs.length && Nat.ble (o + i.size) ys.length && (i.sh.agg || Nat.beq i.size 1)) then none else match rec t ((xs.drop o).take i.size) ((ys.drop o).take i.size), eqFs rec T xs ys l with
   | some b, some c => some (bif b then c else false)
   | _, _ => none
  | none => none
def eqEs (rec : List Value → List Value → Option Bool) (sz : Nat) (xs ys : List Value) : Nat → Nat → Option Bool
 | 0, _ => some true
 | n + 1, k => match rec ((xs.drop (k * sz)).take sz) ((ys.drop (k * sz)).take sz), eqEs rec sz xs ys n (k + 1) with
  | some b, some c => some (bif b then c else false)
  | _, _ => none
def eqV (T : Tab) : Nat → TypeId → List Value → List Value → Option Bool
 | 0, _, _, _ => none
 | d + 1, t, xs, ys => match T t with
  | some i => match i.sh with
   | .nm _ => match xs, ys with
    | [.int k a], [.int k' b] => bif decide (k = k') then some (a == b) else none
    | _, _ => none
   | .bl => match xs, ys with
    | [.bool a], [.bool b] => some (a == b)
    | _, _ => none
   | .str => match xs, ys with
    | [.string a], [.string b] => some (a == b)
    | _, _ => none
   | .st fs => bif i.eqok && Nat.beq xs.length i.size && Nat.beq ys.length i.size then eqFs (eqV T d) T xs ys fs else none
   | .ar n e => match T e with
    | some ei => bif Nat.beq xs.length (n * ei.size) && Nat.beq ys.length (n * ei.size) && (ei.sh.agg || Nat.beq ei.size 1) then eqEs (eqV T d e) ei.size xs ys n 0 else none
    | none => none
   | _ => none
  | none => none
def eqE (T : Tab) (op : BinOp) (t : TypeId) : Option DV → Option DV → Option Eff
 | some (.t (.a l)), some (.t (.a m)) => match allV l, allV m, T t with
  | some xs, some ys, some i => bif i.eqok && i.sh.agg then (eqV T 10000 t xs ys).bind fun b => match op with
   | .eql => some (val (dB b))
   | .neq => some (val (dB (!b)))
   | _ => none else none
  | _, _, _ => none
 | _, _ => none
def isShift : BinOp → Bool
 | .shl | .shr => true
 | _ => false
def isDiv : BinOp → Bool
 | .quo | .rem => true
 | _ => false
def lenE (T : Tab) (forb : Nat → Bool) (st : DS) (t : TypeId) : DV → Option Eff
 | .t (.c (.sl _ n _)) => match T t with
  | some ⟨.sl _, _, _, _, _⟩ => some (val (dI n))
  | _ => none
 | .t (.c (.os k)) => match T t, st.rd forb k with
  | some ⟨.sl _, _, _, _, _⟩, some (.gen _ _ l) => some (val (dI l.length))
  | some ⟨.sl _, _, _, _, _⟩, some (.num _ _ l) => some (val (dI l.length))
  | _, _ => none
 | .t (.c (.v (.slice ao n cap))) => match T t with
  | some ⟨.sl _, _, _, _, _⟩ => some (val (dI n))
  | _ => none
 | .t (.c (.ob _ _ _ n)) => match T t with
  | some ⟨.sl _, _, _, _, _⟩ => some (val (dI n))
  | _ => none
 | .t (.c (.v (.string s))) => match T t with
  | some ⟨.str, _, _, _, _⟩ => some (val (dI s.size))
  | _ => none
 | _ => none
def intsOf (kd : IntKind) : List (List CV) → Option (List Int × Prop)
 | [] => some ([], True)
 | [.v (.int k n)] :: l => (intsOf kd l).map fun (xs, p) => (n :: xs, k = kd ∧ p)
 | _ :: _ => none
def gensOf (forb : Nat → Bool) (st : DS) (sz : Nat) : DV → Option (List (List CV))
 | .t (.c (.os k)) => match st.rd forb k with
  | some (.gen _ sz' l) => bif Nat.beq sz sz' then some l else none
  | some (.num _ kd l) => bif Nat.beq sz 1 then some (l.map fun n => [.v (.int kd n)]) else none
  | _ => none
 | .t (.c (.sl sz' n c)) => bif Nat.beq sz sz' then some ((List.range n).map fun i => fwd (c i) 0 sz) else none
 | .t (.c (.v (.slice none 0 0))) => some []
 | _ => none
def numsOf (forb : Nat → Bool) (st : DS) (kd : IntKind) : DV → Option (List Int × Prop)
 | .t (.c (.os k)) => match st.rd forb k with
  | some (.gen _ sz' l) => bif Nat.beq 1 sz' then intsOf kd l else none
  | some (.num _ kd' l) => some (l, kd' = kd)
  | _ => none
 | .t (.c (.sl sz' n c)) => bif Nat.beq 1 sz' then some ((List.range n).map fun i => cvInt (c i 0), ∀ i, i < n → c i 0 = .v (.int kd (cvInt (c i 0)))) else none
 | .t (.c (.v (.slice none 0 0))) => some ([], True)
 | _ => none
def appendE (T : Tab) (forb : Nat → Bool) (st : DS) (dst : Option Tmp) (t : TypeId) (s x : DV) : Option Eff :=
 match dst with
 | none => none
 | some d => match T t with
  | some ⟨.sl e, _, _, _, _⟩ => match T e, st.at d with
   | some ei, none => bif Nat.blt d st.h.length && Nat.blt 0 ei.size && Nat.beq ei.zero.length ei.size then (match s with
    | .t (.c (.os k)) => match st.rd forb k with
     | some (.num ty kd l) => bif Nat.beq ty e && Nat.beq ei.size 1 then (numsOf forb st kd x).map fun (xs, p) => ⟨.t (.c (.os d)), [(k, .dead), (d, .num e kd (l ++ xs))], some (p ∧ roomP ei.bytes (l.length + xs.length))⟩ else none
     | some (.gen ty sz l) => bif Nat.beq ty e && Nat.beq sz ei.size then (gensOf forb st sz x).map fun xs => ⟨.t (.c (.os d)), [(k, .dead), (d, .gen e sz (l ++ xs))], some (roomP ei.bytes (l.length + xs.length))⟩ else none
     | _ => none
    | .t (.c (.v (.slice none 0 0))) => (gensOf forb st ei.size x).map fun xs => ⟨.t (.c (.os d)), [(d, .gen e ei.size xs)], some (roomP ei.bytes xs.length)⟩
    | _ => none) else none
   | _, _ => none
  | _ => none
def boundE (st : DS) (dflt : Int) : Option Operand → Option Int
 | none => some dflt
 | some x => match opv st x with
  | some (.t (.c (.v (.int _ i)))) => some i
  | _ => none
def sliceE (T : Tab) (forb : Nat → Bool) (st : DS) (t : TypeId) (x : DV) (lo hi mx : Option Operand) : Option Eff :=
 match mx with
 | some _ => none
 | none => match T t, x with
  | some ⟨.sl e, _, _, _, _⟩, .t (.c (.sl sz n c)) => match T e, boundE st 0 lo, boundE st n hi with
   | some ei, some l, some h => bif Nat.beq sz ei.size then some ⟨.t (.c (.sl sz (h - l).toNat (fun i j => c (l.toNat + i) j))), [], some (0 ≤ l ∧ l ≤ h ∧ h ≤ n)⟩ else none
   | _, _, _ => none
  | some ⟨.sl e, _, _, _, _⟩, .t (.c (.os k)) => match hi with
   | some _ => none
   | none => match T e, boundE st 0 lo, st.rd forb k with
    | some ei, some l, some (.num _ kd r) => bif Nat.beq 1 ei.size then some ⟨.t (.c (.ob k l.toNat 1 (r.length - l.toNat))), [], some (0 < l ∧ l ≤ r.length)⟩ else none
    | _, _, _ => none
  | some ⟨.ar n e, _, _, _, _⟩, .t (.c (.p k off)) => match T e, lo, hi with
   | some ei, none, none => bif Nat.ble n 1000 then some (val (.t (.c (.ob k off ei.size n)))) else none
   | _, _, _ => none
  | some ⟨.str, _, _, _, _⟩, .t (.c (.v (.string s))) => match boundE st 0 lo, boundE st s.size hi with
   | some l, some h => some ⟨.t (.c (.v (.string (s.extract l.toNat h.toNat)))), [], some (0 ≤ l ∧ l ≤ h ∧ h ≤ s.size)⟩
   | _, _ => none
  | _, _ => none
def nameCs (d : Nat) : List CV → Option (List CV)
 | [.os 0] => some [.os d]
 | x :: l => bif isF x then (nameCs d l).map (x :: ·) else none
 | [] => none
def nameD (d : Nat) : DV → Option DV
 | .t (.a l) => (nameCs d l).map fun l => .t (.a l)
 | .t (.c (.os 0)) => some (.t (.c (.os d)))
 | .tu (.c (.os 0) :: l) => bif flatTs l then some (.tu (.c (.os d) :: l)) else none
 | _ => none
def namePs (d : Nat) : List CV → Option (List CV)
 | .p 0 off :: l => bif allF l then some (.p d off :: l) else none
 | x :: l => bif isF x then (namePs d l).map (x :: ·) else none
 | [] => none
def nameF (d : Nat) : DV → Option DV
 | .t (.fn f l) => (namePs d l).map fun l => .t (.fn f l)
 | _ => none
def isRow : Row → Bool
 | .gen _ _ _ | .num _ _ _ => true
 | _ => false
def callE (S : Sum) (forb : Nat → Bool) (st : DS) (dst : Option Tmp) (f : DV) (args : List DV) : Option Eff :=
 match f with
 | .t (.fn g caps) => match toFDs st forb (args ++ caps.map fun x => .t (.c x)) with
  | some aas => match S g aas with
   | some (r, pre, .own R) => (match dst with
    | some d => (match st.at d, nameD d r with
     | none, some r' => bif Nat.blt d st.h.length && isRow R then some ⟨r', [(d, R)], pre⟩ else none
     | _, _ => none)
    | none => none)
   | some (r, pre, .clo ty c) => (match dst with
    | some d => (match st.at d, nameF d r with
     | none, some r' => bif Nat.blt d st.h.length && flatCs c then some ⟨r', [(d, .box ty c)], pre⟩ else none
     | _, _ => none)
    | none => none)
   | some (r, pre, .wr j ty cs) => (match args[j]?, caps, aas[j]? with
    | some (.t (.c (.p k 0))), [], some (.t (.c (.px n 0 _))) => (match st.rd forb k with
     | some (.box ty' cs0) => bif Nat.beq ty ty' && (Nat.beq n cs0.length && (!ownDs (args.eraseIdx j))) then some ⟨r, [(k, .box ty' cs)], pre⟩ else none
     | _ => none)
    | _, _, _ => none)
   | some (r, pre, .no) => bif (!ownDs (args ++ caps.map fun x => .t (.c x))) || flatA r then some ⟨r, [], pre⟩ else none
   | some (r, pre, .new) => some ⟨r, [], pre⟩
   | _ => none
  | none => match args, caps with
   | [x, .t (.c (.ob ka off sz n))], [] => (match st.rd forb ka with
    | some (.box tya ptrs) => (match ptrsK 0 ptrs with
     | some k => (match st.rd forb k, toFD st forb x with
      | some (.box ty cs0), some x' => bif Nat.beq off 0 && (Nat.beq sz 1 && (Nat.blt 0 n && (Nat.beq ptrs.length n && (Nat.beq cs0.length n && (flatCs cs0 && (!ownDs [x])))))) then (match S g [x', .t (.c (.px n 0 (boxC cs0)))] with
       | some (r, pre, .wrs tya' ty' cs) => bif Nat.beq tya tya' && Nat.beq ty ty' then some ⟨r, [(k, .box ty cs)], pre⟩ else none
       | _ => none) else none
      | _, _ => none)
     | none => none)
    | _ => none)
   | _, _ => none
 | .t (.fb g l) => match toFDs st forb (.t (.a l) :: args) with
  | some aas => match S g aas with
   | some (r, pre, .no) => bif (!ownDs (.t (.a l) :: args)) || flatD r then some ⟨r, [], pre⟩ else none
   | some (r, pre, .new) => some ⟨r, [], pre⟩
   | _ => none
  | none => none
 | _ => none
def cvs : List DV → Option (List CV)
 | [] => some []
 | .t (.c x) :: l => (cvs l).map (x :: ·)
 | _ :: _ => none
def fbE (f : FuncId) : Option (List DV) → Option Eff
 | some [.t (.a l)] => some (val (.t (.fb f l)))
 | _ => none
def fnOf : DV → DV
 | .t (.c (.v (.func (.func f) ⟨[]⟩ ⟨[]⟩))) => .t (.fn f [])
 | d => d
def unFn : DV → DV
 | .t (.fn f []) => .t (.c (.v (.func (.func f) ⟨[]⟩ ⟨[]⟩)))
 | d => d
def isK : Operand → Bool
 | .const _ => true
 | _ => false
def strE (P : Program) (op : BinOp) (t : TypeId) (y : Operand) : Option DV → Option DV → Option Eff
 | some (.t (.c (.v (.string a)))), some (.t (.c (.v (.string b)))) => match op with
  | .add => some ⟨.t (.c (.v (.string (a ++ b)))), [], some (((a.size + b.size : Nat) : Int) ≤ 9223372036854775807)⟩
  | _ => none
 | some (.t (.c (.er b))), some (.t (.c (.v .nilIface))) => bif isK y then (match P.underlying t with
  | some (.interface _) => (match op with
   | .eql => some (val (dB b))
   | .neq => some (val (dB (!b)))
   | _ => none)
  | _ => none) else none
 | _, _ => none
def exec0 (P : Program) (T : Tab) (S : Sum) (forb : Nat → Bool) (st : DS) (o : Oper) : Option Eff :=
 match o.op with
 | .move x => (opv st x).map val
 | .assign x => (opv st x).map val
 | .pick c a b => match opv st c with
  | some (.t (.c (.v (.bool t)))) => pickE t (opv st a) (opv st b)
  | _ => none
 | .alloc e => match T e with
  | some i => bif oneAll i.zero then allocE T st o.dst e (i.zero.map .v) else none
  | none => none
 | .box e x => ((opv st x).bind cellsOf).bind fun c => allocE T st o.dst e c
 | .build t parts => buildE T st t parts.toList
 | .buildSlice t n parts => buildSliceE T st o.dst t n parts.toList
 | .load t a => (opv st a).bind (loadE T forb st t)
 | .store t a x => match opv st a, opv st x with
  | some p, some y => storeE T forb st t p (unFn y)
  | _, _ => none
 | .nilCheck x => (opv st x).bind nilCheckE
 | .binOp op xt x y yt => bif isDiv op then divE op (opv st x) (opv st y) else bif isShift op then shiftE op (opv st x) (opv st y) else match eqE T op xt (opv st x) (opv st y) with
  | some e => some e
  | none => match strE P op xt y (opv st x) (opv st y) with
   | some e => some e
   | none => plain2 P (fun a b => do eqGuard op xt x y a b; binOp op xt a b) (opv st x) (opv st y)
 | .unOp op _ x => plain1 P (Op.unary op) (opv st x)
 | .convert src dst x => plain1 P (convert src dst) (opv st x)
 | .makeFunc (.func f) first caps => bif Nat.beq first.size 0 then (((opvs st caps.toList).bind cvs).map fun l => val (.t (.fn f l))) else (bif Nat.beq caps.size 0 then fbE f (opvs st first.toList) else none)
 | .fieldAddr s x f => (opv st x).bind (fieldAddrE T s f)
 | .field s x f => (opv st x).bind (fieldE T s f)
 | .indexAddr t x ix => match opv st x, opv st ix with
  | some a, some b => indexAddrE T forb st t a b
  | _, _ => none
 | .extract x i => (opv st x).bind (extractE i)
 | .sliceToArrayPointer t x => (opv st x).bind (arrPtrE T t)
 | .index t x ix => match opv st x, opv st ix with
  | some a, some b => indexE T t a b
  | _, _ => none
 | .makeSlice t x y => match opv st x, opv st y with
  | some a, some b => makeE T st o.dst t a b
  | _, _ => none
 | .slice t x lo hi mx => (opv st x).bind fun d => sliceE T forb st t d lo hi mx
 | .call c => match c.callee with
  | .builtin .len => match c.args.toList, c.argTypes.toList with
   | [x], [t] => (opv st x).bind (lenE T forb st t)
   | _, _ => none
  | .builtin .append => match c.args.toList, c.argTypes.toList with
   | [x, y], [t, t'] => match opv st x, opv st y with
    | some dx, some dy => bif Nat.beq t t' then appendE T forb st o.dst t dx dy else none
    | _, _ => none
   | _, _ => none
  | .builtin .max => plainN P (Builtin.max_ c.argTypes o.type) (opvs st c.args.toList)
  | .builtin .min => plainN P (Builtin.min_ c.argTypes o.type) (opvs st c.args.toList)
  | .value f => match opv st f, opvs st c.args.toList with
   | some g, some args => callE S forb st o.dst (fnOf g) args
   | _, _ => none
  | _ => none
 | _ => none
def isAl : Op → Bool
 | .alloc _ | .box _ _ | .buildSlice _ _ _ | .makeSlice _ _ _ => true
 | .call c => match c.callee with
  | .value _ => true
  | _ => false
 | _ => false
def isWr : Op → Bool
 | .store _ _ _ => true
 | .call c => match c.callee with
  | .builtin .append => true
  | _ => false
 | _ => false
def okW (forb : Nat → Bool) : List (Nat × Row) → Bool
 | [] => true
 | (k, _) :: l => !forb k && Nat.blt k 2000 && okW forb l
def okUp (forb : Nat → Bool) (o : Oper) (up : List (Nat × Row)) : Bool := bif isWr o.op then okW forb up else (match up with
 | [] => true
 | [(k, _)] => isAl o.op && ((match o.dst with | some d => Nat.beq d k | none => false) || (!forb 2000 && (!forb k && Nat.blt k 2000)))
 | _ => false)
def exec (P : Program) (T : Tab) (S : Sum) (forb : Nat → Bool) (st : DS) (o : Oper) : Option Eff :=
 match exec0 P T S forb st o with
 | some e => bif okUp forb o e.up then some e else none
 | none => none
def DS.putO (st : DS) (d : Option Tmp) (v : Option DV) : DS := match d with
 | some d => { st with t := st.t.set d v }
 | none => st
def upd : List (Nat × Row) → List (Option Row) → List (Option Row)
 | [], h => h
 | (k, r) :: l, h => upd l (h.set k (some r))
def DS.app (st : DS) (d : Option Tmp) (e : Eff) : DS := ({ st with h := upd e.up st.h }).putO d (some e.v)
end Go.Proofs.YtfadkjcfjkmalaaGreatDoor.Ev
set_option linter.unusedVariables false
set_option linter.unusedSimpArgs false
namespace Go.Proofs.YtfadkjcfjkmalaaGreatDoor.Ev
open Go.RowKit
variable {w0 : World} {N0 : Nat → Prop} {Z : Pins}
structure Stp (w0 : World) (N0 : Nat → Prop) (M M' : Map) (w w' : World) : Prop where
 size : w.heap.size ≤ w'.heap.size
 blk : ∀ b, nown M b → b < w.heap.size → w'.heap[b]? = w.heap[b]?
 keep : ∀ k l, M k = some l → M' k = some l
 new : ∀ k l b, M' k = some l → l.block = some b → (∃ k' l', M k' = some l' ∧ l'.block = some b) ∨ w.heap.size ≤ b
theorem Stp.cell {M M' : Map} {w w' : World} (h : Stp w0 N0 M M' w w') (b : Nat) (hf : fgn w0 N0 M b) (hb : b < w.heap.size) (off : Nat) : w'.cell? ⟨b, off, none⟩ = w.cell? ⟨b, off, none⟩ := World.cell?_of_block (w := w) (h.blk b hf.2 hb)
theorem Stp.nown {M M' : Map} {w w' : World} (h : Stp w0 N0 M M' w w') {b : Nat} (hb : b < w.heap.size) (hf : nown M b) : nown M' b := fun k l e1 e2 => by
  rcases h.new k l b e1 e2 with ⟨k', l', g1, g2⟩ | g
  ·exact hf k' l' g1 g2
  ·omega
theorem Stp.fgn {M M' : Map} {w w' : World} (h : Stp w0 N0 M M' w w') {b : Nat} (hb : b < w.heap.size) (hf : fgn w0 N0 M b) : fgn w0 N0 M' b :=
 ⟨hf.1, fun k l e1 e2 => by
  rcases h.new k l b e1 e2 with ⟨k', l', g1, g2⟩ | g
  ·exact hf.2 k' l' g1 g2
  ·omega⟩
theorem Stp.relF {M M' : Map} {w w' : World} (h : Stp w0 N0 M M' w w') {x : CV} {v : Value} (hr : RelF w (Ev.fgn w0 N0 M) x v) : RelF w' (Ev.fgn w0 N0 M') x v :=
 RelF.mono h.size h.cell (fun b hb hl => h.fgn hl hb) x hr
theorem Stp.relC {M M' : Map} {w w' : World} (h : Stp w0 N0 M M' w w') : ∀ {x : CV} {v : Value}, RelC w (Ev.fgn w0 N0 M) M x v → RelC w' (Ev.fgn w0 N0 M') M' x v
 | .v x, v, g => h.relF (x := .v x) g
 | .sl sz n c, v, g => h.relF (x := .sl sz n c) g
 | .px n off c, v, g => h.relF (x := .px n off c) g
 | .er b, v, g => h.relF (x := .er b) g
 | .any, v, g => h.relF (x := .any) g
 | .os k, v, g => ⟨h.keep _ _ g.1, g.2⟩
 | .p k off, v, g => by obtain ⟨b, g1, g2⟩ := g; exact ⟨b, h.keep _ _ g1, g2⟩
 | .pe k i sz off, v, g => by obtain ⟨b, n, cap, g1, g2⟩ := g; exact ⟨b, n, cap, h.keep _ _ g1, g2⟩
 | .ob k off sz n, v, g => by
  rcases g with ⟨b, cap, g1, g2⟩ | ⟨b, c, o, cap, g1, g2⟩
  ·exact Or.inl ⟨b, cap, h.keep _ _ g1, g2⟩
  ·exact Or.inr ⟨b, c, o, cap, h.keep _ _ g1, g2⟩
theorem Stp.relD {M M' : Map} {w w' : World} (h : Stp w0 N0 M M' w w') {x : DV} {v : Value} (hr : RelD (RelC w (Ev.fgn w0 N0 M) M) x v) : RelD (RelC w' (Ev.fgn w0 N0 M') M') x v :=
 RelD.mono (fun _ _ g => h.relC g) hr
theorem ownsRow_same {w w' : World} {base : Nat} {e : TypeId} {size : Nat} {v : Value} {n : Nat} {xs : List Value} (h : w.ownsRow base e size v n xs) (hb : ∀ b, v.ownBlock = some b → w'.heap[b]? = w.heap[b]?) : w'.ownsRow base e size v n xs := by
 refine ⟨h.1, ?_⟩
 rcases h.2 with h2 | ⟨g, cap, cur, hv, hg, hh, r⟩
 ·exact Or.inl h2
 ·exact Or.inr ⟨g, cap, cur, hv, hg, by rw [hb g (by rw [hv]; rfl)]; exact hh, r⟩
theorem Stp.relR {M M' : Map} {w w' : World} (h : Stp w0 N0 M M' w w') {k : Nat} : ∀ {r : Row}, RelR w w0.heap.size (Ev.fgn w0 N0 M) M k r → (r.alive = true → ∀ l b, M k = some l → l.block = some b → w'.heap[b]? = w.heap[b]?) → RelR w' w0.heap.size (Ev.fgn w0 N0 M') M' k r
 | .box ty c, g, hb => by
  obtain ⟨b, cs, g1, g2, g3⟩ := g
  exact ⟨b, cs, h.keep _ _ g1, (hb rfl _ _ g1 rfl).trans g2, g3.mono fun _ _ g => h.relC g⟩
 | .gen ty sz l, g, hb => by
  obtain ⟨v, xs, g1, g2, g3, g4⟩ := g
  exact ⟨v, xs, h.keep _ _ g1, ownsRow_same g2 (fun b e => hb rfl _ _ g1 e), g3, g4.mono fun _ _ g => h.relF g⟩
 | .num ty kd l, g, hb => by
  obtain ⟨v, g1, g2⟩ := g
  exact ⟨v, h.keep _ _ g1, ownsRow_same g2 (fun b e => hb rfl _ _ g1 e)⟩
 | .dead, _, _ => trivial
theorem Abs.step {M M' : Map} {st st' : DS} {a a' : Act} {w w' : World} (ha : Abs w0 N0 Z M st a w) (hs : Stp w0 N0 M M' w w') (hb : Below w0.heap.size w w')
  (hfit : a'.tmps.size = st'.t.length) (hdef : a'.defers = a.defers)
  (htmp : ∀ i dv, st'.tm i = some dv → (st.tm i = some dv ∧ a'.tmps[i]? = a.tmps[i]?) ∨ ∃ v, a'.tmps[i]? = some v ∧ RelD (RelC w' (fgn w0 N0 M') M') dv v)
  (hrow : ∀ k r, st'.at k = some r → (st.at k = some r ∧ (r.alive = true → ∀ l b, M k = some l → l.block = some b → w'.heap[b]? = w.heap[b]?)) ∨ RelR w' w0.heap.size (fgn w0 N0 M') M' k r)
  (hdom : ∀ k, st'.at k = none → M' k = none)
  (hown : ∀ k l b, M' k = some l → l.block = some b → w0.heap.size ≤ b ∧ b < w'.heap.size)
  (hap : ∀ k k' r r' l l' b, st'.at k = some r → r.alive = true → st'.at k' = some r' → r'.alive = true → M' k = some l → M' k' = some l' → l.block = some b → l'.block = some b → k = k') :
  Abs w0 N0 Z M' st' a' w' where
 below := ha.below.trans hb
 fits := hfit
 lim := by rw [hdef]; exact ha.lim
 defs := hdef ▸ ha.defs.mono fun b h1 h2 => ⟨hs.blk b h1 h2, hs.nown h2 h1⟩
 tmp i dv h := by
  rcases htmp i dv h with ⟨h1, h2⟩ | h1
  ·obtain ⟨v, e, r⟩ := ha.tmp i dv h1
   exact ⟨v, h2.trans e, hs.relD r⟩
  ·exact h1
 row k r h := by
  rcases hrow k r h with ⟨h1, h2⟩ | h1
  ·exact hs.relR (ha.row k r h1) h2
  ·exact h1
 dom := hdom
 own := hown
 apart := hap
 pinB b o h := by
  obtain ⟨h1, h2⟩ := ha.pinB b o h
  have hb : b < w.heap.size := (Array.getElem?_eq_some_iff.1 h1).1
  exact ⟨(hs.blk b h2 hb).trans h1, hs.nown hb h2⟩
 pinN b h := by
  obtain ⟨h1, h2⟩ := ha.pinN b h
  exact ⟨Nat.lt_of_lt_of_le h1 hs.size, hs.nown h1 h2⟩
 pinK k l h := hs.keep k l (ha.pinK k l h)
theorem getset {α : Type} (l : List (Option α)) (d i : Nat) (x : Option α) : ((l.set d x)[i]?).join = if d = i ∧ d < l.length then x else (l[i]?).join := by
 rw [List.getElem?_set]
 by_cases h : d = i
 ·subst h
  by_cases h2 : d < l.length
  ·simp [h2]
  ·simp [h2]
 ·simp [h]
theorem tm_putO (st : DS) (d : Option Tmp) (x : Option DV) (i : Nat) : (st.putO d x).tm i = if d = some i ∧ i < st.t.length then x else st.tm i := by
 cases d with
 | none => simp [DS.putO]
 | some d =>
  simp only [DS.putO, DS.tm, getset, Option.some.injEq]
  by_cases h : d = i
  ·subst h; rfl
  ·simp [h]
theorem at_putO (st : DS) (d : Option Tmp) (x : Option DV) (k : Nat) : (st.putO d x).at k = st.at k := by cases d <;> rfl
theorem h_putO (st : DS) (d : Option Tmp) (x : Option DV) : (st.putO d x).h = st.h := by cases d <;> rfl
theorem len_putO (st : DS) (d : Option Tmp) (x : Option DV) : (st.putO d x).t.length = st.t.length := by cases d <;> simp [DS.putO]
theorem put_get (a : Act) (d : Option Tmp) (v : Value) (i : Nat) : (a.put d v).tmps[i]? = if d = some i ∧ i < a.tmps.size then some v else a.tmps[i]? := by
 cases d with
 | none => simp [Act.put]
 | some d =>
  simp only [Act.put, Option.some.injEq]
  by_cases h : d = i
  ·subst h
   by_cases h2 : d < a.tmps.size <;> simp [h2]
  ·simp [h, Array.getElem?_setIfInBounds]
theorem put_size (a : Act) (d : Option Tmp) (v : Value) : (a.put d v).tmps.size = a.tmps.size := by cases d <;> simp [Act.put]
theorem put_defs (a : Act) (d : Option Tmp) (v : Value) : (a.put d v).defers = a.defers := by cases d <;> rfl
theorem tmp_putO {M' : Map} {st : DS} {a : Act} {w' : World} {d : Option Tmp} {x : Option DV} {v : Value} (hf : a.tmps.size = st.t.length) (hv : ∀ dv, x = some dv → RelD (RelC w' (fgn w0 N0 M') M') dv v) (i : Nat) (dv : DV) (h : (st.putO d x).tm i = some dv) :
  (st.tm i = some dv ∧ (a.put d v).tmps[i]? = a.tmps[i]?) ∨ ∃ u, (a.put d v).tmps[i]? = some u ∧ RelD (RelC w' (fgn w0 N0 M') M') dv u := by
 rw [tm_putO] at h
 rw [put_get, hf]
 by_cases hc : d = some i ∧ i < st.t.length
 ·rw [if_pos hc] at h
  rw [if_pos hc]
  exact Or.inr ⟨v, rfl, hv dv h⟩
 ·rw [if_neg hc] at h
  rw [if_neg hc]
  exact Or.inl ⟨h, rfl⟩
theorem Stp.refl (M : Map) (w : World) : Stp w0 N0 M M w w := ⟨Nat.le_refl _, fun _ _ _ => rfl, fun _ _ h => h, fun k l b h1 h2 => Or.inl ⟨k, l, h1, h2⟩⟩
theorem Stp.below {M : Map} {w w' : World} (h : Below w.heap.size w w') : Stp w0 N0 M M w w' :=
 ⟨h.size, fun b _ hb => h.block b hb, fun _ _ h => h, fun k l b h1 h2 => Or.inl ⟨k, l, h1, h2⟩⟩
theorem Abs.put {M : Map} {st : DS} {a : Act} {w w' : World} (ha : Abs w0 N0 Z M st a w) (hb : Below w.heap.size w w') (d : Option Tmp) {x : Option DV} {v : Value} (hv : ∀ dv, x = some dv → RelD (RelC w' (fgn w0 N0 M) M) dv v) : Abs w0 N0 Z M (st.putO d x) (a.put d v) w' :=
 ha.step (Stp.below hb) (hb.mono ha.below.size) (by rw [put_size, len_putO, ha.fits]) (put_defs _ _ _) (tmp_putO ha.fits hv)
  (fun k r h => Or.inl ⟨by rwa [at_putO] at h, fun _ l b h1 h2 => hb.block b (ha.own k l b h1 h2).2⟩)
  (fun k h => ha.dom k (by rwa [at_putO] at h)) (fun k l b h1 h2 => ⟨(ha.own k l b h1 h2).1, Nat.lt_of_lt_of_le (ha.own k l b h1 h2).2 hb.size⟩)
  (fun k k' r r' l l' b h1 h2 h3 h4 h5 h6 h7 h8 => ha.apart k k' r r' l l' b (by rwa [at_putO] at h1) h2 (by rwa [at_putO] at h3) h4 h5 h6 h7 h8)
theorem Abs.putV {M : Map} {st : DS} {a : Act} {w : World} (ha : Abs w0 N0 Z M st a w) (d : Option Tmp) {x : DV} {v : Value} (hv : RelD (RelC w (fgn w0 N0 M) M) x v) : Abs w0 N0 Z M (st.putO d (some x)) (a.put d v) w :=
 ha.put (Below.refl _ _) d fun _ e => by cases e; exact hv
theorem Abs.skip {M : Map} {st : DS} {a : Act} {w : World} (ha : Abs w0 N0 Z M st a w) (d : Option Tmp) (v : Value) : Abs w0 N0 Z M (st.putO d none) (a.put d v) w :=
 ha.put (Below.refl _ _) d fun _ e => by cases e
theorem Abs.grow {M : Map} {st : DS} {a : Act} {w w' : World} (ha : Abs w0 N0 Z M st a w) (hb : Below w.heap.size w w') : Abs w0 N0 Z M st a w' :=
 ha.put (d := none) (x := none) (v := undef) hb fun _ e => by cases e
theorem Abs.know {M : Map} {st : DS} {a : Act} {w : World} (ha : Abs w0 N0 Z M st a w) {i : Nat} {x y : DV} (hx : st.tm i = some x) (hxy : x = y) : Abs w0 N0 Z M (st.putO (some i) (some y)) a w := by
 subst hxy
 have : (st.putO (some i) (some x)) = st := by
  unfold DS.putO
  simp only
  congr 1
  apply List.ext_getElem?
  intro j
  rw [List.getElem?_set]
  unfold DS.tm at hx
  split
  ·rename_i e; subst e
   split
   ·rename_i h2
    cases h3 : st.t[i]? with
    | none => rw [h3] at hx; cases hx
    | some o => rw [h3] at hx; simp at hx; rw [hx]
   ·rename_i h2
    rw [List.getElem?_eq_none (by omega)]
  ·rfl
 rw [this]; exact ha
theorem Abs.newRow {M : Map} {st : DS} {a : Act} {w : World} (ha : Abs w0 N0 Z M st a w) (d : Nat) {r : Row} {l : Loc} {cs : Array Value} {ty : TypeId} {x : DV} {v : Value} (hd : st.at d = none) (hlt : d < st.h.length) (hal : r.alive = true)
  (hl : l.block = some w.heap.size)
  (hrow : ∀ M' : Map, M' d = some l → Stp w0 N0 M M' w (w.alloc (.cells cs ty)) → RelR (w.alloc (.cells cs ty)) w0.heap.size (fgn w0 N0 M') M' d r)
  (hv : ∀ M' : Map, M' d = some l → RelD (RelC (w.alloc (.cells cs ty)) (fgn w0 N0 M') M') x v) :
  ∃ M', Abs w0 N0 Z M' (({ st with h := st.h.set d (some r) } : DS).putO (some d) (some x)) (a.put (some d) v) (w.alloc (.cells cs ty)) := by
 let M' : Map := fun k => if k = d then some l else M k
 have hMd : M d = none := ha.dom d hd
 have hM'd : M' d = some l := by simp [M']
 have hM' : ∀ k, k ≠ d → M' k = M k := fun k h => by simp [M', h]
 have hnl : w.heap.size ≤ (w.alloc (.cells cs ty)).heap.size := by simp
 have hbe : Below w.heap.size w (w.alloc (.cells cs ty)) := (Below.refl _ _).alloc (Nat.le_refl _) _
 have stp : Stp w0 N0 M M' w (w.alloc (.cells cs ty)) := by
  refine ⟨hnl, fun b _ hb => hbe.block b hb, fun k l' h => ?_, fun k l' b h1 h2 => ?_⟩
  ·rw [hM' k (fun e => by rw [e, hMd] at h; cases h)]; exact h
  ·by_cases e : k = d
   ·subst e; rw [hM'd] at h1; cases h1; rw [hl] at h2; cases h2; exact Or.inr (Nat.le_refl _)
   ·rw [hM' k e] at h1; exact Or.inl ⟨k, l', h1, h2⟩
 have hat : ∀ k, (({ st with h := st.h.set d (some r) } : DS).putO (some d) (some x)).at k = if d = k ∧ d < st.h.length then some r else st.at k := fun k => by
  rw [at_putO]; unfold DS.at; exact getset _ _ _ _
 refine ⟨M', ha.step stp (hbe.mono ha.below.size) (by rw [put_size, len_putO]; exact ha.fits) (put_defs _ _ _) (fun i dv h => ?_) (fun k r' h => ?_) (fun k h => ?_) (fun k l' b h1 h2 => ?_) (fun k k' r1 r2 l1 l2 b h1 h2 h3 h4 h5 h6 h7 h8 => ?_)⟩
 ·exact tmp_putO (st := { st with h := st.h.set d (some r) }) ha.fits (fun dv e => by cases e; exact hv M' hM'd) i dv h
 ·rw [hat] at h
  by_cases e : d = k ∧ d < st.h.length
  ·rw [if_pos e] at h; cases h; rw [← e.1]; exact Or.inr (hrow M' hM'd stp)
  ·rw [if_neg e] at h
   exact Or.inl ⟨h, fun _ l' b h1 h2 => hbe.block b (ha.own k l' b h1 h2).2⟩
 ·rw [hat] at h
  by_cases e : d = k ∧ d < st.h.length
  ·rw [if_pos e] at h; cases h
  ·rw [if_neg e] at h
   by_cases e2 : k = d
   ·exact (e ⟨e2.symm, hlt⟩).elim
   ·rw [hM' k e2]; exact ha.dom k h
 ·by_cases e : k = d
  ·subst e; rw [hM'd] at h1; cases h1; rw [hl] at h2; cases h2; exact ⟨ha.below.size, by simp⟩
  ·rw [hM' k e] at h1; have := ha.own k l' b h1 h2; exact ⟨this.1, by simp; omega⟩
 ·rw [hat] at h1 h3
  by_cases e : k = d
  ·by_cases e' : k' = d
   ·rw [e, e']
   ·subst e; rw [hM'd] at h5; cases h5; rw [hl] at h7; cases h7
    rw [hM' k' e'] at h6; have := ha.own k' l2 _ h6 h8; omega
  ·rw [if_neg (fun h => e h.1.symm)] at h1
   rw [hM' k e] at h5
   by_cases e' : k' = d
   ·subst e'; rw [hM'd] at h6; cases h6; rw [hl] at h8; cases h8
    have := ha.own k l1 _ h5 h7; omega
   ·rw [if_neg (fun h => e' h.1.symm)] at h3
    rw [hM' k' e'] at h6
    exact ha.apart k k' r1 r2 l1 l2 b h1 h2 h3 h4 h5 h6 h7 h8
end Go.Proofs.YtfadkjcfjkmalaaGreatDoor.Ev