/- Texts of this claim, together. -/
import Derived.Shelf.Strings.Builder1
import Derived.Shelf.Strings.Builder2
import Derived.Shelf.Strings.OnBuilder
import Derived.Shelf.Strconv.Atoi
import Derived.Shelf.Strconv.Itoa0
import Derived.Shelf.Strconv.Itoa1
import Derived.Shelf.LaysM
import Derived.Shelf.Strconv.Itoa2
import Derived.Shelf.Strconv.Itoa3
import Derived.Shelf.Strconv.AtoiErrFast
import Derived.Shelf.Strconv.ParseIntEmpty
import Derived.Shelf.Strconv.AtoiFail
import Derived.Shelf.Strconv.Clone
import Derived.Shelf.Strconv.SyntaxError
import Derived.Shelf.LaysC
import Derived.Shelf.Strconv.ToError
import Derived.Shelf.Strconv.Lower
import Derived.Shelf.Strconv.ParseUint10
import Derived.Shelf.Strconv.ParseUint10Empty
import Derived.Shelf.Strconv.ParseUint10Any
import Derived.Shelf.Strconv.ParseInt10
import Derived.Shelf.Strconv.AtoiLong
import Derived.Shelf.Strconv.AtoiInnerAll
import Derived.Shelf.Strconv.RangeError
import Derived.Shelf.Strconv.ToErrorRange
import Derived.Shelf.Strconv.AtoiAll
import Derived.Shelf.Strings.Search1
import Derived.Shelf.Strings.Search2
import Derived.Shelf.Strings.Search3
import Derived.Shelf.Strings.Count
import Derived.Shelf.Strings.Shaped
import Derived.Shelf.Strings.Prefix
import Derived.Shelf.Strings.Split
import Derived.Shelf.Strings.SplitShaped
import Derived.Shelf.Unicode.DecodeSlow
import Derived.Ground.Names2Prog
import Derived.Shelf.Slices.SearchI
import Derived.Test.YtfadkjcfjkmalaaGreatDoorProg
import Derived.Test.YtfadkjcfjkmalaaGreatDoorLT1
import Derived.Test.YtfadkjcfjkmalaaGreatDoorRows
import Derived.ProofKit
import Derived.LaidMore
import Derived.LaidSub
import Derived.Lay
import Derived.Shelf.Vars
import Derived.OpenShut
import Derived.Stop.Joined
import Derived.HandedShaped
import Derived.Test.YtfadkjcfjkmalaaGreatDoorLT6
import Derived.Test.YtfadkjcfjkmalaaGreatDoorLT5

set_option maxRecDepth 100000
namespace Go.Proofs
open Go.Shelf
def Tryz.lays156_ren : Go.Shelf.Ren := ⟨fun | 156 => 37 | 165 => 79 | 166 => 80 | 169 => 81 | 240 => 106 | 241 => 107 | 276 => 123 | 277 => 124 | n => n, fun | 31 => 83 | 9 => 9 | 3 => 3 | 4 => 4 | 0 => 0 | 20 => 20 | 72 => 144 | 76 => 148 | 70 => 141 | 37 => 142 | 75 => 147 | 127 => 175 | 164 => 187 | 5 => 5 | 80 => 150 | n => n, fun | n => n⟩
theorem Tryz.lays156 : Go.Proofs.Lays.n156 Tryz.prog Tryz.lays156_ren := {
 mixed := by kernel_rfl
 f156 := Tryz.func37.trans (congrArg some (by kernel_rfl))
 f165 := Tryz.func79.trans (congrArg some (by kernel_rfl))
 f166 := Tryz.func80.trans (congrArg some (by kernel_rfl))
 f169 := Tryz.func81.trans (congrArg some (by kernel_rfl))
 f240 := Tryz.func106.trans (congrArg some (by kernel_rfl))
 f241 := Tryz.func107.trans (congrArg some (by kernel_rfl))
 f276 := Tryz.func123.trans (congrArg some (by kernel_rfl))
 f277 := Tryz.func124.trans (congrArg some (by kernel_rfl))
 t0 := Tryz.underlying0
 a0 := Tryz.isAgg0
 z0 := Tryz.sizeOf0
 v0 := Tryz.zeroValue0
 t3 := Tryz.underlying3
 a3 := Tryz.isAgg3
 z3 := Tryz.sizeOf3
 v3 := Tryz.zeroValue3
 t4 := Tryz.underlying4
 a4 := Tryz.isAgg4
 z4 := Tryz.sizeOf4
 v4 := Tryz.zeroValue4
 t9 := Tryz.underlying9
 a9 := Tryz.isAgg9
 z9 := Tryz.sizeOf9
 v9 := Tryz.zeroValue9
 t20 := Tryz.underlying20
 a20 := Tryz.isAgg20
 z20 := Tryz.sizeOf20
 v20 := Tryz.zeroValue20
 t31 := Tryz.underlying83
 a31 := Tryz.isAgg83
 z31 := Tryz.sizeOf83
 v31 := Tryz.zeroValue83
 t37 := Tryz.underlying142
 a37 := Tryz.isAgg142
 z37 := Tryz.sizeOf142
 v37 := Tryz.zeroValue142
 t70 := Tryz.underlying141
 a70 := Tryz.isAgg141
 z70 := Tryz.sizeOf141
 v70 := Tryz.zeroValue141
 t72 := Tryz.underlying144
 a72 := Tryz.isAgg144
 z72 := Tryz.sizeOf144
 v72 := Tryz.zeroValue144
 t75 := Tryz.underlying147
 a75 := Tryz.isAgg147
 z75 := Tryz.sizeOf147
 v75 := Tryz.zeroValue147
 t76 := Tryz.underlying148
 a76 := Tryz.isAgg148
 z76 := Tryz.sizeOf148
 v76 := Tryz.zeroValue148
 t127 := Tryz.underlying175
 a127 := Tryz.isAgg175
 z127 := Tryz.sizeOf175
 v127 := Tryz.zeroValue175
 t164 := Tryz.underlying187
 a164 := Tryz.isAgg187
 z164 := Tryz.sizeOf187
 v164 := Tryz.zeroValue187 }
theorem Tryz.Builder_Extra_156 : Builder.Extra Tryz.prog Tryz.lays156_ren := {
 sizeBuilder := by kernel_rfl
 liesBuilder := by kernel_rfl
 t5 := Tryz.underlying5
 a5 := Tryz.isAgg5
 z5 := Tryz.sizeOf5
 v5 := Tryz.zeroValue5
 infoByte := by kernel_rfl
 cellsByte := by kernel_rfl
 sizeByte := by kernel_rfl
 neB5 := by decide }
open Go.RowKit in
theorem Tryz.strings_Join_none (a : Option Addr) (c : Nat) (sep : ByteArray) (w : World) :
  Calls Tryz.prog 37 #[.slice a 0 c, .string sep] w fun e w' => e = .returned (.string ⟨#[]⟩) ∧ w' = w := Any.strings_Join_none Tryz.lays156 Tryz.Builder_Extra_156 a c sep w
open Go.RowKit in
theorem Tryz.strings_Join (bk o c : Nat) (xs : List ByteArray) (sep : ByteArray) (w : World) (hcells : ∀ (j : Nat) x, xs[j]? = some x → w.cell? ⟨bk, o + j, none⟩ = some (.string x)) (hbk : bk < w.heap.size) (hN : xs.length ≤ 140737488355328) (hcap : xs.length ≤ c) (hlen : (Lib.join (xs.map (·.data.toList)) sep.data.toList).length ≤ 140737488355328) :
  Calls Tryz.prog 37 #[.slice (some ⟨bk, o, none⟩) xs.length c, .string sep] w fun e w' => e = .returned (.string ⟨(Lib.join (xs.map (·.data.toList)) sep.data.toList).toArray⟩) ∧ Below w.heap.size w w' := Any.strings_Join Tryz.lays156 Tryz.Builder_Extra_156 bk o c xs sep w hcells hbk hN hcap hlen
def Tryz.laysM171_ren : Go.Shelf.Ren := ⟨fun | 171 => 78 | 243 => 105 | 246 => 122 | 283 => 139 | 284 => 140 | 285 => 141 | 286 => 142 | 129 => 153 | 317 => 152 | 318 => 154 | 319 => 155 | 320 => 156 | 337 => 161 | 338 => 162 | n => n, fun | 3 => 3 | 9 => 9 | 2 => 2 | 4 => 4 | 171 => 201 | 0 => 0 | 53 => 202 | 37 => 142 | 5 => 5 | 173 => 205 | 212 => 220 | 51 => 221 | 20 => 20 | 213 => 222 | 46 => 184 | 232 => 231 | 233 => 232 | n => n, fun | 17 => 5 | 18 => 6 | 19 => 7 | n => n⟩
theorem Tryz.laysM171 : Go.Proofs.LaysM.n171 Tryz.prog Tryz.laysM171_ren := {
 mixed := by kernel_rfl
 f129 := Tryz.func153.trans (congrArg some (by kernel_rfl))
 f171 := Tryz.func78.trans (congrArg some (by kernel_rfl))
 f243 := Tryz.func105.trans (congrArg some (by kernel_rfl))
 f246 := Tryz.func122.trans (congrArg some (by kernel_rfl))
 f283 := Tryz.func139.trans (congrArg some (by kernel_rfl))
 f284 := Tryz.func140.trans (congrArg some (by kernel_rfl))
 f285 := Tryz.func141.trans (congrArg some (by kernel_rfl))
 f286 := Tryz.func142.trans (congrArg some (by kernel_rfl))
 f317 := Tryz.func152.trans (congrArg some (by kernel_rfl))
 f318 := Tryz.func154.trans (congrArg some (by kernel_rfl))
 f319 := Tryz.func155.trans (congrArg some (by kernel_rfl))
 f320 := Tryz.func156.trans (congrArg some (by kernel_rfl))
 f337 := Tryz.func161.trans (congrArg some (by kernel_rfl))
 f338 := Tryz.func162.trans (congrArg some (by kernel_rfl))
 t0 := Tryz.underlying0
 a0 := Tryz.isAgg0
 z0 := Tryz.sizeOf0
 v0 := Tryz.zeroValue0
 t2 := Tryz.underlying2
 a2 := Tryz.isAgg2
 z2 := Tryz.sizeOf2
 v2 := Tryz.zeroValue2
 t3 := Tryz.underlying3
 a3 := Tryz.isAgg3
 z3 := Tryz.sizeOf3
 v3 := Tryz.zeroValue3
 t4 := Tryz.underlying4
 a4 := Tryz.isAgg4
 z4 := Tryz.sizeOf4
 v4 := Tryz.zeroValue4
 t5 := Tryz.underlying5
 a5 := Tryz.isAgg5
 z5 := Tryz.sizeOf5
 v5 := Tryz.zeroValue5
 t9 := Tryz.underlying9
 a9 := Tryz.isAgg9
 z9 := Tryz.sizeOf9
 v9 := Tryz.zeroValue9
 t20 := Tryz.underlying20
 a20 := Tryz.isAgg20
 z20 := Tryz.sizeOf20
 v20 := Tryz.zeroValue20
 t37 := Tryz.underlying142
 a37 := Tryz.isAgg142
 z37 := Tryz.sizeOf142
 v37 := Tryz.zeroValue142
 t46 := Tryz.underlying184
 a46 := Tryz.isAgg184
 z46 := Tryz.sizeOf184
 v46 := Tryz.zeroValue184
 t51 := Tryz.underlying221
 a51 := Tryz.isAgg221
 z51 := Tryz.sizeOf221
 v51 := Tryz.zeroValue221
 t53 := Tryz.underlying202
 a53 := Tryz.isAgg202
 z53 := Tryz.sizeOf202
 v53 := Tryz.zeroValue202
 t171 := Tryz.underlying201
 a171 := Tryz.isAgg201
 z171 := Tryz.sizeOf201
 v171 := Tryz.zeroValue201
 t173 := Tryz.underlying205
 a173 := Tryz.isAgg205
 z173 := Tryz.sizeOf205
 v173 := Tryz.zeroValue205
 t212 := Tryz.underlying220
 a212 := Tryz.isAgg220
 z212 := Tryz.sizeOf220
 v212 := Tryz.zeroValue220
 t213 := Tryz.underlying222
 a213 := Tryz.isAgg222
 z213 := Tryz.sizeOf222
 t232 := Tryz.underlying231
 a232 := Tryz.isAgg231
 z232 := Tryz.sizeOf231
 v232 := Tryz.zeroValue231
 t233 := Tryz.underlying232
 a233 := Tryz.isAgg232
 z233 := Tryz.sizeOf232
 v233 := Tryz.zeroValue232
 g17 := by kernel_rfl
 g18 := by kernel_rfl
 g19 := by kernel_rfl
 i0 := by kernel_rfl
 i2 := by kernel_rfl
 i3 := by kernel_rfl
 i4 := by kernel_rfl
 i5 := by kernel_rfl
 i9 := by kernel_rfl
 i20 := by kernel_rfl
 i37 := by kernel_rfl
 i46 := by kernel_rfl
 i51 := by kernel_rfl
 i53 := by kernel_rfl
 i171 := by kernel_rfl
 i173 := by kernel_rfl
 i212 := by kernel_rfl
 i232 := by kernel_rfl
 i233 := by kernel_rfl
 m17 := by kernel_rfl
 m18 := by kernel_rfl
 m19 := by kernel_rfl }
open Go.RowKit Go.Sort Go.Lib in
theorem Tryz.strconv_Itoa (n : Int) (h0 : -9223372036854775808 ≤ n) (h1 : n ≤ 9223372036854775807) (w : World) (htab : Lib.TabIs Tryz.prog w "internal/strconv.uint64pow10" .u64 Lib.pow10Tab) :
  Calls Tryz.prog 78 #[.int .i64 n] w fun e w' => e = .returned (.string ⟨(Lib.itoa n).toArray⟩) ∧ ∃ k os, w' = grow (w.drewN k) os := Any.strconv_Itoa Tryz.laysM171 n h0 h1 w htab
def Tryz.laysC172_ren : Go.Shelf.Ren := ⟨fun | 172 => 84 | 244 => 112 | 245 => 113 | 247 => 129 | 279 => 130 | 280 => 131 | 281 => 132 | 282 => 133 | 287 => 149 | 316 => 150 | 171 => 78 | 205 => 151 | 321 => 159 | 322 => 160 | 243 => 105 | 246 => 122 | 283 => 139 | 284 => 140 | 285 => 141 | 286 => 142 | 129 => 153 | 317 => 152 | 318 => 154 | 319 => 155 | 320 => 156 | 337 => 161 | 338 => 162 | n => n, fun | 9 => 9 | 3 => 3 | 75 => 147 | 76 => 148 | 4 => 4 | 5 => 5 | 167 => 191 | 37 => 142 | 0 => 0 | 85 => 192 | 2 => 2 | 168 => 194 | 53 => 202 | 175 => 213 | 46 => 184 | 210 => 217 | 127 => 175 | 145 => 229 | 143 => 227 | 21 => 21 | 171 => 201 | 173 => 205 | 212 => 220 | 51 => 221 | 20 => 20 | 213 => 222 | 232 => 231 | 233 => 232 | 80 => 150 | n => n, fun | 15 => 3 | 16 => 4 | 17 => 5 | 18 => 6 | 19 => 7 | n => n⟩
theorem Tryz.laysC172 : Go.Proofs.LaysC.n172 Tryz.prog Tryz.laysC172_ren := {
 mixed := by kernel_rfl
 f129 := Tryz.func153.trans (congrArg some (by kernel_rfl))
 f171 := Tryz.func78.trans (congrArg some (by kernel_rfl))
 f172 := Tryz.func84.trans (congrArg some (by kernel_rfl))
 f205 := Tryz.func151.trans (congrArg some (by kernel_rfl))
 f243 := Tryz.func105.trans (congrArg some (by kernel_rfl))
 f244 := Tryz.func112.trans (congrArg some (by kernel_rfl))
 f245 := Tryz.func113.trans (congrArg some (by kernel_rfl))
 f246 := Tryz.func122.trans (congrArg some (by kernel_rfl))
 f247 := Tryz.func129.trans (congrArg some (by kernel_rfl))
 f279 := Tryz.func130.trans (congrArg some (by kernel_rfl))
 f280 := Tryz.func131.trans (congrArg some (by kernel_rfl))
 f281 := Tryz.func132.trans (congrArg some (by kernel_rfl))
 f282 := Tryz.func133.trans (congrArg some (by kernel_rfl))
 f283 := Tryz.func139.trans (congrArg some (by kernel_rfl))
 f284 := Tryz.func140.trans (congrArg some (by kernel_rfl))
 f285 := Tryz.func141.trans (congrArg some (by kernel_rfl))
 f286 := Tryz.func142.trans (congrArg some (by kernel_rfl))
 f287 := Tryz.func149.trans (congrArg some (by kernel_rfl))
 f316 := Tryz.func150.trans (congrArg some (by kernel_rfl))
 f317 := Tryz.func152.trans (congrArg some (by kernel_rfl))
 f318 := Tryz.func154.trans (congrArg some (by kernel_rfl))
 f319 := Tryz.func155.trans (congrArg some (by kernel_rfl))
 f320 := Tryz.func156.trans (congrArg some (by kernel_rfl))
 f321 := Tryz.func159.trans (congrArg some (by kernel_rfl))
 f322 := Tryz.func160.trans (congrArg some (by kernel_rfl))
 f337 := Tryz.func161.trans (congrArg some (by kernel_rfl))
 f338 := Tryz.func162.trans (congrArg some (by kernel_rfl))
 t0 := Tryz.underlying0
 a0 := Tryz.isAgg0
 z0 := Tryz.sizeOf0
 v0 := Tryz.zeroValue0
 t2 := Tryz.underlying2
 a2 := Tryz.isAgg2
 z2 := Tryz.sizeOf2
 v2 := Tryz.zeroValue2
 t3 := Tryz.underlying3
 a3 := Tryz.isAgg3
 z3 := Tryz.sizeOf3
 v3 := Tryz.zeroValue3
 t4 := Tryz.underlying4
 a4 := Tryz.isAgg4
 z4 := Tryz.sizeOf4
 v4 := Tryz.zeroValue4
 t5 := Tryz.underlying5
 a5 := Tryz.isAgg5
 z5 := Tryz.sizeOf5
 v5 := Tryz.zeroValue5
 t9 := Tryz.underlying9
 a9 := Tryz.isAgg9
 z9 := Tryz.sizeOf9
 v9 := Tryz.zeroValue9
 t20 := Tryz.underlying20
 a20 := Tryz.isAgg20
 z20 := Tryz.sizeOf20
 v20 := Tryz.zeroValue20
 t21 := Tryz.underlying21
 a21 := Tryz.isAgg21
 z21 := Tryz.sizeOf21
 v21 := Tryz.zeroValue21
 t37 := Tryz.underlying142
 a37 := Tryz.isAgg142
 z37 := Tryz.sizeOf142
 v37 := Tryz.zeroValue142
 t46 := Tryz.underlying184
 a46 := Tryz.isAgg184
 z46 := Tryz.sizeOf184
 v46 := Tryz.zeroValue184
 t51 := Tryz.underlying221
 a51 := Tryz.isAgg221
 z51 := Tryz.sizeOf221
 v51 := Tryz.zeroValue221
 t53 := Tryz.underlying202
 a53 := Tryz.isAgg202
 z53 := Tryz.sizeOf202
 v53 := Tryz.zeroValue202
 t75 := Tryz.underlying147
 a75 := Tryz.isAgg147
 z75 := Tryz.sizeOf147
 v75 := Tryz.zeroValue147
 t76 := Tryz.underlying148
 a76 := Tryz.isAgg148
 z76 := Tryz.sizeOf148
 v76 := Tryz.zeroValue148
 t85 := Tryz.underlying192
 a85 := Tryz.isAgg192
 z85 := Tryz.sizeOf192
 v85 := Tryz.zeroValue192
 t127 := Tryz.underlying175
 a127 := Tryz.isAgg175
 z127 := Tryz.sizeOf175
 v127 := Tryz.zeroValue175
 t143 := Tryz.underlying227
 a143 := Tryz.isAgg227
 z143 := Tryz.sizeOf227
 v143 := Tryz.zeroValue227
 t145 := Tryz.underlying229
 a145 := Tryz.isAgg229
 z145 := Tryz.sizeOf229
 v145 := Tryz.zeroValue229
 t167 := Tryz.underlying191
 a167 := Tryz.isAgg191
 z167 := Tryz.sizeOf191
 v167 := Tryz.zeroValue191
 t168 := Tryz.underlying194
 a168 := Tryz.isAgg194
 z168 := Tryz.sizeOf194
 v168 := Tryz.zeroValue194
 t171 := Tryz.underlying201
 a171 := Tryz.isAgg201
 z171 := Tryz.sizeOf201
 v171 := Tryz.zeroValue201
 t173 := Tryz.underlying205
 a173 := Tryz.isAgg205
 z173 := Tryz.sizeOf205
 v173 := Tryz.zeroValue205
 t175 := Tryz.underlying213
 a175 := Tryz.isAgg213
 z175 := Tryz.sizeOf213
 v175 := Tryz.zeroValue213
 t210 := Tryz.underlying217
 a210 := Tryz.isAgg217
 z210 := Tryz.sizeOf217
 v210 := Tryz.zeroValue217
 t212 := Tryz.underlying220
 a212 := Tryz.isAgg220
 z212 := Tryz.sizeOf220
 v212 := Tryz.zeroValue220
 t213 := Tryz.underlying222
 a213 := Tryz.isAgg222
 z213 := Tryz.sizeOf222
 t232 := Tryz.underlying231
 a232 := Tryz.isAgg231
 z232 := Tryz.sizeOf231
 v232 := Tryz.zeroValue231
 t233 := Tryz.underlying232
 a233 := Tryz.isAgg232
 z233 := Tryz.sizeOf232
 v233 := Tryz.zeroValue232
 g15 := by kernel_rfl
 g16 := by kernel_rfl
 g17 := by kernel_rfl
 g18 := by kernel_rfl
 g19 := by kernel_rfl
 t80 := Tryz.underlying150
 a80 := Tryz.isAgg150
 z80 := Tryz.sizeOf150
 v80 := Tryz.zeroValue150
 i0 := by kernel_rfl
 i2 := by kernel_rfl
 i3 := by kernel_rfl
 i4 := by kernel_rfl
 i5 := by kernel_rfl
 i9 := by kernel_rfl
 i20 := by kernel_rfl
 i21 := by kernel_rfl
 i37 := by kernel_rfl
 i46 := by kernel_rfl
 i51 := by kernel_rfl
 i53 := by kernel_rfl
 i75 := by kernel_rfl
 i76 := by kernel_rfl
 i80 := by kernel_rfl
 i85 := by kernel_rfl
 i127 := by kernel_rfl
 i143 := by kernel_rfl
 i145 := by kernel_rfl
 i167 := by kernel_rfl
 i168 := by kernel_rfl
 i171 := by kernel_rfl
 i173 := by kernel_rfl
 i175 := by kernel_rfl
 i210 := by kernel_rfl
 i212 := by kernel_rfl
 i232 := by kernel_rfl
 i233 := by kernel_rfl
 m15 := by kernel_rfl
 m16 := by kernel_rfl
 m17 := by kernel_rfl
 m18 := by kernel_rfl
 m19 := by kernel_rfl
 c0 := by kernel_rfl
 c2 := by kernel_rfl
 c3 := by kernel_rfl
 c4 := by kernel_rfl
 c5 := by kernel_rfl
 c9 := by kernel_rfl
 c20 := by kernel_rfl
 c21 := by kernel_rfl
 c37 := by kernel_rfl
 c46 := by kernel_rfl
 c51 := by kernel_rfl
 c53 := by kernel_rfl
 c75 := by kernel_rfl
 c76 := by kernel_rfl
 c80 := by kernel_rfl
 c85 := by kernel_rfl
 c127 := by kernel_rfl
 c143 := by kernel_rfl
 c145 := by kernel_rfl
 c167 := by kernel_rfl
 c168 := by kernel_rfl
 c171 := by kernel_rfl
 c173 := by kernel_rfl
 c175 := by kernel_rfl
 c210 := by kernel_rfl
 c212 := by kernel_rfl
 c213 := by kernel_rfl
 c232 := by kernel_rfl
 c233 := by kernel_rfl }
open Go.RowKit in
theorem Tryz.strconv_Atoi_ok (s : ByteArray) (hmax : s.size ≤ 9223372036854775806) (v : Int) (h : Lib.atoiAll s.data.toList = .ok v) (w : World) :
  Calls Tryz.prog 84 #[.string s] w fun e w' => e = .returned (.tuple #[.int .i64 v, .nilIface]) ∧ (w' = w ∨ ∃ t, w' = Lib.bytesWorld w 5 t) := Any.strconv_Atoi_ok Tryz.laysC172 s hmax v h w
open Go.RowKit in
theorem Tryz.strconv_Atoi_syntax (s : ByteArray) (hlim : s.size ≤ 281474976710656) (h : Lib.atoiAll s.data.toList = Lib.atoiAll []) (ev : Value) (w : World) (hv : w.cell? ⟨3, 0, none⟩ = some ev) (hev : ev = .nilIface ∨ ∃ te pe, ev = .iface te pe) :
  Calls Tryz.prog 84 #[.string s] w fun e w' => ∃ N, e = .returned (.tuple #[.int .i64 (0), .iface 194 (.pointer (some ⟨N, 0, none⟩))]) ∧ w.heap.size ≤ N ∧ w'.heap[N]? = some (.cells #[.string ⟨#[65, 116, 111, 105]⟩, .string s, ev] 217 (0, 0)) ∧ Below w.heap.size w w' := Any.strconv_Atoi_syntax Tryz.laysC172 s hlim h ev w hv hev
open Go.RowKit in
theorem Tryz.strconv_Atoi_range (s : ByteArray) (hlim : s.size ≤ 281474976710656) (h : Lib.atoiAll s.data.toList = .range) (ev : Value) (w : World) (hv : w.cell? ⟨4, 0, none⟩ = some ev) (hev : ev = .nilIface ∨ ∃ te pe, ev = .iface te pe) :
  Calls Tryz.prog 84 #[.string s] w fun e w' => ∃ N, e = .returned (.tuple #[.int .i64 (Lib.atoiSat s.data.toList), .iface 194 (.pointer (some ⟨N, 0, none⟩))]) ∧ w.heap.size ≤ N ∧ w'.heap[N]? = some (.cells #[.string ⟨#[65, 116, 111, 105]⟩, .string s, ev] 217 (0, 0)) ∧ Below w.heap.size w w' := Any.strconv_Atoi_range Tryz.laysC172 s hlim h ev w hv hev
def Tryz.lays143_ren : Go.Shelf.Ren := ⟨fun | 143 => 110 | 219 => 126 | 217 => 143 | 225 => 144 | 224 => 145 | 267 => 146 | 266 => 157 | 314 => 158 | n => n, fun | 9 => 9 | 3 => 3 | 4 => 4 | 5 => 5 | 46 => 184 | 146 => 224 | 51 => 221 | n => n, fun | 1 => 0 | n => n⟩
theorem Tryz.lays143 : Go.Proofs.Lays.n143 Tryz.prog Tryz.lays143_ren := {
 mixed := by kernel_rfl
 f143 := Tryz.func110.trans (congrArg some (by kernel_rfl))
 f217 := Tryz.func143.trans (congrArg some (by kernel_rfl))
 f219 := Tryz.func126.trans (congrArg some (by kernel_rfl))
 f224 := Tryz.func145.trans (congrArg some (by kernel_rfl))
 f225 := Tryz.func144.trans (congrArg some (by kernel_rfl))
 f266 := Tryz.func157.trans (congrArg some (by kernel_rfl))
 f267 := Tryz.func146.trans (congrArg some (by kernel_rfl))
 f314 := Tryz.func158.trans (congrArg some (by kernel_rfl))
 t3 := Tryz.underlying3
 a3 := Tryz.isAgg3
 z3 := Tryz.sizeOf3
 v3 := Tryz.zeroValue3
 t4 := Tryz.underlying4
 a4 := Tryz.isAgg4
 z4 := Tryz.sizeOf4
 v4 := Tryz.zeroValue4
 t5 := Tryz.underlying5
 a5 := Tryz.isAgg5
 z5 := Tryz.sizeOf5
 v5 := Tryz.zeroValue5
 t9 := Tryz.underlying9
 a9 := Tryz.isAgg9
 z9 := Tryz.sizeOf9
 v9 := Tryz.zeroValue9
 t46 := Tryz.underlying184
 a46 := Tryz.isAgg184
 z46 := Tryz.sizeOf184
 v46 := Tryz.zeroValue184
 t51 := Tryz.underlying221
 a51 := Tryz.isAgg221
 z51 := Tryz.sizeOf221
 v51 := Tryz.zeroValue221
 t146 := Tryz.underlying224
 a146 := Tryz.isAgg224
 z146 := Tryz.sizeOf224
 v146 := Tryz.zeroValue224
 g1 := by kernel_rfl }
open Go.RowKit Go.Lib in
theorem Tryz.strings_Index (s sub : ByteArray) (m : Int) (w : World) (hs : s.size < 4294967281) (hm : w.cell? ⟨0, 0, none⟩ = some (.int .i64 m)) :
  Calls Tryz.prog 110 #[.string s, .string sub] w fun e w' => e = .returned (.int .i64 (Lib.index s.data.toList sub.data.toList)) ∧ w' = w := Any.strings_Index Tryz.lays143 s sub m w hs hm
def Tryz.lays101_ren : Go.Shelf.Ren := ⟨fun | 101 => 85 | 208 => 114 | 206 => 134 | n => n, fun | 9 => 9 | 4 => 4 | 3 => 3 | n => n, fun | n => n⟩
theorem Tryz.lays101 : Go.Proofs.Lays.n101 Tryz.prog Tryz.lays101_ren := {
 mixed := by kernel_rfl
 f101 := Tryz.func85.trans (congrArg some (by kernel_rfl))
 f206 := Tryz.func134.trans (congrArg some (by kernel_rfl))
 f208 := Tryz.func114.trans (congrArg some (by kernel_rfl))
 t3 := Tryz.underlying3
 a3 := Tryz.isAgg3
 z3 := Tryz.sizeOf3
 v3 := Tryz.zeroValue3
 t4 := Tryz.underlying4
 a4 := Tryz.isAgg4
 z4 := Tryz.sizeOf4
 v4 := Tryz.zeroValue4
 t9 := Tryz.underlying9
 a9 := Tryz.isAgg9
 z9 := Tryz.sizeOf9
 v9 := Tryz.zeroValue9 }
open Go.RowKit Go.Lib in
theorem Tryz.strings_TrimPrefix (s p : ByteArray) (w : World) :
  Calls Tryz.prog 85 #[.string s, .string p] w fun e w' => e = .returned (.string ⟨(Lib.trimPrefix s.data.toList p.data.toList).toArray⟩) ∧ w' = w := Any.strings_TrimPrefix Tryz.lays101 s p w
def Tryz.lays146_ren : Go.Shelf.Ren := ⟨fun | 146 => 83 | 221 => 111 | 268 => 127 | 138 => 128 | 143 => 110 | 195 => 147 | 197 => 109 | 218 => 148 | 219 => 126 | 260 => 125 | 217 => 143 | 225 => 144 | 224 => 145 | 267 => 146 | 266 => 157 | 314 => 158 | n => n, fun | 9 => 9 | 31 => 83 | 3 => 3 | 4 => 4 | 0 => 0 | 105 => 177 | 21 => 21 | 5 => 5 | 46 => 184 | 119 => 207 | 139 => 210 | 138 => 209 | 146 => 224 | 51 => 221 | n => n, fun | 1 => 0 | 3 => 1 | 4 => 2 | n => n⟩
theorem Tryz.lays146 : Go.Proofs.Lays.n146 Tryz.prog Tryz.lays146_ren := {
 mixed := by kernel_rfl
 f138 := Tryz.func128.trans (congrArg some (by kernel_rfl))
 f143 := Tryz.func110.trans (congrArg some (by kernel_rfl))
 f146 := Tryz.func83.trans (congrArg some (by kernel_rfl))
 f195 := Tryz.func147.trans (congrArg some (by kernel_rfl))
 f197 := Tryz.func109.trans (congrArg some (by kernel_rfl))
 f217 := Tryz.func143.trans (congrArg some (by kernel_rfl))
 f218 := Tryz.func148.trans (congrArg some (by kernel_rfl))
 f219 := Tryz.func126.trans (congrArg some (by kernel_rfl))
 f221 := Tryz.func111.trans (congrArg some (by kernel_rfl))
 f224 := Tryz.func145.trans (congrArg some (by kernel_rfl))
 f225 := Tryz.func144.trans (congrArg some (by kernel_rfl))
 f260 := Tryz.func125.trans (congrArg some (by kernel_rfl))
 f266 := Tryz.func157.trans (congrArg some (by kernel_rfl))
 f267 := Tryz.func146.trans (congrArg some (by kernel_rfl))
 f268 := Tryz.func127.trans (congrArg some (by kernel_rfl))
 f314 := Tryz.func158.trans (congrArg some (by kernel_rfl))
 t0 := Tryz.underlying0
 a0 := Tryz.isAgg0
 z0 := Tryz.sizeOf0
 v0 := Tryz.zeroValue0
 t3 := Tryz.underlying3
 a3 := Tryz.isAgg3
 z3 := Tryz.sizeOf3
 v3 := Tryz.zeroValue3
 t4 := Tryz.underlying4
 a4 := Tryz.isAgg4
 z4 := Tryz.sizeOf4
 v4 := Tryz.zeroValue4
 t5 := Tryz.underlying5
 a5 := Tryz.isAgg5
 z5 := Tryz.sizeOf5
 v5 := Tryz.zeroValue5
 t9 := Tryz.underlying9
 a9 := Tryz.isAgg9
 z9 := Tryz.sizeOf9
 v9 := Tryz.zeroValue9
 t21 := Tryz.underlying21
 a21 := Tryz.isAgg21
 z21 := Tryz.sizeOf21
 v21 := Tryz.zeroValue21
 t31 := Tryz.underlying83
 a31 := Tryz.isAgg83
 z31 := Tryz.sizeOf83
 v31 := Tryz.zeroValue83
 t46 := Tryz.underlying184
 a46 := Tryz.isAgg184
 z46 := Tryz.sizeOf184
 v46 := Tryz.zeroValue184
 t51 := Tryz.underlying221
 a51 := Tryz.isAgg221
 z51 := Tryz.sizeOf221
 v51 := Tryz.zeroValue221
 t105 := Tryz.underlying177
 a105 := Tryz.isAgg177
 z105 := Tryz.sizeOf177
 v105 := Tryz.zeroValue177
 t119 := Tryz.underlying207
 a119 := Tryz.isAgg207
 z119 := Tryz.sizeOf207
 t138 := Tryz.underlying209
 a138 := Tryz.isAgg209
 z138 := Tryz.sizeOf209
 v138 := Tryz.zeroValue209
 t139 := Tryz.underlying210
 a139 := Tryz.isAgg210
 z139 := Tryz.sizeOf210
 v139 := Tryz.zeroValue210
 t146 := Tryz.underlying224
 a146 := Tryz.isAgg224
 z146 := Tryz.sizeOf224
 v146 := Tryz.zeroValue224
 g1 := by kernel_rfl
 g3 := by kernel_rfl
 g4 := by kernel_rfl }
open Go.RowKit Go.Lib in
theorem Tryz.strings_Split (s sep : ByteArray) (m : Int) (w : World) (hs : s.size < 4294967281) (hm : w.cell? ⟨0, 0, none⟩ = some (.int .i64 m)) (h1 : 1 ≤ sep.size) :
  Calls Tryz.prog 83 #[.string s, .string sep] w fun e w' =>
   e = .returned (.slice (some ⟨w.heap.size, 0, none⟩) (Lib.countB s sep + 1) (Lib.countB s sep + 1)) ∧ w' = w.alloc (.cells ((Lib.splitB sep 0 (Lib.countB s sep) s).map Value.string).toArray 9) := Any.strings_Split Tryz.lays146 (by kernel_rfl) s sep m w hs hm h1
end Go.Proofs
set_option linter.unusedVariables false
namespace Go.Proofs.YtfadkjcfjkmalaaGreatDoor
theorem qe3 {H : Type} {enc : TypeId × Value → H} {a : Assume} {C : Checked} {os : Os} {f : FuncId} {fn : Func} {s : ChangeSpec} {conds : List PathCond} {apart fresh handsOn again : Bool} {X : World → Array Value → Prop}
  (hX : ∀ (w w' : World) (args : Array Value), w.heap = w'.heap → X w args → X w' args)
  (own : ownKnob C.prog.godebug = none) (started : os.Started) (noInit : C.prog.inits.idxOf? f = none) (hfn : C.prog.funcs[f]? = some fn)
  (witness : ∃ (w : World) (tape : Tape) (i : Input), w.os = os ∧ (w.forCall tape i).Shaped C.prog ∧ i.vars = [] ∧ Input.okWide C.prog (w.forCall tape i) .any w.heap.size f i ∧
   ((s.pre enc C.prog fn conds apart (w.forCall tape i).memory i.args ∧ X (w.forCall tape i).memory i.args) ∧ sizedMet enc C.prog fn (OpenSpec.ofChange s) apart (w.forCall tape i).memory i.args) ∧ a.holds C.prog (lone (Frame.enter C.prog f i.args .normal) [] (w.forCall tape i)))
  (contract : ∀ (W : World) (base : Nat) (args : Array Value) (ds gs : List (DataW H)) (before : List MemPlace),
   (∀ (j : Nat) t v, fn.params[j]? = some t → args[j]? = some v → Value.okWide C.prog W .any base t v) →
   DataW.Whole enc C.prog fn.params.toList s.vars apart W args.toList ds gs before →
   conds.all (PathCond.test C.prog ⟨fn.params.toList, ds, s.plain.varTypes C.prog, gs⟩) = true →
   (DataW.weightsEach C.prog (fn.params.toList ++ s.plain.varTypes C.prog) (ds ++ gs)).all (· ≤ reachBytes) = true → (W.ShapedOpen C.prog ∧ X W args) →
   a.holds C.prog (lone (Frame.enter C.prog f args .normal) [] W) →
   Calls C.prog f args W fun e W' => ∃ v, e = .returned v ∧ s.post enc C.prog fn apart fresh handsOn again W args v W') :
  ReturnsInHanded a C os f .any (fun w args => (s.pre enc C.prog fn conds apart w args ∧ X w args) ∧ sizedMet enc C.prog fn (OpenSpec.ofChange s) apart w args) (s.post enc C.prog fn apart fresh handsOn again) := by
 refine returnsInHanded_of_calls own started noInit witness ?_
 intro w tape i _ hsh _ hok hpre hholds
 obtain ⟨_, _, _, fn', hfn', _, _, _, _, hval⟩ := hok
 have e : fn' = fn := Option.some.inj (hfn'.symm.trans hfn)
 subst e
 obtain ⟨⟨⟨ds, gs, before, hw, hc⟩, hx⟩, hz⟩ := hpre
 have hw' := DataW.Whole.of_heap (w' := w.forCall tape i) (by rfl) hw
 refine (contract (w.forCall tape i) w.heap.size i.args ds gs before hval hw' hc (hz.weights hw) ⟨hsh, hX _ _ _ (by rfl) hx⟩ hholds).mono fun e W' ⟨v, he, hp⟩ => ?_
 subst he
 exact ChangeSpec.post_blind hp
open Go.ChangeShapes Go.WideShapes Go.ChangeAt Go.RowKit Ev
def q4w : List (String × DataW Unit) := [("math/bits.deBruijn32tab", Rows.laid_math_bits_deBruijn32tab), ("math/bits.deBruijn64tab", Rows.laid_math_bits_deBruijn64tab), ("internal/strconv.uint64pow10", Rows.laid_internal_strconv_uint64pow10), ("unicode/utf8.acceptRanges", Rows.laid_unicode_utf8_acceptRanges), ("strconv.ErrRange", Rows.laid_strconv_ErrRange), ("strconv.ErrSyntax", Rows.laid_strconv_ErrSyntax), ("unicode/utf8.first", Rows.laid_unicode_utf8_first)]
theorem laid_met (os : Os) (args : Array Value) : laidMetH Tryz.prog q4w ((World.laidAll Tryz.prog os q4w).forCall (fun _ _ => 0) ⟨#[], args, []⟩).memory := by
 rw [MakeChecks.laidMetH_plain _ _ _ (by kernel_rfl)]
 exact laidMet_laidAll _ (by kernel_rfl) (by kernel_rfl)
theorem lone_of {W : World} {n : String} {d : DataW Unit} (h : laidMetH Tryz.prog q4w W) (hf : q4w.filter (fun x => x.1 == n) = [(n, d)]) (hp : d.handleName?.isNone = true) :
  ∃ g t cs fuel p, Tryz.prog.globalNamed n = some g ∧ (Tryz.prog.globals[g]?).map (·.type) = some t ∧ W.var? Tryz.prog n = some cs ∧ DataW.trod (fun _ => ()) Tryz.prog W 0 (fun _ => true) false fuel t cs.toList = some (d, p) := by
 have h1 := h.filter (fun x => x.1 == n)
 rw [hf, MakeChecks.laidMetH_plain _ _ _ (by simp [hp])] at h1
 obtain ⟨ps, ⟨g1, t1, cs1, f1, p1, q1, hg1, ht1, hv1, hd1, _, _⟩, _, _⟩ := h1
 exact ⟨g1, t1, cs1, f1, p1, hg1, ht1, hv1, hd1⟩
theorem qjY {W : World} {n : String} {d : DataW Unit} {g : Nat} {t e : TypeId} {k : IntKind} {l : List Int} (h : laidMetH Tryz.prog q4w W) (hf : q4w.filter (fun x => x.1 == n) = [(n, d)]) (hp : d.handleName?.isNone = true)
  (hg : Tryz.prog.globalNamed n = some g) (ht : (Tryz.prog.globals[g]?).map (·.type) = some t) (hu : Tryz.prog.underlying t = some (.array l.length e)) (he : Tryz.prog.underlying e = some (.int k)) (c1 : Tryz.prog.cellsOf e = 1) (cn : Tryz.prog.cellsOf t = l.length)
  (hl : d = .agg (l.map fun n => DataW.lit (Lit.int k n))) : W.var? Tryz.prog n = some (l.map (Value.int k)).toArray := by
 obtain ⟨g1, t1, cs1, f1, p1, hg1, ht1, hv1, hd1⟩ := lone_of h hf hp
 obtain rfl := Option.some.inj (hg.symm.trans hg1)
 obtain rfl := Option.some.inj (ht.symm.trans ht1)
 obtain ⟨xs, m1, rfl, hx1, hlen, hn3, hel⟩ := DataW.trod_array hu hd1
 simp only [Prod.mk.injEq] at hx1
 have h2 := hl.symm.trans hx1.1
 injection h2 with h2
 rw [hv1]
 congr 1
 apply Array.ext'
 apply List.ext_getElem?
 intro i
 by_cases hi : i < l.length
 ·have h0 := hel i hi
  have hix : i < xs.length := by omega
  rw [List.getElem?_eq_getElem hix] at h0
  obtain ⟨v, e1, e2, _⟩ := DataW.trod_int he h0
  have h3 := congrArg (fun l => l[i]?) h2
  simp only [List.getElem?_map, List.getElem?_eq_getElem hix, List.getElem?_eq_getElem hi, Option.map_some, e2] at h3
  simp only [Option.some.injEq, DataW.lit.injEq, Lit.int.injEq, true_and] at h3
  rw [c1, Nat.mul_one] at e1
  have e3 := congrArg (fun l => l[0]?) e1
  simp only [List.getElem?_take, List.getElem?_drop, Nat.add_zero] at e3
  simp only [List.getElem?_map, List.getElem?_eq_getElem hi, Option.map_some, h3]
  simpa using e3
 ·rw [List.getElem?_eq_none (by omega), List.getElem?_eq_none (by simp; omega)]
theorem err_of {W : World} {n : String} {d x : DataW Unit} {nm : String} {g : Nat} {t : TypeId} {ms : Array (String × TypeId)} (h : laidMetH Tryz.prog q4w W) (hf : q4w.filter (fun x => x.1 == n) = [(n, d)]) (hp : d.handleName?.isNone = true)
  (hg : Tryz.prog.globalNamed n = some g) (ht : (Tryz.prog.globals[g]?).map (·.type) = some t) (hu : Tryz.prog.underlying t = some (.interface ms)) (hl : d = .iface nm x) : ∃ u v, W.cell? ⟨g, 0, none⟩ = some (.iface u v) := by
 obtain ⟨g1, t1, cs1, f1, p1, hg1, ht1, hv1, hd1⟩ := lone_of h hf hp
 obtain rfl := Option.some.inj (hg.symm.trans hg1)
 obtain rfl := Option.some.inj (ht.symm.trans ht1)
 subst hl
 rw [World.var?_cell hg hv1 0]
 cases f1 with
 | zero => simp [DataW.trod] at hd1
 | succ m =>
  unfold DataW.trod at hd1
  rw [hu] at hd1
  obtain ⟨l⟩ := cs1
  rcases l with _ | ⟨v, _ | ⟨v2, r⟩⟩
  ·simp at hd1
  ·cases v
   case iface u v => exact ⟨u, v, by simp⟩
   all_goals exfalso
   all_goals simp at hd1
  ·exfalso; simp at hd1
theorem gd_of {W : World} (hs : W.ShapedOpen Tryz.prog) (h : laidMetH Tryz.prog q4w W) : Gd W := by
 have a := qjY (k := .u64) (t := 220) (e := 202) (g := 5) (l := [1, 10, 100, 1000, 10000, 100000, 1000000, 10000000, 100000000, 1000000000, 10000000000, 100000000000, 1000000000000, 10000000000000, 100000000000000, 1000000000000000, 10000000000000000, 100000000000000000, 1000000000000000000, 10000000000000000000]) h (n := "internal/strconv.uint64pow10") rfl rfl (by kernel_rfl) (by kernel_rfl) (by kernel_rfl) (by kernel_rfl) (by kernel_rfl) (by kernel_rfl) rfl
 have b := qjY (k := .u8) (t := 232) (e := 5) (g := 7) (l := tab64) h (n := "math/bits.deBruijn64tab") rfl rfl (by kernel_rfl) (by kernel_rfl) (by kernel_rfl) (by kernel_rfl) (by kernel_rfl) (by kernel_rfl) rfl
 have c := err_of (g := 4) (t := 147) h (n := "strconv.ErrRange") rfl rfl (by kernel_rfl) (by kernel_rfl) Tryz.underlying147 rfl
 have d := err_of (g := 3) (t := 147) h (n := "strconv.ErrSyntax") rfl rfl (by kernel_rfl) (by kernel_rfl) Tryz.underlying147 rfl
 have e : ∃ m, W.cell? ⟨0, 0, none⟩ = some (.int .i64 m) := cell_of_shapedOpen_int (t := 3) (zero := #[.int .i64 0]) hs (Nat.le_of_ble_eq_true (by kernel_rfl)) (by kernel_rfl) rfl (by kernel_rfl) (by kernel_rfl) Tryz.underlying3
 refine ⟨fun i hi => ?_, ⟨?_, e, d, c⟩⟩
 ·have hg : Tryz.prog.globalNamed "math/bits.deBruijn64tab" = some 7 := by kernel_rfl
  rw [World.var?_cell hg b i]
  have hi : i < tab64.length := hi
  simp [List.getD, hi]
 ·have hg : Tryz.prog.globalNamed "internal/strconv.uint64pow10" = some 5 := by kernel_rfl
  unfold World.var? at a
  rw [hg] at a
  exact a
end Go.Proofs.YtfadkjcfjkmalaaGreatDoor
set_option linter.unusedSimpArgs false
namespace Go.Proofs.YtfadkjcfjkmalaaGreatDoor.Ev
open Go.RowKit
variable {w0 : World} {N0 : Nat → Prop} {Z : Pins} {P : Program} {T : Tab} {S : Sum} {M : Map} {a : Act} {w : World}
def oneM (k B : Nat) : Map := fun j => bif Nat.beq j k then some (.box B) else none
theorem q5r {k B j : Nat} {l : Loc} (h : oneM k B j = some l) : j = k ∧ l = .box B := by
 unfold oneM at h
 cases e : Nat.beq j k with
 | true => rw [e] at h; cases h; exact ⟨Nat.eq_of_beq_eq_true e, rfl⟩
 | false => rw [e] at h; cases h
theorem oneM_k (k B : Nat) : oneM k B k = some (.box B) := by
 unfold oneM; rw [Nat.beq_refl]; rfl
def pinW (W : World) (k B : Nat) : Pins := ⟨fun b o => b ≠ B ∧ W.heap[b]? = some o, fun _ => False, oneM k B, W.heap.size⟩
def q7v (args : List DV) (n k : Nat) (R : Row) : DS := ⟨args.map some ++ List.replicate (n - args.length) (some noV), (List.replicate n none).set k (some R)⟩
theorem fn_coreW (hm : P.follows .mixedOrders = true) (hT : TabOK P T) (hS : Valid P S) {ann : Ann} (hI : ValidIt P ann.it) {J : Inv} {f : FuncId} {fn : Func} (hf : P.funcs[f]? = some fn) {c : Code} (hb : fn.body = some c) {args : List DV} {k : Nat} {ks : List Nat} (hks : k ∈ ks) (hok : q0I ann c = true ∧ q0V ann true (some ks) c 0 = true) {ty : TypeId} {cs : List CV} {K : DS → Prop} (h : ev P T S ann J c 0 [] K (fun _ _ => False) K (q7v args fn.ntmps k (.box ty cs))) (hlen : args.length ≤ fn.ntmps) (hk : k < fn.ntmps)
  (W : World) (N : Nat → Prop) (vs : List Value) (B : Nat) (hG : Gd (cutW W B)) (cells : Array Value) (hB : W.heap[B]? = some (.cells cells ty (0, 0))) (hcs : All2 (RelC W (fgn (cutW W B) N (oneM k B)) (oneM k B)) cs cells.toList) (hargs : All2 (RelD (RelC W (fgn (cutW W B) N (oneM k B)) (oneM k B))) args vs) {R : Ending → World → Prop}
  (hret : ∀ M' st' a' w', K st' → Abs (cutW W B) N (pinW W k B) M' st' a' w' → ∃ v, (results fn a'.tmps).run P w' = .ok v w' ∧ R (.returned v) w') : Calls P f vs.toArray W R := by
 have hvl := hargs.length
 have hBs : B < W.heap.size := (Array.getElem?_eq_some_iff.1 hB).1
 have hat : ∀ j r, (q7v args fn.ntmps k (.box ty cs)).at j = some r → j = k ∧ r = .box ty cs := by
  intro j r hj
  unfold DS.at q7v at hj
  simp only [List.getElem?_set] at hj
  by_cases e : k = j
  ·rw [if_pos e, if_pos (by simpa using hk)] at hj
   simp only [Option.join_some, Option.some.injEq] at hj
   exact ⟨e.symm, hj.symm⟩
  ·rw [if_neg e, List.getElem?_replicate] at hj
   split at hj <;> cases hj
 have hstart : Abs (cutW W B) N (pinW W k B) (oneM k B) (q7v args fn.ntmps k (.box ty cs)) { tmps := vs.toArray ++ Array.replicate (fn.ntmps - vs.toArray.size) undef, defers := [] } W := by
  refine ⟨?_, by simp [q7v, hvl], Marks.nil hG, fun i dv hi => ?_, fun j r hr => ?_, fun j hj => ?_, fun j l b h1 h2 => ?_, fun j j' r r' l l' b _ _ _ _ h1 h2 _ _ => ?_, fun b o hp => ?_, (fun _ h => h.elim), (fun _ _ h => h), (fun _ h => by cases h)⟩
  ·rw [q3N hBs]
   refine ⟨rfl, rfl, rfl, ?_, fun j hj => ?_⟩
   ·rw [q3N hBs]; omega
   ·simp only [cutW, Array.getElem?_extract]
    rw [if_pos (by omega)]; simp
  ·unfold DS.tm q7v at hi
   simp only at hi
   by_cases hlt : i < args.length
   ·rw [List.getElem?_append_left (by simpa using hlt), List.getElem?_map] at hi
    have e1 : args[i]? = some dv := by
     cases e : args[i]? with
     | none => rw [e] at hi; cases hi
     | some x => rw [e] at hi; simpa using hi
    obtain ⟨v, e2, e3⟩ := hargs.get e1
    refine ⟨v, ?_, e3⟩
    rw [Array.getElem?_append_left (by simp; omega)]
    simpa using e2
   ·rw [List.getElem?_append_right (by simpa using hlt), List.getElem?_replicate] at hi
    split at hi
    ·rename_i h2
     simp only [Option.join_some, Option.some.injEq] at hi
     subst hi
     simp only [List.length_map] at h2
     refine ⟨undef, ?_, [], rfl, trivial⟩
     rw [Array.getElem?_append_right (by simp; omega), Array.getElem?_replicate, if_pos (by simp; omega)]
    ·cases hi
  ·obtain ⟨rfl, rfl⟩ := hat j r hr
   exact ⟨B, cells, oneM_k _ _, hB, hcs⟩
  ·unfold oneM
   cases e : Nat.beq j k with
   | false => rfl
   | true =>
    have e2 := Nat.eq_of_beq_eq_true e
    subst e2
    unfold DS.at q7v at hj
    simp only [List.getElem?_set_self (show j < (List.replicate fn.ntmps (none : Option Row)).length by simpa using hk), Option.join_some] at hj
    cases hj
  ·obtain ⟨_, rfl⟩ := q5r h1
   cases h2
   rw [q3N hBs]; omega
  ·rw [(q5r h1).1, (q5r h2).1]
  ·refine ⟨hp.2, fun j l h1 h2 => ?_⟩
   obtain ⟨_, rfl⟩ := q5r h1
   cases h2
   exact hp.1 rfl
 have hleave : ∀ (ds : List Deferred) (M' : Map) (st' : DS) (a' : Act) (w' : World), a'.defers = ds → K st' → Abs (cutW W B) N (pinW W k B) M' st' a' w' → LeavesInM Fence.wide 0 P fn a'.tmps R ds .returning w' := by
  intro ds
  induction ds with
  | nil =>
   intro M' st' a' w' _ hk ha'
   exact hret M' st' a' w' hk ha'
  | cons d ds ih =>
   intro M' st' a' w' hd hk ha'
   obtain ⟨D, h1, h2, h3, h4⟩ := ha'.defs.1 d (by rw [hd]; simp)
   have h5 : W.heap.size ≤ D := ha'.lim d (by rw [hd]; simp) D h1
   refine ⟨by simp, Or.inl ⟨D, _, by rw [h1], run_takeDeferred h3, ?_⟩⟩
   have hm2 := ha'.defs
   rw [hd] at hm2
   have ha2 : Abs (cutW W B) N (pinW W k B) M' st' { a' with defers := ds } w' := ⟨ha'.below, ha'.fits, ⟨fun d' hd' => hm2.1 d' (by simp [hd']), (List.pairwise_cons.1 hm2.2.1).2, hm2.2.2⟩, ha'.tmp, ha'.row, ha'.dom, ha'.own, ha'.apart, ha'.pinB, ha'.pinN, ha'.pinK, fun d' hd' => ha'.lim d' (by rw [hd]; exact List.mem_cons_of_mem _ hd')⟩
   refine ih M' st' { a' with defers := ds } _ rfl hk (ha2.grownN (grownBy_putObj' w' D _) fun r e => ?_)
   cases e
   exact ⟨h2, ⟨_, h3, rfl⟩, fun o ho => by have := (Array.getElem?_eq_some_iff.1 ho.2).1; omega, fun d' hd' e => (List.pairwise_cons.1 hm2.2.1).1 d' hd' (by rw [e, h1])⟩
 refine (callsIn_wide (n := 0)).1 (callsIn_of_wp_marks hf hb trivial ?_)
 refine q0m hm hT hS hI c (ro := none) (q := some ks) (u := true) (Kn := fun _ => K) (Ke := fun _ _ _ => False) (Kr := fun _ => K) ⟨(fun h => by cases h), fun _ h _ j lo hj => by cases h; rw [(q5r hj).1]; exact hks⟩ hok.1 hok.2 (Or.inl rfl) hstart (fun M' st' a' w' hk ha' => ?_) (fun i M' st' a' w' hk _ => hk.elim) (fun M' st' a' w' hk ha' => ?_) h
 ·exact hleave _ M' st' a' w' rfl hk ha'
 ·exact hleave _ M' st' a' w' rfl hk ha'
theorem flatT_F {w w' : World} {N N' : Nat → Prop} {M : Map} : ∀ {x : TV} {v : Value}, q9E x = true → RelT (RelC w N M) x v → RelT (RelF w' N') x v
 | .c x, _, h, g => flatC_F h g
 | .a l, _, h, ⟨vs, e, g⟩ => ⟨vs, e, q4Y h g⟩
 | .fn f l, _, h, ⟨vs, e, g⟩ => ⟨vs, e, q4Y h g⟩
 | .fb f l, _, h, ⟨vs, e, g⟩ => ⟨vs, e, q4Y h g⟩
theorem qk0 {w w' : World} {N N' : Nat → Prop} {M : Map} : ∀ {l : List TV} {vs : List Value}, q1x l = true → All2 (RelT (RelC w N M)) l vs → All2 (RelT (RelF w' N')) l vs
 | [], [], _, _ => trivial
 | x :: l, v :: vs, h, g => by
  simp only [q1x, Bool.and_eq_true] at h
  exact ⟨flatT_F h.1 g.1, qk0 h.2 g.2⟩
 | [], _ :: _, _, g => g.elim
 | _ :: _, [], _, g => g.elim
theorem flatD_F {w w' : World} {N N' : Nat → Prop} {M : Map} {x : DV} {v : Value} (h : q1D x = true) (g : RelD (RelC w N M) x v) : RelD (RelF w' N') x v := by
 cases x with
 | t x => exact flatT_F h g
 | tu l => obtain ⟨vs, e, g⟩ := g; exact ⟨vs, e, qk0 h g⟩
def retKW (T : Tab) (fn : Func) (k ty : Nat) (post : DV → List CV → Prop) (st : DS) : Prop := match resE T st fn.results.toList with
 | some (d, p) => match st.at k with
  | some (.box ty' cs) => bif Nat.beq ty' ty && (q1D d && q0b cs) then (match p with
   | none => post d cs
   | some p => p ∧ post d cs) else False
  | _ => False
 | none => False
def evFnW (P : Program) (T : Tab) (S : Sum) (ann : Ann) (J : Inv) (fn : Func) (args : List DV) (k ty : Nat) (cs : List CV) (post : DV → List CV → Prop) : Prop := match fn.body with
 | some c => ev P T S ann J c 0 [] (retKW T fn k ty post) (fun _ _ => False) (retKW T fn k ty post) (q7v args fn.ntmps k (.box ty cs))
 | none => False
def q9G (ann : Ann) (ks : List Nat) (fn : Func) : Bool := match fn.body with
 | some c => q0I ann c && q0V ann true (some ks) c 0
 | none => false
theorem fn_soundW (hm : P.follows .mixedOrders = true) (hT : TabOK P T) (hS : Valid P S) {ann : Ann} (hI : ValidIt P ann.it) {J : Inv} {f : FuncId} {fn : Func} (hf : P.funcs[f]? = some fn) {args : List DV} {k : Nat} {ks : List Nat} (hks : k ∈ ks) (hok : q9G ann ks fn = true) {ty : TypeId} {cs : List CV} {post : DV → List CV → Prop} (h : evFnW P T S ann J fn args k ty cs post) (hlen : args.length ≤ fn.ntmps) (hk : k < fn.ntmps)
  (W : World) (N : Nat → Prop) (vs : List Value) (B : Nat) (hG : Gd (cutW W B)) (cells : Array Value) (hB : W.heap[B]? = some (.cells cells ty (0, 0))) (hcs : All2 (RelC W (fgn (cutW W B) N (oneM k B)) (oneM k B)) cs cells.toList) (hargs : All2 (RelD (RelC W (fgn (cutW W B) N (oneM k B)) (oneM k B))) args vs) :
  Calls P f vs.toArray W fun e w' => ∃ v r cs' cells', e = .returned v ∧ post r cs' ∧ q1D r = true ∧ q0b cs' = true ∧ RelD (RelF w' (fun _ => False)) r v ∧ w'.heap[B]? = some (.cells cells' ty (0, 0)) ∧ All2 (RelF w' (fun _ => False)) cs' cells'.toList ∧ FrameB W B w' := by
 unfold evFnW at h
 unfold q9G at hok
 have hBs : B < W.heap.size := (Array.getElem?_eq_some_iff.1 hB).1
 cases hb : fn.body with
 | none => rw [hb] at h; exact h.elim
 | some c =>
 rw [hb] at h hok
 simp only at h hok
 simp only [Bool.and_eq_true] at hok
 refine fn_coreW hm hT hS hI hf hb hks hok h hlen hk W N vs B hG cells hB hcs hargs fun M' st' a' w' hK ha' => ?_
 unfold retKW at hK
 split at hK
 rotate_left
 ·exact hK.elim
 rename_i d p hres
 split at hK
 rotate_left
 ·exact hK.elim
 rename_i ty' cs' hrow
 cases hq : (Nat.beq ty' ty && (q1D d && q0b cs')) with
 | false => rw [hq] at hK; exact hK.elim
 | true =>
 rw [hq] at hK
 simp only [Bool.and_eq_true] at hq
 obtain ⟨q1, q2, q3⟩ := hq
 have q1 := Nat.eq_of_beq_eq_true q1
 subst q1
 have hK' : okP p ∧ post d cs' := by
  cases p with
  | none => exact ⟨trivial, hK⟩
  | some p => exact hK
 obtain ⟨v, g1, g2⟩ := qbm hT ha' hres hK'.1
 obtain ⟨b, cells', e1, e2, e3⟩ := ha'.row k _ hrow
 have e4 : M' k = some (.box B) := ha'.pinK k _ (oneM_k k B)
 rw [e4] at e1
 cases e1
 have hpin : ∀ b, b < W.heap.size → b ≠ B → w'.heap[b]? = W.heap[b]? := fun b hb hn => by
  have e5 : W.heap[b]? = some W.heap[b] := Array.getElem?_eq_getElem hb
  rw [e5]; exact (ha'.pinB b _ ⟨hn, e5⟩).1
 have hBw : B < w'.heap.size := (Array.getElem?_eq_some_iff.1 e2).1
 refine ⟨v, g1, v, d, cs', cells', rfl, hK'.2, q2, q3, flatD_F q2 g2, e2, q4Y q3 e3, ha'.below.os, ha'.below.tape, ha'.below.output, ?_, hpin⟩
 by_cases e6 : W.heap.size - 1 = B
 ·omega
 ·have e7 : W.heap.size - 1 < W.heap.size := by omega
  have e8 := hpin _ e7 e6
  rw [Array.getElem?_eq_getElem e7] at e8
  have := (Array.getElem?_eq_some_iff.1 e8).1
  omega
theorem cells_get {W : World} {B : Nat} {cells : Array Value} {ty : TypeId} (h : W.heap[B]? = some (.cells cells ty (0, 0))) {i : Nat} {x : Value} (g : W.cell? ⟨B, i, none⟩ = some x) : cells[i]? = some x := by
 unfold World.cell? at g
 simp [h] at g
 exact g
theorem Ok.fnW (hm : P.follows .mixedOrders = true) (hT : TabOK P T) (hS : Valid P S) {ann : Ann} (hI : ValidIt P ann.it) {f : FuncId} {fn : Func} (hf : P.funcs[f]? = some fn) (hn : (fn.name == "runtime.NumGoroutine") = false) {ks : List Nat} (hok : q9G ann ks fn = true) {F : Con}
  (h : ∀ args r pre fresh, F args = some (r, pre, fresh) → okP pre → ∃ j ty cs' n c, j ∈ ks ∧ fresh = .wr j ty cs' ∧ args[j]? = some (.t (.c (.px n 0 c))) ∧ q0b ((List.range n).map c) = true ∧ j < fn.ntmps ∧ q1D r = true ∧
   ∃ (J : Inv) (al : List DV), al.length = args.length ∧ al[j]? = some (.t (.c (.p j 0))) ∧ (∀ i x y, i ≠ j → args[i]? = some x → al[i]? = some y → ∀ w N v, RelD (RelF w N) x v → RelD (RelF w N) y v) ∧ al.length ≤ fn.ntmps ∧ evFnW P T S ann J fn al j ty ((List.range n).map c) (fun r' cs => LeD r' r ∧ cs = cs')) : Ok P f F := by
 intro args r pre fresh h1 h2
 obtain ⟨j, ty, cs', n, c, hjk, rfl, hj, hfl, hjn, hfr, J, al, g1, g2, g3, g4, g5⟩ := h args r pre fresh h1 h2
 have hb : fn.body.isNone = false := by
  unfold q9G at hok
  cases e : fn.body with
  | none => rw [e] at hok; cases hok
  | some c => rfl
 refine ⟨Enters.of hf hn hb, fun W N vs _ hv => ?_⟩
 obtain ⟨hall, B, cells, hvj, hB, ⟨c0, hc0⟩, hpt, hG⟩ := hv
 rw [hj] at hc0
 cases hc0
 have hall' := hall
 obtain ⟨v0, k1, k2⟩ := hall.get hj
 rw [hvj] at k1
 cases k1
 have hBs : B < W.heap.size := (Array.getElem?_eq_some_iff.1 hB).1
 have hcs : All2 (RelC W (fgn (cutW W B) N (oneM j B)) (oneM j B)) ((List.range cells.size).map c) cells.toList := by
  obtain ⟨b, o, e1, e2, e3, e4⟩ := k2
  simp only [Nat.add_zero, Value.pointer.injEq, Option.some.injEq, Addr.mk.injEq] at e1
  obtain ⟨rfl, rfl, _⟩ := e1
  have hfl' : ∀ i, i < cells.size → q4s (c i) = true := by
   have key : ∀ (l : List CV), q0b l = true → ∀ x ∈ l, q4s x = true := by
    intro l
    induction l with
    | nil => intro _ x hx; simp at hx
    | cons y l ih =>
     intro hl x hx
     simp only [q0b, Bool.and_eq_true] at hl
     rcases List.mem_cons.1 hx with rfl | hx
     ·exact hl.1
     ·exact ih hl.2 x hx
   intro i hi
   exact key _ hfl _ (List.mem_map.2 ⟨i, List.mem_range.2 hi, rfl⟩)
  refine All2.of_get (by simp) fun i a v ha hv => ?_
  have hi : i < cells.size := by
   have := (List.getElem?_eq_some_iff.1 hv).1; simpa using this
  rw [List.getElem?_map, List.getElem?_range hi] at ha
  simp only [Option.map_some, Option.some.injEq] at ha
  subst ha
  obtain ⟨x, f1, f2⟩ := e4 i hi
  have f3 := cells_get hB (by simpa using f1)
  have f4 : v = x := by
   rw [Array.getElem?_toList] at hv
   rw [hv] at f3
   exact Option.some.inj f3
  subst f4
  exact qcJ (hfl' i hi) f2
 have hargs : All2 (RelD (RelC W (fgn (cutW W B) N (oneM j B)) (oneM j B))) al vs := by
  refine All2.of_get (by rw [g1]; exact hall.length) fun i y v hy hv => ?_
  by_cases e : i = j
  ·subst e
   rw [g2] at hy
   cases hy
   rw [hvj] at hv
   cases hv
   exact ⟨B, oneM_k _ _, rfl⟩
  ·have hi : i < args.length := by rw [← g1]; exact (List.getElem?_eq_some_iff.1 hy).1
   have hx : args[i]? = some args[i] := List.getElem?_eq_getElem hi
   have hr := g3 i _ _ e hx hy _ _ _ (hpt i _ _ e hx hv)
   refine RelD.mono (fun x u g => RelC.ofF (g.all fun b hb => ⟨fun _ => hb.1, fun k l h3 h4 => ?_⟩)) hr
   obtain ⟨_, rfl⟩ := q5r h3
   cases h4
   exact hb.2 rfl
 refine Calls.mono (fn_soundW hm hT hS hI hf hjk hok g5 g4 hjn W N vs B hG cells hB hcs hargs) ?_
 rintro e w' ⟨v, r', cs2, cells', rfl, ⟨p1, rfl⟩, p2, p3, p4, p5, p6, p7⟩
 exact ⟨v, rfl, ⟨hfr, p3, p1 _ _ _ p4⟩, B, cells', hvj, p5, p6, p7⟩
end Go.Proofs.YtfadkjcfjkmalaaGreatDoor.Ev
namespace Go.Proofs.YtfadkjcfjkmalaaGreatDoor.Ev
open Go.RowKit
variable {w0 : World} {N0 : Nat → Prop} {Z : Pins} {P : Program} {T : Tab} {S : Sum} {M : Map} {a : Act} {w : World}
def twoM (A B : Nat) : Map := fun j => match j with
 | 0 => some (.box A)
 | 1 => some (.box B)
 | _ => none
theorem q5s {A B j : Nat} {l : Loc} (h : twoM A B j = some l) : (j = 0 ∧ l = .box A) ∨ (j = 1 ∧ l = .box B) := by
 unfold twoM at h
 split at h
 ·cases h; exact Or.inl ⟨rfl, rfl⟩
 ·cases h; exact Or.inr ⟨rfl, rfl⟩
 ·cases h
def pin2 (W : World) (A B : Nat) : Pins := ⟨fun b o => b ≠ A ∧ b ≠ B ∧ W.heap[b]? = some o, fun _ => False, twoM A B, W.heap.size⟩
def start2 (args : List DV) (n : Nat) (RA RB : Row) : DS := ⟨args.map some ++ List.replicate (n - args.length) (some noV), some RA :: some RB :: List.replicate (n - 2) none⟩
def ptrL (n : Nat) : List CV := (List.range n).map fun i => .p 1 i
theorem fn_core2 (hm : P.follows .mixedOrders = true) (hT : TabOK P T) (hS : Valid P S) {ann : Ann} (hI : ValidIt P ann.it) {J : Inv} {f : FuncId} {fn : Func} (hf : P.funcs[f]? = some fn) {c : Code} (hb : fn.body = some c) (hok : q0I ann c = true ∧ q0V ann true (some [0, 1]) c 0 = true) {args : List DV} {tya ty : TypeId} {ps cs : List CV} {K : DS → Prop} (h : ev P T S ann J c 0 [] K (fun _ _ => False) K (start2 args fn.ntmps (.box tya ps) (.box ty cs))) (hlen : args.length ≤ fn.ntmps) (hk : 2 ≤ fn.ntmps)
  (W : World) (N : Nat → Prop) (vs : List Value) (A B : Nat) (hAB : A ≠ B) (hG : Gd (cutW W (min A B))) (pc cells : Array Value) (hA : W.heap[A]? = some (.cells pc tya (0, 0))) (hB : W.heap[B]? = some (.cells cells ty (0, 0))) (hps : All2 (RelC W (fgn (cutW W (min A B)) N (twoM A B)) (twoM A B)) ps pc.toList) (hcs : All2 (RelC W (fgn (cutW W (min A B)) N (twoM A B)) (twoM A B)) cs cells.toList) (hargs : All2 (RelD (RelC W (fgn (cutW W (min A B)) N (twoM A B)) (twoM A B))) args vs) {R : Ending → World → Prop}
  (hret : ∀ M' st' a' w', K st' → Abs (cutW W (min A B)) N (pin2 W A B) M' st' a' w' → ∃ v, (results fn a'.tmps).run P w' = .ok v w' ∧ R (.returned v) w') : Calls P f vs.toArray W R := by
 have hvl := hargs.length
 have hAs : A < W.heap.size := (Array.getElem?_eq_some_iff.1 hA).1
 have hBs : B < W.heap.size := (Array.getElem?_eq_some_iff.1 hB).1
 have hms : min A B < W.heap.size := by omega
 have hat : ∀ j r, (start2 args fn.ntmps (.box tya ps) (.box ty cs)).at j = some r → (j = 0 ∧ r = .box tya ps) ∨ (j = 1 ∧ r = .box ty cs) := by
  intro j r hj
  unfold DS.at start2 at hj
  simp only at hj
  match j, hj with
  | 0, hj => simp at hj; exact Or.inl ⟨rfl, hj.symm⟩
  | 1, hj => simp at hj; exact Or.inr ⟨rfl, hj.symm⟩
  | j + 2, hj =>
   simp only [List.getElem?_cons_succ, List.getElem?_replicate] at hj
   split at hj <;> cases hj
 have hstart : Abs (cutW W (min A B)) N (pin2 W A B) (twoM A B) (start2 args fn.ntmps (.box tya ps) (.box ty cs)) { tmps := vs.toArray ++ Array.replicate (fn.ntmps - vs.toArray.size) undef, defers := [] } W := by
  refine ⟨?_, by simp [start2, hvl], Marks.nil hG, fun i dv hi => ?_, fun j r hr => ?_, fun j hj => ?_, fun j l b h1 h2 => ?_, fun j j' r r' l l' b _ _ _ _ h1 h2 h3 h4 => ?_, fun b o hp => ?_, (fun _ h => h.elim), (fun _ _ h => h), (fun _ h => by cases h)⟩
  ·rw [q3N hms]
   refine ⟨rfl, rfl, rfl, ?_, fun j hj => ?_⟩
   ·rw [q3N hms]; omega
   ·simp only [cutW, Array.getElem?_extract]
    rw [if_pos (by omega)]; simp
  ·unfold DS.tm start2 at hi
   simp only at hi
   by_cases hlt : i < args.length
   ·rw [List.getElem?_append_left (by simpa using hlt), List.getElem?_map] at hi
    have e1 : args[i]? = some dv := by
     cases e : args[i]? with
     | none => rw [e] at hi; cases hi
     | some x => rw [e] at hi; simpa using hi
    obtain ⟨v, e2, e3⟩ := hargs.get e1
    refine ⟨v, ?_, e3⟩
    rw [Array.getElem?_append_left (by simp; omega)]
    simpa using e2
   ·rw [List.getElem?_append_right (by simpa using hlt), List.getElem?_replicate] at hi
    split at hi
    ·rename_i h2
     simp only [Option.join_some, Option.some.injEq] at hi
     subst hi
     simp only [List.length_map] at h2
     refine ⟨undef, ?_, [], rfl, trivial⟩
     rw [Array.getElem?_append_right (by simp; omega), Array.getElem?_replicate, if_pos (by simp; omega)]
    ·cases hi
  ·rcases hat j r hr with ⟨rfl, rfl⟩ | ⟨rfl, rfl⟩
   ·exact ⟨A, pc, rfl, hA, hps⟩
   ·exact ⟨B, cells, rfl, hB, hcs⟩
  ·match j, hj with
   | 0, hj => simp [DS.at, start2] at hj
   | 1, hj => simp [DS.at, start2] at hj
   | j + 2, _ => rfl
  ·rw [q3N hms]
   rcases q5s h1 with ⟨_, rfl⟩ | ⟨_, rfl⟩ <;> (cases h2; omega)
  ·rcases q5s h1 with ⟨rfl, rfl⟩ | ⟨rfl, rfl⟩ <;> rcases q5s h2 with ⟨rfl, rfl⟩ | ⟨rfl, rfl⟩
   ·rfl
   ·cases h3; cases h4; exact absurd rfl hAB
   ·cases h3; cases h4; exact absurd rfl hAB
   ·rfl
  ·refine ⟨hp.2.2, fun j l h1 h2 => ?_⟩
   rcases q5s h1 with ⟨_, rfl⟩ | ⟨_, rfl⟩
   ·cases h2; exact hp.1 rfl
   ·cases h2; exact hp.2.1 rfl
 have hleave : ∀ (ds : List Deferred) (M' : Map) (st' : DS) (a' : Act) (w' : World), a'.defers = ds → K st' → Abs (cutW W (min A B)) N (pin2 W A B) M' st' a' w' → LeavesInM Fence.wide 0 P fn a'.tmps R ds .returning w' := by
  intro ds
  induction ds with
  | nil =>
   intro M' st' a' w' _ hk ha'
   exact hret M' st' a' w' hk ha'
  | cons d ds ih =>
   intro M' st' a' w' hd hk ha'
   obtain ⟨D, h1, h2, h3, h4⟩ := ha'.defs.1 d (by rw [hd]; simp)
   have h5 : W.heap.size ≤ D := ha'.lim d (by rw [hd]; simp) D h1
   refine ⟨by simp, Or.inl ⟨D, _, by rw [h1], run_takeDeferred h3, ?_⟩⟩
   have hm2 := ha'.defs
   rw [hd] at hm2
   have ha2 : Abs (cutW W (min A B)) N (pin2 W A B) M' st' { a' with defers := ds } w' := ⟨ha'.below, ha'.fits, ⟨fun d' hd' => hm2.1 d' (by simp [hd']), (List.pairwise_cons.1 hm2.2.1).2, hm2.2.2⟩, ha'.tmp, ha'.row, ha'.dom, ha'.own, ha'.apart, ha'.pinB, ha'.pinN, ha'.pinK, fun d' hd' => ha'.lim d' (by rw [hd]; exact List.mem_cons_of_mem _ hd')⟩
   refine ih M' st' { a' with defers := ds } _ rfl hk (ha2.grownN (grownBy_putObj' w' D _) fun r e => ?_)
   cases e
   exact ⟨h2, ⟨_, h3, rfl⟩, fun o ho => by have := (Array.getElem?_eq_some_iff.1 ho.2.2).1; omega, fun d' hd' e => (List.pairwise_cons.1 hm2.2.1).1 d' hd' (by rw [e, h1])⟩
 refine (callsIn_wide (n := 0)).1 (callsIn_of_wp_marks hf hb trivial ?_)
 refine q0m hm hT hS hI c (ro := none) (q := some [0, 1]) (u := true) (Kn := fun _ => K) (Ke := fun _ _ _ => False) (Kr := fun _ => K) ⟨(fun h => by cases h), fun _ h _ j lo hj => by cases h; rcases q5s hj with ⟨rfl, _⟩ | ⟨rfl, _⟩ <;> simp⟩ hok.1 hok.2 (Or.inl rfl) hstart (fun M' st' a' w' hk ha' => ?_) (fun i M' st' a' w' hk _ => hk.elim) (fun M' st' a' w' hk ha' => ?_) h
 ·exact hleave _ M' st' a' w' rfl hk ha'
 ·exact hleave _ M' st' a' w' rfl hk ha'
def retKS (T : Tab) (fn : Func) (tya ty n : Nat) (post : DV → List CV → Prop) (st : DS) : Prop := match resE T st fn.results.toList with
 | some (d, p) => match st.at 0, st.at 1 with
  | some (.box tya' ps), some (.box ty' cs) => match q7e 0 ps with
   | some k => bif Nat.beq k 1 && (Nat.beq ps.length n && (Nat.beq tya' tya && (Nat.beq ty' ty && (q1D d && q0b cs)))) then (match p with
    | none => post d cs
    | some p => p ∧ post d cs) else False
   | none => False
  | _, _ => False
 | none => False
def evFnS (P : Program) (T : Tab) (S : Sum) (ann : Ann) (J : Inv) (fn : Func) (x : DV) (tya ty n : Nat) (cs : List CV) (post : DV → List CV → Prop) : Prop := match fn.body with
 | some c => ev P T S ann J c 0 [] (retKS T fn tya ty n post) (fun _ _ => False) (retKS T fn tya ty n post) (start2 [x, .t (.c (.ob 0 0 1 n))] fn.ntmps (.box tya (ptrL n)) (.box ty cs))
 | none => False
theorem fn_soundS (hm : P.follows .mixedOrders = true) (hT : TabOK P T) (hS : Valid P S) {ann : Ann} (hI : ValidIt P ann.it) {J : Inv} {f : FuncId} {fn : Func} (hf : P.funcs[f]? = some fn) (hok : q9G ann [0, 1] fn = true) {x : DV} {tya ty n : Nat} {cs : List CV} {post : DV → List CV → Prop} (h : evFnS P T S ann J fn x tya ty n cs post) (hlen : 2 ≤ fn.ntmps)
  (W : World) (N : Nat → Prop) (v0 : Value) (A B cap : Nat) (hAB : A ≠ B) (hG : Gd (cutW W (min A B))) (hcap : n ≤ cap) (hmax : cap ≤ maxLen) (pc cells : Array Value) (hA : W.heap[A]? = some (.cells pc tya (0, 0))) (hpc : pc.toList = (List.range n).map fun i => Value.pointer (some ⟨B, i, none⟩)) (hB : W.heap[B]? = some (.cells cells ty (0, 0))) (hcs : All2 (RelC W (fgn (cutW W (min A B)) N (twoM A B)) (twoM A B)) cs cells.toList) (hx : RelD (RelC W (fgn (cutW W (min A B)) N (twoM A B)) (twoM A B)) x v0) :
  Calls P f #[v0, .slice (some ⟨A, 0, none⟩) n cap] W fun e w' => ∃ v r cs' cells', e = .returned v ∧ post r cs' ∧ q1D r = true ∧ q0b cs' = true ∧ RelD (RelF w' (fun _ => False)) r v ∧ w'.heap[B]? = some (.cells cells' ty (0, 0)) ∧ All2 (RelF w' (fun _ => False)) cs' cells'.toList ∧ FrameB W B w' := by
 unfold evFnS at h
 unfold q9G at hok
 have hBs : B < W.heap.size := (Array.getElem?_eq_some_iff.1 hB).1
 have hAs : A < W.heap.size := (Array.getElem?_eq_some_iff.1 hA).1
 cases hb : fn.body with
 | none => rw [hb] at h; exact h.elim
 | some c =>
 rw [hb] at h hok
 simp only at h hok
 simp only [Bool.and_eq_true] at hok
 have hps : All2 (RelC W (fgn (cutW W (min A B)) N (twoM A B)) (twoM A B)) (ptrL n) pc.toList := by
  rw [hpc]
  refine All2.of_get (by simp [ptrL]) fun i a v ha hv => ?_
  unfold ptrL at ha
  rw [List.getElem?_map] at ha hv
  cases e : (List.range n)[i]? with
  | none => rw [e] at ha; cases ha
  | some m =>
   rw [e] at ha hv
   simp only [Option.map_some, Option.some.injEq] at ha hv
   subst ha hv
   exact ⟨B, rfl, rfl⟩
 refine fn_core2 (vs := [v0, .slice (some ⟨A, 0, none⟩) n cap]) hm hT hS hI hf hb hok h hlen hlen W N A B hAB hG pc cells hA hB hps hcs ⟨hx, Or.inl ⟨A, cap, rfl, rfl, hcap, hmax⟩, trivial⟩ fun M' st' a' w' hK ha' => ?_
 unfold retKS at hK
 split at hK
 rotate_left
 ·exact hK.elim
 rename_i d p hres
 split at hK
 rotate_left
 ·exact hK.elim
 rename_i tya' ps ty' cs' hrowA hrow
 split at hK
 rotate_left
 ·exact hK.elim
 rename_i k hptr
 cases hq : (Nat.beq k 1 && (Nat.beq ps.length n && (Nat.beq tya' tya && (Nat.beq ty' ty && (q1D d && q0b cs'))))) with
 | false => rw [hq] at hK; exact hK.elim
 | true =>
 rw [hq] at hK
 simp only [Bool.and_eq_true] at hq
 obtain ⟨r1, r2, r3, q1, q2, q3⟩ := hq
 have r1 := Nat.eq_of_beq_eq_true r1
 have r2 := Nat.eq_of_beq_eq_true r2
 have r3 := Nat.eq_of_beq_eq_true r3
 have q1 := Nat.eq_of_beq_eq_true q1
 subst q1 r1 r3
 have hK' : okP p ∧ post d cs' := by
  cases p with
  | none => exact ⟨trivial, hK⟩
  | some p => exact hK
 obtain ⟨v, g1, g2⟩ := qbm hT ha' hres hK'.1
 obtain ⟨b, cells', e1, e2, e3⟩ := ha'.row 1 _ hrow
 have e4 : M' 1 = some (.box B) := ha'.pinK 1 _ rfl
 rw [e4] at e1
 cases e1
 obtain ⟨b0, pc', f1, f2, f3⟩ := ha'.row 0 _ hrowA
 have f4 : M' 0 = some (.box A) := ha'.pinK 0 _ rfl
 rw [f4] at f1
 cases f1
 have hpc' : pc' = pc := by
  apply Array.ext'
  rw [hpc]
  have hp2 := qf0 hptr
  rw [r2] at hp2
  rw [hp2] at f3
  have hl : pc'.toList.length = n := by rw [← f3.length]; simp
  apply List.ext_getElem (by simp [hl])
  intro i h1 h2
  have hi : i < n := by omega
  have e1 : ((List.range n).map fun j => CV.p 1 (0 + j))[i]? = some (.p 1 (0 + i)) := by simp [hi]
  obtain ⟨u, e5, e6⟩ := f3.get e1
  obtain ⟨b2, e7, e8⟩ := e6
  rw [e4] at e7
  cases e7
  rw [List.getElem?_eq_getElem h1] at e5
  simp only [Option.some.injEq] at e5
  rw [e5, e8]
  simp
 subst hpc'
 have hpin : ∀ b, b < W.heap.size → b ≠ B → w'.heap[b]? = W.heap[b]? := fun b hb hn => by
  by_cases hbA : b = A
  ·rw [hbA, f2, hA]
  ·have e5 : W.heap[b]? = some W.heap[b] := Array.getElem?_eq_getElem hb
   rw [e5]; exact (ha'.pinB b _ ⟨hbA, hn, e5⟩).1
 have hBw : B < w'.heap.size := (Array.getElem?_eq_some_iff.1 e2).1
 refine ⟨v, g1, v, d, cs', cells', rfl, hK'.2, q2, q3, flatD_F q2 g2, e2, q4Y q3 e3, ha'.below.os, ha'.below.tape, ha'.below.output, ?_, hpin⟩
 by_cases e6 : W.heap.size - 1 = B
 ·omega
 ·have e7 : W.heap.size - 1 < W.heap.size := by omega
  have e8 := hpin _ e7 e6
  rw [Array.getElem?_eq_getElem e7] at e8
  have := (Array.getElem?_eq_some_iff.1 e8).1
  omega
theorem Ok.fnS (hm : P.follows .mixedOrders = true) (hT : TabOK P T) (hS : Valid P S) {ann : Ann} (hI : ValidIt P ann.it) {f : FuncId} {fn : Func} (hf : P.funcs[f]? = some fn) (hn : (fn.name == "runtime.NumGoroutine") = false) (hok : q9G ann [0, 1] fn = true) {F : Con}
  (h : ∀ args r pre fresh, F args = some (r, pre, fresh) → okP pre → ∃ x n c tya ty cs', fresh = .wrs tya ty cs' ∧ args = [x, .t (.c (.px n 0 c))] ∧ q0b ((List.range n).map c) = true ∧ 2 ≤ fn.ntmps ∧ q1D r = true ∧
   ∃ (J : Inv) (x2 : DV), (∀ w N v, RelD (RelF w N) x v → RelD (RelF w N) x2 v) ∧ evFnS P T S ann J fn x2 tya ty n ((List.range n).map c) (fun r' cs => LeD r' r ∧ cs = cs')) : Ok P f F := by
 intro args r pre fresh h1 h2
 obtain ⟨x, n, c, tya, ty, cs', rfl, rfl, hfl, hnt, hfr, J, x2, g3, g5⟩ := h args r pre fresh h1 h2
 have hb : fn.body.isNone = false := by
  unfold q9G at hok
  cases e : fn.body with
  | none => rw [e] at hok; cases hok
  | some c => rfl
 refine ⟨Enters.of hf hn hb, fun W N vs _ hv => ?_⟩
 obtain ⟨x', n', c', v0, A, cap, pc, B, cells, ea, rfl, hcap, hmax, h0, hAB, hA, hpc, hB, hcl, hx, hG⟩ := hv
 simp only [List.cons.injEq, and_true, DV.t.injEq, TV.c.injEq, CV.px.injEq, true_and] at ea
 obtain ⟨rfl, rfl, rfl⟩ := ea
 have hN : ∀ b, (N b ∧ b ≠ A ∧ b ≠ B) → fgn (cutW W (min A B)) N (twoM A B) b := fun b hb => ⟨fun _ => hb.1, fun k l h3 h4 => by
  rcases q5s h3 with ⟨_, rfl⟩ | ⟨_, rfl⟩
  ·cases h4; exact hb.2.1 rfl
  ·cases h4; exact hb.2.2 rfl⟩
 have hcs : All2 (RelC W (fgn (cutW W (min A B)) N (twoM A B)) (twoM A B)) ((List.range n).map c) cells.toList := q2V hfl hcl
 refine Calls.mono (fn_soundS hm hT hS hI hf hok g5 hnt W N v0 A B cap hAB hG hcap hmax pc cells hA hpc hB hcs (RelD.mono (fun y u g => RelC.ofF (g.all hN)) (g3 _ _ _ hx))) ?_
 rintro e w' ⟨v, r', cs2, cells', rfl, ⟨p1, rfl⟩, p2, p3, p4, p5, p6, p7⟩
 have hp0 : pc[0]? = some (.pointer (some ⟨B, 0, none⟩)) := by
  have : pc.toList[0]? = some (.pointer (some ⟨B, 0, none⟩)) := by rw [hpc]; simp [h0]
  simpa using this
 exact ⟨v, rfl, ⟨hfr, p3, p1 _ _ _ p4⟩, A, n, cap, pc, B, cells', rfl, hA, hp0, p5, p6, p7⟩
end Go.Proofs.YtfadkjcfjkmalaaGreatDoor.Ev
namespace Go.Proofs.YtfadkjcfjkmalaaGreatDoor
open Go.RowKit Ev
def tabL : List (Nat × TyI) := [(3, ⟨.nm .i64, 1, 8, [.int .i64 0], true⟩),
 (4, ⟨.bl, 1, 1, [.bool false], true⟩),
 (5, ⟨.nm .u8, 1, 1, [.int .u8 0], true⟩),
 (9, ⟨.str, 1, 16, [.string ⟨#[]⟩], true⟩),
 (21, ⟨.nm .i32, 1, 4, [.int .i32 0], true⟩),
 (22, ⟨.sl 57, 1, 24, [.slice none 0 0], false⟩),
 (23, ⟨.ar 3 3, 3, 24, [.int .i64 0, .int .i64 0, .int .i64 0], true⟩),
 (25, ⟨.st [(0, 23), (3, 23)], 6, 48, [.int .i64 0, .int .i64 0, .int .i64 0, .int .i64 0, .int .i64 0, .int .i64 0], true⟩),
 (31, ⟨.nm .i64, 1, 8, [.int .i64 0], true⟩),
 (45, ⟨.st [(0, 3), (1, 3)], 2, 16, [.int .i64 0, .int .i64 0], true⟩),
 (47, ⟨.st [(0, 23), (3, 3), (4, 3), (5, 45), (7, 3), (8, 3), (9, 3), (10, 3), (11, 3)], 12, 96, [.int .i64 0, .int .i64 0, .int .i64 0, .int .i64 0, .int .i64 0, .int .i64 0, .int .i64 0, .int .i64 0, .int .i64 0, .int .i64 0, .int .i64 0, .int .i64 0], true⟩),
 (48, ⟨.sl 23, 1, 24, [.slice none 0 0], false⟩),
 (49, ⟨.sl 3, 1, 24, [.slice none 0 0], false⟩),
 (51, ⟨.st [(0, 48), (1, 49)], 2, 48, [.slice none 0 0, .slice none 0 0], false⟩),
 (57, ⟨.st [(0, 23), (3, 3), (4, 3)], 5, 40, [.int .i64 0, .int .i64 0, .int .i64 0, .int .i64 0, .int .i64 0], true⟩),
 (59, ⟨.st [(0, 25), (6, 22)], 7, 72, [.int .i64 0, .int .i64 0, .int .i64 0, .int .i64 0, .int .i64 0, .int .i64 0, .slice none 0 0], false⟩),
 (69, ⟨.sl 25, 1, 24, [.slice none 0 0], false⟩),
 (74, ⟨.st [(0, 69), (1, 3)], 2, 32, [.slice none 0 0, .int .i64 0], false⟩),
 (79, ⟨.st [(0, 3), (1, 3)], 2, 16, [.int .i64 0, .int .i64 0], true⟩),
 (83, ⟨.sl 9, 1, 24, [.slice none 0 0], false⟩),
 (90, ⟨.oth, 1, 8, [.pointer none], false⟩),
 (99, ⟨.oth, 1, 8, [.nilFunc], false⟩),
 (106, ⟨.st [(0, 47)], 12, 96, [.int .i64 0, .int .i64 0, .int .i64 0, .int .i64 0, .int .i64 0, .int .i64 0, .int .i64 0, .int .i64 0, .int .i64 0, .int .i64 0, .int .i64 0, .int .i64 0], true⟩),
 (107, ⟨.ar 3 3, 3, 24, [.int .i64 0, .int .i64 0, .int .i64 0], true⟩),
 (120, ⟨.st [(0, 107), (3, 3)], 4, 32, [.int .i64 0, .int .i64 0, .int .i64 0, .int .i64 0], true⟩),
 (122, ⟨.oth, 1, 8, [.pointer none], false⟩),
 (127, ⟨.st [(0, 3), (1, 3)], 2, 16, [.int .i64 0, .int .i64 0], true⟩),
 (134, ⟨.oth, 1, 8, [.nilFunc], false⟩),
 (141, ⟨.oth, 1, 8, [.pointer none], false⟩),
 (142, ⟨.sl 5, 1, 24, [.slice none 0 0], false⟩),
 (144, ⟨.st [(0, 141), (1, 142)], 2, 32, [.pointer none, .slice none 0 0], false⟩),
 (152, ⟨.sl 90, 1, 24, [.slice none 0 0], false⟩),
 (160, ⟨.sl 31, 1, 24, [.slice none 0 0], false⟩),
 (164, ⟨.st [(0, 23), (3, 3)], 4, 32, [.int .i64 0, .int .i64 0, .int .i64 0, .int .i64 0], true⟩),
 (167, ⟨.ar 2 25, 12, 96, [.int .i64 0, .int .i64 0, .int .i64 0, .int .i64 0, .int .i64 0, .int .i64 0, .int .i64 0, .int .i64 0, .int .i64 0, .int .i64 0, .int .i64 0, .int .i64 0], true⟩),
 (175, ⟨.oth, 1, 8, [.pointer none], false⟩),
 (184, ⟨.nm .u64, 1, 8, [.int .u64 0], true⟩),
 (199, ⟨.ar 4 3, 4, 32, [.int .i64 0, .int .i64 0, .int .i64 0, .int .i64 0], true⟩),
 (202, ⟨.nm .u64, 1, 8, [.int .u64 0], true⟩),
 (209, ⟨.st [(0, 5), (1, 5)], 2, 2, [.int .u8 0, .int .u8 0], false⟩),
 (210, ⟨.ar 16 209, 32, 32, [.int .u8 0, .int .u8 0, .int .u8 0, .int .u8 0, .int .u8 0, .int .u8 0, .int .u8 0, .int .u8 0, .int .u8 0, .int .u8 0, .int .u8 0, .int .u8 0, .int .u8 0, .int .u8 0, .int .u8 0, .int .u8 0, .int .u8 0, .int .u8 0, .int .u8 0, .int .u8 0, .int .u8 0, .int .u8 0, .int .u8 0, .int .u8 0, .int .u8 0, .int .u8 0, .int .u8 0, .int .u8 0, .int .u8 0, .int .u8 0, .int .u8 0, .int .u8 0], false⟩),
 (221, ⟨.nm .u32, 1, 4, [.int .u32 0], true⟩),
 (229, ⟨.st [(0, 9)], 1, 16, [.string ⟨#[]⟩], false⟩),
 (231, ⟨.ar 32 5, 32, 32, [.int .u8 0, .int .u8 0, .int .u8 0, .int .u8 0, .int .u8 0, .int .u8 0, .int .u8 0, .int .u8 0, .int .u8 0, .int .u8 0, .int .u8 0, .int .u8 0, .int .u8 0, .int .u8 0, .int .u8 0, .int .u8 0, .int .u8 0, .int .u8 0, .int .u8 0, .int .u8 0, .int .u8 0, .int .u8 0, .int .u8 0, .int .u8 0, .int .u8 0, .int .u8 0, .int .u8 0, .int .u8 0, .int .u8 0, .int .u8 0, .int .u8 0, .int .u8 0], true⟩)]
def tab : Tab := fun t => qr t tabL
theorem ty3 : TyOK Tryz.prog 3 ⟨.nm .i64, 1, 8, [.int .i64 0], true⟩ := ⟨by kernel_rfl, by kernel_rfl, by kernel_rfl, fun _ => ⟨by kernel_rfl, by kernel_rfl, by kernel_rfl⟩⟩
theorem ty4 : TyOK Tryz.prog 4 ⟨.bl, 1, 1, [.bool false], true⟩ := ⟨by kernel_rfl, by kernel_rfl, by kernel_rfl, fun _ => ⟨by kernel_rfl, by kernel_rfl, by kernel_rfl⟩⟩
theorem ty5 : TyOK Tryz.prog 5 ⟨.nm .u8, 1, 1, [.int .u8 0], true⟩ := ⟨by kernel_rfl, by kernel_rfl, by kernel_rfl, fun _ => ⟨by kernel_rfl, by kernel_rfl, by kernel_rfl⟩⟩
theorem ty9 : TyOK Tryz.prog 9 ⟨.str, 1, 16, [.string ⟨#[]⟩], true⟩ := ⟨by kernel_rfl, by kernel_rfl, by kernel_rfl, fun _ => ⟨by kernel_rfl, by kernel_rfl, by kernel_rfl⟩⟩
theorem ty21 : TyOK Tryz.prog 21 ⟨.nm .i32, 1, 4, [.int .i32 0], true⟩ := ⟨by kernel_rfl, by kernel_rfl, by kernel_rfl, fun _ => ⟨by kernel_rfl, by kernel_rfl, by kernel_rfl⟩⟩
theorem ty22 : TyOK Tryz.prog 22 ⟨.sl 57, 1, 24, [.slice none 0 0], false⟩ := ⟨by kernel_rfl, by kernel_rfl, by kernel_rfl, fun h => by cases h⟩
theorem ty23 : TyOK Tryz.prog 23 ⟨.ar 3 3, 3, 24, [.int .i64 0, .int .i64 0, .int .i64 0], true⟩ := ⟨by kernel_rfl, by kernel_rfl, by kernel_rfl, fun _ => ⟨by kernel_rfl, by kernel_rfl, by kernel_rfl⟩⟩
theorem ty25 : TyOK Tryz.prog 25 ⟨.st [(0, 23), (3, 23)], 6, 48, [.int .i64 0, .int .i64 0, .int .i64 0, .int .i64 0, .int .i64 0, .int .i64 0], true⟩ := ⟨by kernel_rfl, by kernel_rfl, by kernel_rfl, fun _ => ⟨by kernel_rfl, by kernel_rfl, by kernel_rfl⟩⟩
theorem ty31 : TyOK Tryz.prog 31 ⟨.nm .i64, 1, 8, [.int .i64 0], true⟩ := ⟨by kernel_rfl, by kernel_rfl, by kernel_rfl, fun _ => ⟨by kernel_rfl, by kernel_rfl, by kernel_rfl⟩⟩
theorem ty45 : TyOK Tryz.prog 45 ⟨.st [(0, 3), (1, 3)], 2, 16, [.int .i64 0, .int .i64 0], true⟩ := ⟨by kernel_rfl, by kernel_rfl, by kernel_rfl, fun _ => ⟨by kernel_rfl, by kernel_rfl, by kernel_rfl⟩⟩
theorem ty47 : TyOK Tryz.prog 47 ⟨.st [(0, 23), (3, 3), (4, 3), (5, 45), (7, 3), (8, 3), (9, 3), (10, 3), (11, 3)], 12, 96, [.int .i64 0, .int .i64 0, .int .i64 0, .int .i64 0, .int .i64 0, .int .i64 0, .int .i64 0, .int .i64 0, .int .i64 0, .int .i64 0, .int .i64 0, .int .i64 0], true⟩ := ⟨by kernel_rfl, by kernel_rfl, by kernel_rfl, fun _ => ⟨by kernel_rfl, by kernel_rfl, by kernel_rfl⟩⟩
theorem ty48 : TyOK Tryz.prog 48 ⟨.sl 23, 1, 24, [.slice none 0 0], false⟩ := ⟨by kernel_rfl, by kernel_rfl, by kernel_rfl, fun h => by cases h⟩
theorem ty49 : TyOK Tryz.prog 49 ⟨.sl 3, 1, 24, [.slice none 0 0], false⟩ := ⟨by kernel_rfl, by kernel_rfl, by kernel_rfl, fun h => by cases h⟩
theorem ty51 : TyOK Tryz.prog 51 ⟨.st [(0, 48), (1, 49)], 2, 48, [.slice none 0 0, .slice none 0 0], false⟩ := ⟨by kernel_rfl, by kernel_rfl, by kernel_rfl, fun h => by cases h⟩
theorem ty57 : TyOK Tryz.prog 57 ⟨.st [(0, 23), (3, 3), (4, 3)], 5, 40, [.int .i64 0, .int .i64 0, .int .i64 0, .int .i64 0, .int .i64 0], true⟩ := ⟨by kernel_rfl, by kernel_rfl, by kernel_rfl, fun _ => ⟨by kernel_rfl, by kernel_rfl, by kernel_rfl⟩⟩
theorem ty59 : TyOK Tryz.prog 59 ⟨.st [(0, 25), (6, 22)], 7, 72, [.int .i64 0, .int .i64 0, .int .i64 0, .int .i64 0, .int .i64 0, .int .i64 0, .slice none 0 0], false⟩ := ⟨by kernel_rfl, by kernel_rfl, by kernel_rfl, fun h => by cases h⟩
theorem ty69 : TyOK Tryz.prog 69 ⟨.sl 25, 1, 24, [.slice none 0 0], false⟩ := ⟨by kernel_rfl, by kernel_rfl, by kernel_rfl, fun h => by cases h⟩
theorem ty74 : TyOK Tryz.prog 74 ⟨.st [(0, 69), (1, 3)], 2, 32, [.slice none 0 0, .int .i64 0], false⟩ := ⟨by kernel_rfl, by kernel_rfl, by kernel_rfl, fun h => by cases h⟩
theorem ty79 : TyOK Tryz.prog 79 ⟨.st [(0, 3), (1, 3)], 2, 16, [.int .i64 0, .int .i64 0], true⟩ := ⟨by kernel_rfl, by kernel_rfl, by kernel_rfl, fun _ => ⟨by kernel_rfl, by kernel_rfl, by kernel_rfl⟩⟩
theorem ty83 : TyOK Tryz.prog 83 ⟨.sl 9, 1, 24, [.slice none 0 0], false⟩ := ⟨by kernel_rfl, by kernel_rfl, by kernel_rfl, fun h => by cases h⟩
theorem ty90 : TyOK Tryz.prog 90 ⟨.oth, 1, 8, [.pointer none], false⟩ := ⟨by kernel_rfl, by kernel_rfl, by kernel_rfl, fun h => by cases h⟩
theorem ty99 : TyOK Tryz.prog 99 ⟨.oth, 1, 8, [.nilFunc], false⟩ := ⟨by kernel_rfl, by kernel_rfl, by kernel_rfl, fun h => by cases h⟩
theorem ty106 : TyOK Tryz.prog 106 ⟨.st [(0, 47)], 12, 96, [.int .i64 0, .int .i64 0, .int .i64 0, .int .i64 0, .int .i64 0, .int .i64 0, .int .i64 0, .int .i64 0, .int .i64 0, .int .i64 0, .int .i64 0, .int .i64 0], true⟩ := ⟨by kernel_rfl, by kernel_rfl, by kernel_rfl, fun _ => ⟨by kernel_rfl, by kernel_rfl, by kernel_rfl⟩⟩
theorem ty107 : TyOK Tryz.prog 107 ⟨.ar 3 3, 3, 24, [.int .i64 0, .int .i64 0, .int .i64 0], true⟩ := ⟨by kernel_rfl, by kernel_rfl, by kernel_rfl, fun _ => ⟨by kernel_rfl, by kernel_rfl, by kernel_rfl⟩⟩
theorem ty120 : TyOK Tryz.prog 120 ⟨.st [(0, 107), (3, 3)], 4, 32, [.int .i64 0, .int .i64 0, .int .i64 0, .int .i64 0], true⟩ := ⟨by kernel_rfl, by kernel_rfl, by kernel_rfl, fun _ => ⟨by kernel_rfl, by kernel_rfl, by kernel_rfl⟩⟩
theorem ty122 : TyOK Tryz.prog 122 ⟨.oth, 1, 8, [.pointer none], false⟩ := ⟨by kernel_rfl, by kernel_rfl, by kernel_rfl, fun h => by cases h⟩
theorem ty127 : TyOK Tryz.prog 127 ⟨.st [(0, 3), (1, 3)], 2, 16, [.int .i64 0, .int .i64 0], true⟩ := ⟨by kernel_rfl, by kernel_rfl, by kernel_rfl, fun _ => ⟨by kernel_rfl, by kernel_rfl, by kernel_rfl⟩⟩
theorem ty134 : TyOK Tryz.prog 134 ⟨.oth, 1, 8, [.nilFunc], false⟩ := ⟨by kernel_rfl, by kernel_rfl, by kernel_rfl, fun h => by cases h⟩
theorem ty141 : TyOK Tryz.prog 141 ⟨.oth, 1, 8, [.pointer none], false⟩ := ⟨by kernel_rfl, by kernel_rfl, by kernel_rfl, fun h => by cases h⟩
theorem ty142 : TyOK Tryz.prog 142 ⟨.sl 5, 1, 24, [.slice none 0 0], false⟩ := ⟨by kernel_rfl, by kernel_rfl, by kernel_rfl, fun h => by cases h⟩
theorem ty144 : TyOK Tryz.prog 144 ⟨.st [(0, 141), (1, 142)], 2, 32, [.pointer none, .slice none 0 0], false⟩ := ⟨by kernel_rfl, by kernel_rfl, by kernel_rfl, fun h => by cases h⟩
theorem ty152 : TyOK Tryz.prog 152 ⟨.sl 90, 1, 24, [.slice none 0 0], false⟩ := ⟨by kernel_rfl, by kernel_rfl, by kernel_rfl, fun h => by cases h⟩
theorem ty160 : TyOK Tryz.prog 160 ⟨.sl 31, 1, 24, [.slice none 0 0], false⟩ := ⟨by kernel_rfl, by kernel_rfl, by kernel_rfl, fun h => by cases h⟩
theorem ty164 : TyOK Tryz.prog 164 ⟨.st [(0, 23), (3, 3)], 4, 32, [.int .i64 0, .int .i64 0, .int .i64 0, .int .i64 0], true⟩ := ⟨by kernel_rfl, by kernel_rfl, by kernel_rfl, fun _ => ⟨by kernel_rfl, by kernel_rfl, by kernel_rfl⟩⟩
theorem ty167 : TyOK Tryz.prog 167 ⟨.ar 2 25, 12, 96, [.int .i64 0, .int .i64 0, .int .i64 0, .int .i64 0, .int .i64 0, .int .i64 0, .int .i64 0, .int .i64 0, .int .i64 0, .int .i64 0, .int .i64 0, .int .i64 0], true⟩ := ⟨by kernel_rfl, by kernel_rfl, by kernel_rfl, fun _ => ⟨by kernel_rfl, by kernel_rfl, by kernel_rfl⟩⟩
theorem ty175 : TyOK Tryz.prog 175 ⟨.oth, 1, 8, [.pointer none], false⟩ := ⟨by kernel_rfl, by kernel_rfl, by kernel_rfl, fun h => by cases h⟩
theorem ty184 : TyOK Tryz.prog 184 ⟨.nm .u64, 1, 8, [.int .u64 0], true⟩ := ⟨by kernel_rfl, by kernel_rfl, by kernel_rfl, fun _ => ⟨by kernel_rfl, by kernel_rfl, by kernel_rfl⟩⟩
theorem ty199 : TyOK Tryz.prog 199 ⟨.ar 4 3, 4, 32, [.int .i64 0, .int .i64 0, .int .i64 0, .int .i64 0], true⟩ := ⟨by kernel_rfl, by kernel_rfl, by kernel_rfl, fun _ => ⟨by kernel_rfl, by kernel_rfl, by kernel_rfl⟩⟩
theorem ty202 : TyOK Tryz.prog 202 ⟨.nm .u64, 1, 8, [.int .u64 0], true⟩ := ⟨by kernel_rfl, by kernel_rfl, by kernel_rfl, fun _ => ⟨by kernel_rfl, by kernel_rfl, by kernel_rfl⟩⟩
theorem ty209 : TyOK Tryz.prog 209 ⟨.st [(0, 5), (1, 5)], 2, 2, [.int .u8 0, .int .u8 0], false⟩ := ⟨by kernel_rfl, by kernel_rfl, by kernel_rfl, fun h => by cases h⟩
theorem ty210 : TyOK Tryz.prog 210 ⟨.ar 16 209, 32, 32, [.int .u8 0, .int .u8 0, .int .u8 0, .int .u8 0, .int .u8 0, .int .u8 0, .int .u8 0, .int .u8 0, .int .u8 0, .int .u8 0, .int .u8 0, .int .u8 0, .int .u8 0, .int .u8 0, .int .u8 0, .int .u8 0, .int .u8 0, .int .u8 0, .int .u8 0, .int .u8 0, .int .u8 0, .int .u8 0, .int .u8 0, .int .u8 0, .int .u8 0, .int .u8 0, .int .u8 0, .int .u8 0, .int .u8 0, .int .u8 0, .int .u8 0, .int .u8 0], false⟩ := ⟨by kernel_rfl, by kernel_rfl, by kernel_rfl, fun h => by cases h⟩
theorem ty221 : TyOK Tryz.prog 221 ⟨.nm .u32, 1, 4, [.int .u32 0], true⟩ := ⟨by kernel_rfl, by kernel_rfl, by kernel_rfl, fun _ => ⟨by kernel_rfl, by kernel_rfl, by kernel_rfl⟩⟩
theorem ty229 : TyOK Tryz.prog 229 ⟨.st [(0, 9)], 1, 16, [.string ⟨#[]⟩], false⟩ := ⟨by kernel_rfl, by kernel_rfl, by kernel_rfl, fun h => by cases h⟩
theorem ty231 : TyOK Tryz.prog 231 ⟨.ar 32 5, 32, 32, [.int .u8 0, .int .u8 0, .int .u8 0, .int .u8 0, .int .u8 0, .int .u8 0, .int .u8 0, .int .u8 0, .int .u8 0, .int .u8 0, .int .u8 0, .int .u8 0, .int .u8 0, .int .u8 0, .int .u8 0, .int .u8 0, .int .u8 0, .int .u8 0, .int .u8 0, .int .u8 0, .int .u8 0, .int .u8 0, .int .u8 0, .int .u8 0, .int .u8 0, .int .u8 0, .int .u8 0, .int .u8 0, .int .u8 0, .int .u8 0, .int .u8 0, .int .u8 0], true⟩ := ⟨by kernel_rfl, by kernel_rfl, by kernel_rfl, fun _ => ⟨by kernel_rfl, by kernel_rfl, by kernel_rfl⟩⟩
theorem qo : TabOK Tryz.prog tab := by
 refine tab_of fun p hp => ?_
 simp only [tabL, List.mem_cons, List.not_mem_nil, or_false] at hp
 rcases hp with rfl | rfl | rfl | rfl | rfl | rfl | rfl | rfl | rfl | rfl | rfl | rfl | rfl | rfl | rfl | rfl | rfl | rfl | rfl | rfl | rfl | rfl | rfl | rfl | rfl | rfl | rfl | rfl | rfl | rfl | rfl | rfl | rfl | rfl | rfl | rfl | rfl | rfl | rfl | rfl | rfl | rfl | rfl | rfl
 ·exact ty3
 ·exact ty4
 ·exact ty5
 ·exact ty9
 ·exact ty21
 ·exact ty22
 ·exact ty23
 ·exact ty25
 ·exact ty31
 ·exact ty45
 ·exact ty47
 ·exact ty48
 ·exact ty49
 ·exact ty51
 ·exact ty57
 ·exact ty59
 ·exact ty69
 ·exact ty74
 ·exact ty79
 ·exact ty83
 ·exact ty90
 ·exact ty99
 ·exact ty106
 ·exact ty107
 ·exact ty120
 ·exact ty122
 ·exact ty127
 ·exact ty134
 ·exact ty141
 ·exact ty142
 ·exact ty144
 ·exact ty152
 ·exact ty160
 ·exact ty164
 ·exact ty167
 ·exact ty175
 ·exact ty184
 ·exact ty199
 ·exact ty202
 ·exact ty209
 ·exact ty210
 ·exact ty221
 ·exact ty229
 ·exact ty231
theorem mixed : Tryz.prog.follows .mixedOrders = true := by kernel_rfl
end Go.Proofs.YtfadkjcfjkmalaaGreatDoor
