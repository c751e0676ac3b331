/-
  Parts of the proof.
-/
import Derived.Ground.Names7Prog
import Derived.Shelf.Spec.TrailingZeros
import Derived.Shelf.Strings.Builder1
import Derived.Shelf.Strings.Builder2
import Derived.Shelf.Strings.OnBuilder
import Derived.Shelf.Small.Strs
import Derived.Shelf.Strings.BuilderF
import Derived.Shelf.Strings.BuilderK
import Derived.Shelf.Strconv.Atoi
import Derived.Shelf.Strconv.Itoa0
import Derived.Shelf.Strconv.Itoa1
import Derived.Shelf.LaysM
import Derived.Shelf.Strconv.Itoa2
import Derived.Shelf.Strconv.Itoa3
import Derived.Shelf.Strconv.AtoiErrFast
import Derived.Shelf.Strconv.ParseIntEmpty
import Derived.Shelf.Strconv.AtoiFail
import Derived.Shelf.Strconv.Clone
import Derived.Shelf.Strconv.SyntaxError
import Derived.Shelf.LaysC
import Derived.Shelf.Strconv.ToError
import Derived.Shelf.Strconv.Lower
import Derived.Shelf.Strconv.ParseUint10
import Derived.Shelf.Strconv.ParseUint10Empty
import Derived.Shelf.Strconv.ParseUint10Any
import Derived.Shelf.Strconv.ParseInt10
import Derived.Shelf.Strconv.AtoiLong
import Derived.Shelf.Strconv.AtoiInnerAll
import Derived.Shelf.Strconv.RangeError
import Derived.Shelf.Strconv.ToErrorRange
import Derived.Shelf.Strconv.AtoiAll
import Derived.Shelf.Strconv.ErrVarAll
import Derived.Shelf.Strings.Search1
import Derived.Shelf.Strings.Search2
import Derived.Shelf.Strings.Search3
import Derived.Shelf.Strings.Count
import Derived.Shelf.Strings.Shaped
import Derived.Shelf.GgClosure.StringsIndexFunc
import Derived.Ground.GgwProg
import Derived.Shelf.GgClosure.StringsIndexFuncTop
import Derived.Shelf.Strings.Prefix
import Derived.Shelf.Strings.Split
import Derived.Shelf.Strings.SplitShaped
import Derived.Shelf.Bits.Mul64
import Derived.Shelf.Strings.Repeat
import Derived.Shelf.Unicode.DecodeSlow
import Derived.Shelf.Unicode.DecodeAny
import Derived.Shelf.Strings.FuncGrows
import Derived.Ground.Names2Prog
import Derived.Shelf.Slices.ReverseS
import Derived.Shelf.Slices.Cells
import Derived.Test.YtfjbjjeekhcboaaGreatDoorProg
import Derived.Test.YtfjbjjeekhcboaaGreatDoorA2
import Derived.Lib.LaidTab
import Derived.Test.YtfjbjjeekhcboaaGreatDoorA3
import Derived.LaidEql
import Derived.Stop.Asserts
import Derived.RowKitTokens

set_option linter.unusedSimpArgs false
set_option linter.unusedVariables false

namespace Go.Proofs
open Go.Shelf
def Tryz.lays156_ren : Go.Shelf.Ren := ⟨fun | 156 => 30 | 165 => 55 | 166 => 25 | 169 => 28 | 240 => 53 | 241 => 82 | 276 => 80 | 277 => 101 | n => n, fun | 31 => 33 | 9 => 9 | 3 => 3 | 4 => 4 | 0 => 0 | 20 => 20 | 72 => 53 | 76 => 56 | 70 => 51 | 37 => 50 | 75 => 37 | 127 => 88 | 164 => 74 | 5 => 5 | 80 => 60 | n => n, fun | n => n⟩
theorem Tryz.lays156 : Go.Proofs.Lays.n156 Tryz.prog Tryz.lays156_ren := {
  mixed := by kernel_rfl
  f156 := Tryz.func30.trans (congrArg some (by kernel_rfl))
  f165 := Tryz.func55.trans (congrArg some (by kernel_rfl))
  f166 := Tryz.func25.trans (congrArg some (by kernel_rfl))
  f169 := Tryz.func28.trans (congrArg some (by kernel_rfl))
  f240 := Tryz.func53.trans (congrArg some (by kernel_rfl))
  f241 := Tryz.func82.trans (congrArg some (by kernel_rfl))
  f276 := Tryz.func80.trans (congrArg some (by kernel_rfl))
  f277 := Tryz.func101.trans (congrArg some (by kernel_rfl))
  t0 := Tryz.underlying0
  a0 := Tryz.isAgg0
  z0 := Tryz.sizeOf0
  v0 := Tryz.zeroValue0
  t3 := Tryz.underlying3
  a3 := Tryz.isAgg3
  z3 := Tryz.sizeOf3
  v3 := Tryz.zeroValue3
  t4 := Tryz.underlying4
  a4 := Tryz.isAgg4
  z4 := Tryz.sizeOf4
  v4 := Tryz.zeroValue4
  t9 := Tryz.underlying9
  a9 := Tryz.isAgg9
  z9 := Tryz.sizeOf9
  v9 := Tryz.zeroValue9
  t20 := Tryz.underlying20
  a20 := Tryz.isAgg20
  z20 := Tryz.sizeOf20
  v20 := Tryz.zeroValue20
  t31 := Tryz.underlying33
  a31 := Tryz.isAgg33
  z31 := Tryz.sizeOf33
  v31 := Tryz.zeroValue33
  t37 := Tryz.underlying50
  a37 := Tryz.isAgg50
  z37 := Tryz.sizeOf50
  v37 := Tryz.zeroValue50
  t70 := Tryz.underlying51
  a70 := Tryz.isAgg51
  z70 := Tryz.sizeOf51
  v70 := Tryz.zeroValue51
  t72 := Tryz.underlying53
  a72 := Tryz.isAgg53
  z72 := Tryz.sizeOf53
  v72 := Tryz.zeroValue53
  t75 := Tryz.underlying37
  a75 := Tryz.isAgg37
  z75 := Tryz.sizeOf37
  v75 := Tryz.zeroValue37
  t76 := Tryz.underlying56
  a76 := Tryz.isAgg56
  z76 := Tryz.sizeOf56
  v76 := Tryz.zeroValue56
  t127 := Tryz.underlying88
  a127 := Tryz.isAgg88
  z127 := Tryz.sizeOf88
  v127 := Tryz.zeroValue88
  t164 := Tryz.underlying74
  a164 := Tryz.isAgg74
  z164 := Tryz.sizeOf74
  v164 := Tryz.zeroValue74 }
theorem Tryz.Builder_Extra_156 : Builder.Extra Tryz.prog Tryz.lays156_ren := {
  sizeBuilder := by kernel_rfl
  liesBuilder := by kernel_rfl
  t5 := Tryz.underlying5
  a5 := Tryz.isAgg5
  z5 := Tryz.sizeOf5
  v5 := Tryz.zeroValue5
  infoByte := by kernel_rfl
  cellsByte := by kernel_rfl
  sizeByte := by kernel_rfl
  neB5 := by decide }
open Go.RowKit in
theorem Tryz.strings_Join_none (a : Option Addr) (c : Nat) (sep : ByteArray) (w : World) :
    Calls Tryz.prog 30 #[.slice a 0 c, .string sep] w fun e w' => e = .returned (.string ⟨#[]⟩) ∧ w' = w := Any.strings_Join_none Tryz.lays156 Tryz.Builder_Extra_156 a c sep w
open Go.RowKit in
theorem Tryz.strings_Join (bk o c : Nat) (xs : List ByteArray) (sep : ByteArray) (w : World) (hcells : ∀ (j : Nat) x, xs[j]? = some x → w.cell? ⟨bk, o + j, none⟩ = some (.string x)) (hbk : bk < w.heap.size) (hN : xs.length ≤ 140737488355328) (hcap : xs.length ≤ c) (hlen : (Lib.join (xs.map (·.data.toList)) sep.data.toList).length ≤ 140737488355328) :
    Calls Tryz.prog 30 #[.slice (some ⟨bk, o, none⟩) xs.length c, .string sep] w fun e w' => e = .returned (.string ⟨(Lib.join (xs.map (·.data.toList)) sep.data.toList).toArray⟩) ∧ Below w.heap.size w w' := Any.strings_Join Tryz.lays156 Tryz.Builder_Extra_156 bk o c xs sep w hcells hbk hN hcap hlen
def Tryz.lays137_ren : Go.Shelf.Ren := ⟨fun | 137 => 92 | 217 => 88 | 266 => 110 | n => n, fun | 9 => 9 | 5 => 5 | 3 => 3 | n => n, fun | n => n⟩
theorem Tryz.lays137 : Go.Proofs.Lays.n137 Tryz.prog Tryz.lays137_ren := {
  mixed := by kernel_rfl
  f137 := Tryz.func92.trans (congrArg some (by kernel_rfl))
  f217 := Tryz.func88.trans (congrArg some (by kernel_rfl))
  f266 := Tryz.func110.trans (congrArg some (by kernel_rfl))
  t3 := Tryz.underlying3
  a3 := Tryz.isAgg3
  z3 := Tryz.sizeOf3
  v3 := Tryz.zeroValue3
  t5 := Tryz.underlying5
  a5 := Tryz.isAgg5
  z5 := Tryz.sizeOf5
  v5 := Tryz.zeroValue5
  t9 := Tryz.underlying9
  a9 := Tryz.isAgg9
  z9 := Tryz.sizeOf9
  v9 := Tryz.zeroValue9 }
open Go.RowKit in
theorem Tryz.strings_IndexByte (s : ByteArray) (c : Int) (w : World) :
    Calls Tryz.prog 92 #[.string s, .int .u8 c] w fun e w' => e = .returned (.int .i64 (Lib.indexByte s.data.toList c.toNat.toUInt8)) ∧ w' = w := Any.strings_IndexByte Tryz.lays137 s c w
def Tryz.laysM171_ren : Go.Shelf.Ren := ⟨fun | 171 => 26 | 243 => 54 | 246 => 81 | 283 => 97 | 284 => 98 | 285 => 99 | 286 => 100 | 129 => 115 | 317 => 114 | 318 => 116 | 319 => 117 | 320 => 118 | 337 => 126 | 338 => 127 | n => n, fun | 3 => 3 | 9 => 9 | 2 => 2 | 4 => 4 | 171 => 124 | 0 => 0 | 53 => 125 | 37 => 50 | 5 => 5 | 173 => 128 | 212 => 146 | 51 => 140 | 20 => 20 | 213 => 147 | 46 => 121 | 232 => 167 | 233 => 168 | n => n, fun | 17 => 2 | 18 => 7 | 19 => 8 | n => n⟩
theorem Tryz.laysM171 : Go.Proofs.LaysM.n171 Tryz.prog Tryz.laysM171_ren := {
  mixed := by kernel_rfl
  f129 := Tryz.func115.trans (congrArg some (by kernel_rfl))
  f171 := Tryz.func26.trans (congrArg some (by kernel_rfl))
  f243 := Tryz.func54.trans (congrArg some (by kernel_rfl))
  f246 := Tryz.func81.trans (congrArg some (by kernel_rfl))
  f283 := Tryz.func97.trans (congrArg some (by kernel_rfl))
  f284 := Tryz.func98.trans (congrArg some (by kernel_rfl))
  f285 := Tryz.func99.trans (congrArg some (by kernel_rfl))
  f286 := Tryz.func100.trans (congrArg some (by kernel_rfl))
  f317 := Tryz.func114.trans (congrArg some (by kernel_rfl))
  f318 := Tryz.func116.trans (congrArg some (by kernel_rfl))
  f319 := Tryz.func117.trans (congrArg some (by kernel_rfl))
  f320 := Tryz.func118.trans (congrArg some (by kernel_rfl))
  f337 := Tryz.func126.trans (congrArg some (by kernel_rfl))
  f338 := Tryz.func127.trans (congrArg some (by kernel_rfl))
  t0 := Tryz.underlying0
  a0 := Tryz.isAgg0
  z0 := Tryz.sizeOf0
  v0 := Tryz.zeroValue0
  t2 := Tryz.underlying2
  a2 := Tryz.isAgg2
  z2 := Tryz.sizeOf2
  v2 := Tryz.zeroValue2
  t3 := Tryz.underlying3
  a3 := Tryz.isAgg3
  z3 := Tryz.sizeOf3
  v3 := Tryz.zeroValue3
  t4 := Tryz.underlying4
  a4 := Tryz.isAgg4
  z4 := Tryz.sizeOf4
  v4 := Tryz.zeroValue4
  t5 := Tryz.underlying5
  a5 := Tryz.isAgg5
  z5 := Tryz.sizeOf5
  v5 := Tryz.zeroValue5
  t9 := Tryz.underlying9
  a9 := Tryz.isAgg9
  z9 := Tryz.sizeOf9
  v9 := Tryz.zeroValue9
  t20 := Tryz.underlying20
  a20 := Tryz.isAgg20
  z20 := Tryz.sizeOf20
  v20 := Tryz.zeroValue20
  t37 := Tryz.underlying50
  a37 := Tryz.isAgg50
  z37 := Tryz.sizeOf50
  v37 := Tryz.zeroValue50
  t46 := Tryz.underlying121
  a46 := Tryz.isAgg121
  z46 := Tryz.sizeOf121
  v46 := Tryz.zeroValue121
  t51 := Tryz.underlying140
  a51 := Tryz.isAgg140
  z51 := Tryz.sizeOf140
  v51 := Tryz.zeroValue140
  t53 := Tryz.underlying125
  a53 := Tryz.isAgg125
  z53 := Tryz.sizeOf125
  v53 := Tryz.zeroValue125
  t171 := Tryz.underlying124
  a171 := Tryz.isAgg124
  z171 := Tryz.sizeOf124
  v171 := Tryz.zeroValue124
  t173 := Tryz.underlying128
  a173 := Tryz.isAgg128
  z173 := Tryz.sizeOf128
  v173 := Tryz.zeroValue128
  t212 := Tryz.underlying146
  a212 := Tryz.isAgg146
  z212 := Tryz.sizeOf146
  v212 := Tryz.zeroValue146
  t213 := Tryz.underlying147
  a213 := Tryz.isAgg147
  z213 := Tryz.sizeOf147
  t232 := Tryz.underlying167
  a232 := Tryz.isAgg167
  z232 := Tryz.sizeOf167
  v232 := Tryz.zeroValue167
  t233 := Tryz.underlying168
  a233 := Tryz.isAgg168
  z233 := Tryz.sizeOf168
  v233 := Tryz.zeroValue168
  g17 := by kernel_rfl
  g18 := by kernel_rfl
  g19 := by kernel_rfl
  i0 := by kernel_rfl
  i2 := by kernel_rfl
  i3 := by kernel_rfl
  i4 := by kernel_rfl
  i5 := by kernel_rfl
  i9 := by kernel_rfl
  i20 := by kernel_rfl
  i37 := by kernel_rfl
  i46 := by kernel_rfl
  i51 := by kernel_rfl
  i53 := by kernel_rfl
  i171 := by kernel_rfl
  i173 := by kernel_rfl
  i212 := by kernel_rfl
  i232 := by kernel_rfl
  i233 := by kernel_rfl
  m17 := by kernel_rfl
  m18 := by kernel_rfl
  m19 := by kernel_rfl }
open Go.RowKit Go.Sort Go.Lib in
theorem Tryz.strconv_Itoa (n : Int) (h0 : -9223372036854775808 ≤ n) (h1 : n ≤ 9223372036854775807) (w : World) (htab : Lib.TabIs Tryz.prog w "internal/strconv.uint64pow10" .u64 Lib.pow10Tab) :
    Calls Tryz.prog 26 #[.int .i64 n] w fun e w' => e = .returned (.string ⟨(Lib.itoa n).toArray⟩) ∧ ∃ k os, w' = grow (w.drewN k) os := Any.strconv_Itoa Tryz.laysM171 n h0 h1 w htab
def Tryz.laysC172_ren : Go.Shelf.Ren := ⟨fun | 172 => 64 | 244 => 86 | 245 => 87 | 247 => 105 | 279 => 106 | 280 => 107 | 281 => 108 | 282 => 109 | 287 => 120 | 316 => 121 | 171 => 26 | 205 => 122 | 321 => 128 | 322 => 129 | 243 => 54 | 246 => 81 | 283 => 97 | 284 => 98 | 285 => 99 | 286 => 100 | 129 => 115 | 317 => 114 | 318 => 116 | 319 => 117 | 320 => 118 | 337 => 126 | 338 => 127 | n => n, fun | 9 => 9 | 3 => 3 | 75 => 37 | 76 => 56 | 4 => 4 | 5 => 5 | 167 => 134 | 37 => 50 | 0 => 0 | 85 => 135 | 2 => 2 | 168 => 137 | 53 => 125 | 175 => 150 | 46 => 121 | 210 => 154 | 127 => 88 | 145 => 166 | 143 => 164 | 21 => 21 | 171 => 124 | 173 => 128 | 212 => 146 | 51 => 140 | 20 => 20 | 213 => 147 | 232 => 167 | 233 => 168 | 80 => 60 | n => n, fun | 15 => 3 | 16 => 4 | 17 => 2 | 18 => 7 | 19 => 8 | n => n⟩
theorem Tryz.laysC172 : Go.Proofs.LaysC.n172 Tryz.prog Tryz.laysC172_ren := {
  mixed := by kernel_rfl
  f129 := Tryz.func115.trans (congrArg some (by kernel_rfl))
  f171 := Tryz.func26.trans (congrArg some (by kernel_rfl))
  f172 := Tryz.func64.trans (congrArg some (by kernel_rfl))
  f205 := Tryz.func122.trans (congrArg some (by kernel_rfl))
  f243 := Tryz.func54.trans (congrArg some (by kernel_rfl))
  f244 := Tryz.func86.trans (congrArg some (by kernel_rfl))
  f245 := Tryz.func87.trans (congrArg some (by kernel_rfl))
  f246 := Tryz.func81.trans (congrArg some (by kernel_rfl))
  f247 := Tryz.func105.trans (congrArg some (by kernel_rfl))
  f279 := Tryz.func106.trans (congrArg some (by kernel_rfl))
  f280 := Tryz.func107.trans (congrArg some (by kernel_rfl))
  f281 := Tryz.func108.trans (congrArg some (by kernel_rfl))
  f282 := Tryz.func109.trans (congrArg some (by kernel_rfl))
  f283 := Tryz.func97.trans (congrArg some (by kernel_rfl))
  f284 := Tryz.func98.trans (congrArg some (by kernel_rfl))
  f285 := Tryz.func99.trans (congrArg some (by kernel_rfl))
  f286 := Tryz.func100.trans (congrArg some (by kernel_rfl))
  f287 := Tryz.func120.trans (congrArg some (by kernel_rfl))
  f316 := Tryz.func121.trans (congrArg some (by kernel_rfl))
  f317 := Tryz.func114.trans (congrArg some (by kernel_rfl))
  f318 := Tryz.func116.trans (congrArg some (by kernel_rfl))
  f319 := Tryz.func117.trans (congrArg some (by kernel_rfl))
  f320 := Tryz.func118.trans (congrArg some (by kernel_rfl))
  f321 := Tryz.func128.trans (congrArg some (by kernel_rfl))
  f322 := Tryz.func129.trans (congrArg some (by kernel_rfl))
  f337 := Tryz.func126.trans (congrArg some (by kernel_rfl))
  f338 := Tryz.func127.trans (congrArg some (by kernel_rfl))
  t0 := Tryz.underlying0
  a0 := Tryz.isAgg0
  z0 := Tryz.sizeOf0
  v0 := Tryz.zeroValue0
  t2 := Tryz.underlying2
  a2 := Tryz.isAgg2
  z2 := Tryz.sizeOf2
  v2 := Tryz.zeroValue2
  t3 := Tryz.underlying3
  a3 := Tryz.isAgg3
  z3 := Tryz.sizeOf3
  v3 := Tryz.zeroValue3
  t4 := Tryz.underlying4
  a4 := Tryz.isAgg4
  z4 := Tryz.sizeOf4
  v4 := Tryz.zeroValue4
  t5 := Tryz.underlying5
  a5 := Tryz.isAgg5
  z5 := Tryz.sizeOf5
  v5 := Tryz.zeroValue5
  t9 := Tryz.underlying9
  a9 := Tryz.isAgg9
  z9 := Tryz.sizeOf9
  v9 := Tryz.zeroValue9
  t20 := Tryz.underlying20
  a20 := Tryz.isAgg20
  z20 := Tryz.sizeOf20
  v20 := Tryz.zeroValue20
  t21 := Tryz.underlying21
  a21 := Tryz.isAgg21
  z21 := Tryz.sizeOf21
  v21 := Tryz.zeroValue21
  t37 := Tryz.underlying50
  a37 := Tryz.isAgg50
  z37 := Tryz.sizeOf50
  v37 := Tryz.zeroValue50
  t46 := Tryz.underlying121
  a46 := Tryz.isAgg121
  z46 := Tryz.sizeOf121
  v46 := Tryz.zeroValue121
  t51 := Tryz.underlying140
  a51 := Tryz.isAgg140
  z51 := Tryz.sizeOf140
  v51 := Tryz.zeroValue140
  t53 := Tryz.underlying125
  a53 := Tryz.isAgg125
  z53 := Tryz.sizeOf125
  v53 := Tryz.zeroValue125
  t75 := Tryz.underlying37
  a75 := Tryz.isAgg37
  z75 := Tryz.sizeOf37
  v75 := Tryz.zeroValue37
  t76 := Tryz.underlying56
  a76 := Tryz.isAgg56
  z76 := Tryz.sizeOf56
  v76 := Tryz.zeroValue56
  t85 := Tryz.underlying135
  a85 := Tryz.isAgg135
  z85 := Tryz.sizeOf135
  v85 := Tryz.zeroValue135
  t127 := Tryz.underlying88
  a127 := Tryz.isAgg88
  z127 := Tryz.sizeOf88
  v127 := Tryz.zeroValue88
  t143 := Tryz.underlying164
  a143 := Tryz.isAgg164
  z143 := Tryz.sizeOf164
  v143 := Tryz.zeroValue164
  t145 := Tryz.underlying166
  a145 := Tryz.isAgg166
  z145 := Tryz.sizeOf166
  v145 := Tryz.zeroValue166
  t167 := Tryz.underlying134
  a167 := Tryz.isAgg134
  z167 := Tryz.sizeOf134
  v167 := Tryz.zeroValue134
  t168 := Tryz.underlying137
  a168 := Tryz.isAgg137
  z168 := Tryz.sizeOf137
  v168 := Tryz.zeroValue137
  t171 := Tryz.underlying124
  a171 := Tryz.isAgg124
  z171 := Tryz.sizeOf124
  v171 := Tryz.zeroValue124
  t173 := Tryz.underlying128
  a173 := Tryz.isAgg128
  z173 := Tryz.sizeOf128
  v173 := Tryz.zeroValue128
  t175 := Tryz.underlying150
  a175 := Tryz.isAgg150
  z175 := Tryz.sizeOf150
  v175 := Tryz.zeroValue150
  t210 := Tryz.underlying154
  a210 := Tryz.isAgg154
  z210 := Tryz.sizeOf154
  v210 := Tryz.zeroValue154
  t212 := Tryz.underlying146
  a212 := Tryz.isAgg146
  z212 := Tryz.sizeOf146
  v212 := Tryz.zeroValue146
  t213 := Tryz.underlying147
  a213 := Tryz.isAgg147
  z213 := Tryz.sizeOf147
  t232 := Tryz.underlying167
  a232 := Tryz.isAgg167
  z232 := Tryz.sizeOf167
  v232 := Tryz.zeroValue167
  t233 := Tryz.underlying168
  a233 := Tryz.isAgg168
  z233 := Tryz.sizeOf168
  v233 := Tryz.zeroValue168
  g15 := by kernel_rfl
  g16 := by kernel_rfl
  g17 := by kernel_rfl
  g18 := by kernel_rfl
  g19 := by kernel_rfl
  t80 := Tryz.underlying60
  a80 := Tryz.isAgg60
  z80 := Tryz.sizeOf60
  v80 := Tryz.zeroValue60
  i0 := by kernel_rfl
  i2 := by kernel_rfl
  i3 := by kernel_rfl
  i4 := by kernel_rfl
  i5 := by kernel_rfl
  i9 := by kernel_rfl
  i20 := by kernel_rfl
  i21 := by kernel_rfl
  i37 := by kernel_rfl
  i46 := by kernel_rfl
  i51 := by kernel_rfl
  i53 := by kernel_rfl
  i75 := by kernel_rfl
  i76 := by kernel_rfl
  i80 := by kernel_rfl
  i85 := by kernel_rfl
  i127 := by kernel_rfl
  i143 := by kernel_rfl
  i145 := by kernel_rfl
  i167 := by kernel_rfl
  i168 := by kernel_rfl
  i171 := by kernel_rfl
  i173 := by kernel_rfl
  i175 := by kernel_rfl
  i210 := by kernel_rfl
  i212 := by kernel_rfl
  i232 := by kernel_rfl
  i233 := by kernel_rfl
  m15 := by kernel_rfl
  m16 := by kernel_rfl
  m17 := by kernel_rfl
  m18 := by kernel_rfl
  m19 := by kernel_rfl
  c0 := by kernel_rfl
  c2 := by kernel_rfl
  c3 := by kernel_rfl
  c4 := by kernel_rfl
  c5 := by kernel_rfl
  c9 := by kernel_rfl
  c20 := by kernel_rfl
  c21 := by kernel_rfl
  c37 := by kernel_rfl
  c46 := by kernel_rfl
  c51 := by kernel_rfl
  c53 := by kernel_rfl
  c75 := by kernel_rfl
  c76 := by kernel_rfl
  c80 := by kernel_rfl
  c85 := by kernel_rfl
  c127 := by kernel_rfl
  c143 := by kernel_rfl
  c145 := by kernel_rfl
  c167 := by kernel_rfl
  c168 := by kernel_rfl
  c171 := by kernel_rfl
  c173 := by kernel_rfl
  c175 := by kernel_rfl
  c210 := by kernel_rfl
  c212 := by kernel_rfl
  c213 := by kernel_rfl
  c232 := by kernel_rfl
  c233 := by kernel_rfl }
open Go.RowKit in
theorem Tryz.strconv_Atoi_ok (s : ByteArray) (hmax : s.size ≤ 9223372036854775806) (v : Int) (h : Lib.atoiAll s.data.toList = .ok v) (w : World) :
    Calls Tryz.prog 64 #[.string s] w fun e w' => e = .returned (.tuple #[.int .i64 v, .nilIface]) ∧ (w' = w ∨ ∃ t, w' = Lib.bytesWorld w 5 t) := Any.strconv_Atoi_ok Tryz.laysC172 s hmax v h w
open Go.RowKit in
theorem Tryz.strconv_Atoi_syntax_var (s : ByteArray) (hlim : s.size ≤ 281474976710656) (h : Lib.atoiAll s.data.toList =  Lib.atoiAll []) (tp : TypeId) (p : Value) (w : World) (hvar : w.var? Tryz.prog "strconv.ErrSyntax" = some #[.iface tp p]) :
    Calls Tryz.prog 64 #[.string s] w fun e w' => ∃ N, e = .returned (.tuple #[.int .i64 0, .iface 137 (.pointer (some ⟨N, 0, none⟩))]) ∧ w.heap.size ≤ N ∧ w'.heap[N]? = some (.cells #[.string ⟨#[65, 116, 111, 105]⟩, .string s, .iface tp p] 154 (0, 0)) ∧ Below w.heap.size w w' := Any.strconv_Atoi_syntax_var Tryz.laysC172 s hlim h tp p w hvar
open Go.RowKit in
theorem Tryz.strconv_Atoi_range_var (s : ByteArray) (hlim : s.size ≤ 281474976710656) (h : Lib.atoiAll s.data.toList = .range) (tp : TypeId) (p : Value) (w : World) (hvar : w.var? Tryz.prog "strconv.ErrRange" = some #[.iface tp p]) :
    Calls Tryz.prog 64 #[.string s] w fun e w' => ∃ N, e = .returned (.tuple #[.int .i64 (Lib.atoiSat s.data.toList), .iface 137 (.pointer (some ⟨N, 0, none⟩))]) ∧ w.heap.size ≤ N ∧ w'.heap[N]? = some (.cells #[.string ⟨#[65, 116, 111, 105]⟩, .string s, .iface tp p] 154 (0, 0)) ∧ Below w.heap.size w w' := Any.strconv_Atoi_range_var Tryz.laysC172 s hlim h tp p w hvar
def Tryz.lays143_ren : Go.Shelf.Ren := ⟨fun | 143 => 40 | 219 => 65 | 217 => 88 | 225 => 89 | 224 => 90 | 267 => 91 | 266 => 110 | 314 => 111 | n => n, fun | 9 => 9 | 3 => 3 | 4 => 4 | 5 => 5 | 46 => 121 | 146 => 141 | 51 => 140 | n => n, fun | 1 => 1 | n => n⟩
theorem Tryz.lays143 : Go.Proofs.Lays.n143 Tryz.prog Tryz.lays143_ren := {
  mixed := by kernel_rfl
  f143 := Tryz.func40.trans (congrArg some (by kernel_rfl))
  f217 := Tryz.func88.trans (congrArg some (by kernel_rfl))
  f219 := Tryz.func65.trans (congrArg some (by kernel_rfl))
  f224 := Tryz.func90.trans (congrArg some (by kernel_rfl))
  f225 := Tryz.func89.trans (congrArg some (by kernel_rfl))
  f266 := Tryz.func110.trans (congrArg some (by kernel_rfl))
  f267 := Tryz.func91.trans (congrArg some (by kernel_rfl))
  f314 := Tryz.func111.trans (congrArg some (by kernel_rfl))
  t3 := Tryz.underlying3
  a3 := Tryz.isAgg3
  z3 := Tryz.sizeOf3
  v3 := Tryz.zeroValue3
  t4 := Tryz.underlying4
  a4 := Tryz.isAgg4
  z4 := Tryz.sizeOf4
  v4 := Tryz.zeroValue4
  t5 := Tryz.underlying5
  a5 := Tryz.isAgg5
  z5 := Tryz.sizeOf5
  v5 := Tryz.zeroValue5
  t9 := Tryz.underlying9
  a9 := Tryz.isAgg9
  z9 := Tryz.sizeOf9
  v9 := Tryz.zeroValue9
  t46 := Tryz.underlying121
  a46 := Tryz.isAgg121
  z46 := Tryz.sizeOf121
  v46 := Tryz.zeroValue121
  t51 := Tryz.underlying140
  a51 := Tryz.isAgg140
  z51 := Tryz.sizeOf140
  v51 := Tryz.zeroValue140
  t146 := Tryz.underlying141
  a146 := Tryz.isAgg141
  z146 := Tryz.sizeOf141
  v146 := Tryz.zeroValue141
  g1 := by kernel_rfl }
open Go.RowKit Go.Lib in
theorem Tryz.strings_Index (s sub : ByteArray) (m : Int) (w : World) (hs : s.size < 4294967281) (hm : w.cell? ⟨1, 0, none⟩ = some (.int .i64 m)) :
    Calls Tryz.prog 40 #[.string s, .string sub] w fun e w' => e = .returned (.int .i64 (Lib.index s.data.toList sub.data.toList)) ∧ w' = w := Any.strings_Index Tryz.lays143 s sub m w hs hm
def Tryz.lays144_ren : Go.Shelf.Ren := ⟨fun | 144 => 42 | 143 => 40 | 219 => 65 | 217 => 88 | 225 => 89 | 224 => 90 | 267 => 91 | 266 => 110 | 314 => 111 | n => n, fun | 9 => 9 | 4 => 4 | 3 => 3 | 5 => 5 | 46 => 121 | 146 => 141 | 51 => 140 | n => n, fun | 1 => 1 | n => n⟩
theorem Tryz.lays144 : Go.Proofs.Lays.n144 Tryz.prog Tryz.lays144_ren := {
  mixed := by kernel_rfl
  f143 := Tryz.func40.trans (congrArg some (by kernel_rfl))
  f144 := Tryz.func42.trans (congrArg some (by kernel_rfl))
  f217 := Tryz.func88.trans (congrArg some (by kernel_rfl))
  f219 := Tryz.func65.trans (congrArg some (by kernel_rfl))
  f224 := Tryz.func90.trans (congrArg some (by kernel_rfl))
  f225 := Tryz.func89.trans (congrArg some (by kernel_rfl))
  f266 := Tryz.func110.trans (congrArg some (by kernel_rfl))
  f267 := Tryz.func91.trans (congrArg some (by kernel_rfl))
  f314 := Tryz.func111.trans (congrArg some (by kernel_rfl))
  t3 := Tryz.underlying3
  a3 := Tryz.isAgg3
  z3 := Tryz.sizeOf3
  v3 := Tryz.zeroValue3
  t4 := Tryz.underlying4
  a4 := Tryz.isAgg4
  z4 := Tryz.sizeOf4
  v4 := Tryz.zeroValue4
  t5 := Tryz.underlying5
  a5 := Tryz.isAgg5
  z5 := Tryz.sizeOf5
  v5 := Tryz.zeroValue5
  t9 := Tryz.underlying9
  a9 := Tryz.isAgg9
  z9 := Tryz.sizeOf9
  v9 := Tryz.zeroValue9
  t46 := Tryz.underlying121
  a46 := Tryz.isAgg121
  z46 := Tryz.sizeOf121
  v46 := Tryz.zeroValue121
  t51 := Tryz.underlying140
  a51 := Tryz.isAgg140
  z51 := Tryz.sizeOf140
  v51 := Tryz.zeroValue140
  t146 := Tryz.underlying141
  a146 := Tryz.isAgg141
  z146 := Tryz.sizeOf141
  v146 := Tryz.zeroValue141
  g1 := by kernel_rfl }
open Go.RowKit Go.Lib in
theorem Tryz.strings_Contains (s sub : ByteArray) (m : Int) (w : World) (hs : s.size < 4294967281) (hm : w.cell? ⟨1, 0, none⟩ = some (.int .i64 m)) :
    Calls Tryz.prog 42 #[.string s, .string sub] w fun e w' => e = .returned (.bool (Lib.contains s.data.toList sub.data.toList)) ∧ w' = w := Any.strings_Contains Tryz.lays144 s sub m w hs hm
def Tryz.laysGw15_ren : Go.Shelf.Ren := ⟨fun | 15 => 71 | 20 => 95 | n => n, fun | 9 => 9 | 23 => 109 | 3 => 3 | 4 => 4 | 0 => 0 | 21 => 21 | n => n, fun | n => n⟩
theorem Tryz.laysGw15 : Go.Proofs.LaysGw.n15 Tryz.prog Tryz.laysGw15_ren := {
  mixed := by kernel_rfl
  f15 := Tryz.func71.trans (congrArg some (by kernel_rfl))
  f20 := Tryz.func95.trans (congrArg some (by kernel_rfl))
  t0 := Tryz.underlying0
  a0 := Tryz.isAgg0
  z0 := Tryz.sizeOf0
  v0 := Tryz.zeroValue0
  i0 := by kernel_rfl
  t3 := Tryz.underlying3
  a3 := Tryz.isAgg3
  z3 := Tryz.sizeOf3
  v3 := Tryz.zeroValue3
  i3 := by kernel_rfl
  t4 := Tryz.underlying4
  a4 := Tryz.isAgg4
  z4 := Tryz.sizeOf4
  v4 := Tryz.zeroValue4
  i4 := by kernel_rfl
  t9 := Tryz.underlying9
  a9 := Tryz.isAgg9
  z9 := Tryz.sizeOf9
  v9 := Tryz.zeroValue9
  i9 := by kernel_rfl
  t21 := Tryz.underlying21
  a21 := Tryz.isAgg21
  z21 := Tryz.sizeOf21
  v21 := Tryz.zeroValue21
  i21 := by kernel_rfl
  t23 := Tryz.underlying109
  a23 := Tryz.isAgg109
  z23 := Tryz.sizeOf109
  v23 := Tryz.zeroValue109
  i23 := by kernel_rfl }
def Tryz.lays146_ren : Go.Shelf.Ren := ⟨fun | 146 => 38 | 221 => 63 | 268 => 84 | 138 => 85 | 143 => 40 | 195 => 102 | 197 => 103 | 218 => 104 | 219 => 65 | 260 => 119 | 217 => 88 | 225 => 89 | 224 => 90 | 267 => 91 | 266 => 110 | 314 => 111 | n => n, fun | 9 => 9 | 31 => 33 | 3 => 3 | 4 => 4 | 0 => 0 | 105 => 132 | 21 => 21 | 5 => 5 | 46 => 121 | 119 => 160 | 139 => 163 | 138 => 162 | 146 => 141 | 51 => 140 | n => n, fun | 1 => 1 | 3 => 5 | 4 => 6 | n => n⟩
theorem Tryz.lays146 : Go.Proofs.Lays.n146 Tryz.prog Tryz.lays146_ren := {
  mixed := by kernel_rfl
  f138 := Tryz.func85.trans (congrArg some (by kernel_rfl))
  f143 := Tryz.func40.trans (congrArg some (by kernel_rfl))
  f146 := Tryz.func38.trans (congrArg some (by kernel_rfl))
  f195 := Tryz.func102.trans (congrArg some (by kernel_rfl))
  f197 := Tryz.func103.trans (congrArg some (by kernel_rfl))
  f217 := Tryz.func88.trans (congrArg some (by kernel_rfl))
  f218 := Tryz.func104.trans (congrArg some (by kernel_rfl))
  f219 := Tryz.func65.trans (congrArg some (by kernel_rfl))
  f221 := Tryz.func63.trans (congrArg some (by kernel_rfl))
  f224 := Tryz.func90.trans (congrArg some (by kernel_rfl))
  f225 := Tryz.func89.trans (congrArg some (by kernel_rfl))
  f260 := Tryz.func119.trans (congrArg some (by kernel_rfl))
  f266 := Tryz.func110.trans (congrArg some (by kernel_rfl))
  f267 := Tryz.func91.trans (congrArg some (by kernel_rfl))
  f268 := Tryz.func84.trans (congrArg some (by kernel_rfl))
  f314 := Tryz.func111.trans (congrArg some (by kernel_rfl))
  t0 := Tryz.underlying0
  a0 := Tryz.isAgg0
  z0 := Tryz.sizeOf0
  v0 := Tryz.zeroValue0
  t3 := Tryz.underlying3
  a3 := Tryz.isAgg3
  z3 := Tryz.sizeOf3
  v3 := Tryz.zeroValue3
  t4 := Tryz.underlying4
  a4 := Tryz.isAgg4
  z4 := Tryz.sizeOf4
  v4 := Tryz.zeroValue4
  t5 := Tryz.underlying5
  a5 := Tryz.isAgg5
  z5 := Tryz.sizeOf5
  v5 := Tryz.zeroValue5
  t9 := Tryz.underlying9
  a9 := Tryz.isAgg9
  z9 := Tryz.sizeOf9
  v9 := Tryz.zeroValue9
  t21 := Tryz.underlying21
  a21 := Tryz.isAgg21
  z21 := Tryz.sizeOf21
  v21 := Tryz.zeroValue21
  t31 := Tryz.underlying33
  a31 := Tryz.isAgg33
  z31 := Tryz.sizeOf33
  v31 := Tryz.zeroValue33
  t46 := Tryz.underlying121
  a46 := Tryz.isAgg121
  z46 := Tryz.sizeOf121
  v46 := Tryz.zeroValue121
  t51 := Tryz.underlying140
  a51 := Tryz.isAgg140
  z51 := Tryz.sizeOf140
  v51 := Tryz.zeroValue140
  t105 := Tryz.underlying132
  a105 := Tryz.isAgg132
  z105 := Tryz.sizeOf132
  v105 := Tryz.zeroValue132
  t119 := Tryz.underlying160
  a119 := Tryz.isAgg160
  z119 := Tryz.sizeOf160
  t138 := Tryz.underlying162
  a138 := Tryz.isAgg162
  z138 := Tryz.sizeOf162
  v138 := Tryz.zeroValue162
  t139 := Tryz.underlying163
  a139 := Tryz.isAgg163
  z139 := Tryz.sizeOf163
  v139 := Tryz.zeroValue163
  t146 := Tryz.underlying141
  a146 := Tryz.isAgg141
  z146 := Tryz.sizeOf141
  v146 := Tryz.zeroValue141
  g1 := by kernel_rfl
  g3 := by kernel_rfl
  g4 := by kernel_rfl }
open Go.RowKit Go.Lib in
theorem Tryz.strings_Split (s sep : ByteArray) (m : Int) (w : World) (hs : s.size < 4294967281) (hm : w.cell? ⟨1, 0, none⟩ = some (.int .i64 m)) (h1 : 1 ≤ sep.size) :
    Calls Tryz.prog 38 #[.string s, .string sep] w fun e w' =>
      e = .returned (.slice (some ⟨w.heap.size, 0, none⟩) (Lib.countB s sep + 1) (Lib.countB s sep + 1)) ∧ w' = w.alloc (.cells ((Lib.splitB sep 0 (Lib.countB s sep) s).map Value.string).toArray 9) := Any.strings_Split Tryz.lays146 (by kernel_rfl) s sep m w hs hm h1
def Tryz.lays105_ren : Go.Shelf.Ren := ⟨fun | 105 => 93 | 212 => 112 | 99 => 113 | 165 => 55 | 166 => 25 | 170 => 94 | 169 => 28 | 263 => 123 | 264 => 124 | 206 => 125 | 240 => 53 | 241 => 82 | 276 => 80 | 277 => 101 | n => n, fun | 9 => 9 | 3 => 3 | 4 => 4 | 20 => 20 | 0 => 0 | 46 => 121 | 109 => 143 | 5 => 5 | 72 => 53 | 76 => 56 | 51 => 140 | 146 => 141 | 53 => 125 | 148 => 157 | 70 => 51 | 37 => 50 | 75 => 37 | 127 => 88 | 164 => 74 | 80 => 60 | n => n, fun | n => n⟩
theorem Tryz.lays105 : Go.Proofs.Lays.n105 Tryz.prog Tryz.lays105_ren := {
  mixed := by kernel_rfl
  f99 := Tryz.func113.trans (congrArg some (by kernel_rfl))
  f105 := Tryz.func93.trans (congrArg some (by kernel_rfl))
  f165 := Tryz.func55.trans (congrArg some (by kernel_rfl))
  f166 := Tryz.func25.trans (congrArg some (by kernel_rfl))
  f169 := Tryz.func28.trans (congrArg some (by kernel_rfl))
  f170 := Tryz.func94.trans (congrArg some (by kernel_rfl))
  f206 := Tryz.func125.trans (congrArg some (by kernel_rfl))
  f212 := Tryz.func112.trans (congrArg some (by kernel_rfl))
  f240 := Tryz.func53.trans (congrArg some (by kernel_rfl))
  f241 := Tryz.func82.trans (congrArg some (by kernel_rfl))
  f263 := Tryz.func123.trans (congrArg some (by kernel_rfl))
  f264 := Tryz.func124.trans (congrArg some (by kernel_rfl))
  f276 := Tryz.func80.trans (congrArg some (by kernel_rfl))
  f277 := Tryz.func101.trans (congrArg some (by kernel_rfl))
  t0 := Tryz.underlying0
  a0 := Tryz.isAgg0
  z0 := Tryz.sizeOf0
  v0 := Tryz.zeroValue0
  t3 := Tryz.underlying3
  a3 := Tryz.isAgg3
  z3 := Tryz.sizeOf3
  v3 := Tryz.zeroValue3
  t4 := Tryz.underlying4
  a4 := Tryz.isAgg4
  z4 := Tryz.sizeOf4
  v4 := Tryz.zeroValue4
  t5 := Tryz.underlying5
  a5 := Tryz.isAgg5
  z5 := Tryz.sizeOf5
  v5 := Tryz.zeroValue5
  t9 := Tryz.underlying9
  a9 := Tryz.isAgg9
  z9 := Tryz.sizeOf9
  v9 := Tryz.zeroValue9
  t20 := Tryz.underlying20
  a20 := Tryz.isAgg20
  z20 := Tryz.sizeOf20
  v20 := Tryz.zeroValue20
  t37 := Tryz.underlying50
  a37 := Tryz.isAgg50
  z37 := Tryz.sizeOf50
  v37 := Tryz.zeroValue50
  t46 := Tryz.underlying121
  a46 := Tryz.isAgg121
  z46 := Tryz.sizeOf121
  v46 := Tryz.zeroValue121
  t51 := Tryz.underlying140
  a51 := Tryz.isAgg140
  z51 := Tryz.sizeOf140
  v51 := Tryz.zeroValue140
  t53 := Tryz.underlying125
  a53 := Tryz.isAgg125
  z53 := Tryz.sizeOf125
  v53 := Tryz.zeroValue125
  t70 := Tryz.underlying51
  a70 := Tryz.isAgg51
  z70 := Tryz.sizeOf51
  v70 := Tryz.zeroValue51
  t72 := Tryz.underlying53
  a72 := Tryz.isAgg53
  z72 := Tryz.sizeOf53
  v72 := Tryz.zeroValue53
  t75 := Tryz.underlying37
  a75 := Tryz.isAgg37
  z75 := Tryz.sizeOf37
  v75 := Tryz.zeroValue37
  t76 := Tryz.underlying56
  a76 := Tryz.isAgg56
  z76 := Tryz.sizeOf56
  v76 := Tryz.zeroValue56
  t109 := Tryz.underlying143
  a109 := Tryz.isAgg143
  z109 := Tryz.sizeOf143
  v109 := Tryz.zeroValue143
  t127 := Tryz.underlying88
  a127 := Tryz.isAgg88
  z127 := Tryz.sizeOf88
  v127 := Tryz.zeroValue88
  t146 := Tryz.underlying141
  a146 := Tryz.isAgg141
  z146 := Tryz.sizeOf141
  v146 := Tryz.zeroValue141
  t148 := Tryz.underlying157
  a148 := Tryz.isAgg157
  z148 := Tryz.sizeOf157
  v148 := Tryz.zeroValue157
  t164 := Tryz.underlying74
  a164 := Tryz.isAgg74
  z164 := Tryz.sizeOf74
  v164 := Tryz.zeroValue74 }
theorem Tryz.Builder_Extra_105 : Builder.Extra Tryz.prog Tryz.lays105_ren := {
  sizeBuilder := by kernel_rfl
  liesBuilder := by kernel_rfl
  t5 := Tryz.underlying5
  a5 := Tryz.isAgg5
  z5 := Tryz.sizeOf5
  v5 := Tryz.zeroValue5
  infoByte := by kernel_rfl
  cellsByte := by kernel_rfl
  sizeByte := by kernel_rfl
  neB5 := by decide }
open Go.RowKit Go.Lib in
theorem Tryz.strings_Repeat (s : ByteArray) (c : Nat) (w : World) (hc : c ≤ 9223372036854775807) (hlen : s.size * c ≤ 140737488355328) :
    Calls Tryz.prog 93 #[.string s, .int .i64 c] w fun e w' => e = .returned (.string ⟨(Lib.repeatL s.data.toList c).toArray⟩) ∧ Below w.heap.size w w' := Any.strings_Repeat Tryz.lays105 Tryz.Builder_Extra_105 s c w hc hlen
open Go.RowKit Go.Lib in
theorem Tryz.strings_IndexFunc_grows (g : Nat) (lb : Array Value) (eg : ∀ args w, (callFunc g args).run Tryz.prog w = .ok (.enter g args) w) (p : Nat → Bool) (s : ByteArray) (w : World) (hp : PredGrows Tryz.prog g lb p w) :
    Calls Tryz.prog 71 #[.string s, .func (.func g) #[] lb] w fun e w' => e = .returned (.int .i64 (Lib.idxFunc p true s)) ∧ Below w.heap.size w w' := Any.strings_IndexFunc_grows Tryz.laysGw15 g lb eg p s w hp
def Tryz.laysNm217_ren : Go.Shelf.Ren := ⟨fun | 17 => 29 | n => n, fun | 24 => 33 | 9 => 9 | 3 => 3 | 4 => 4 | 0 => 0 | n => n, fun | n => n⟩
theorem Tryz.laysNm217 : Go.Proofs.Lays2.n17 Tryz.prog Tryz.laysNm217_ren := {
  mixed := by kernel_rfl
  f17 := Tryz.func29.trans (congrArg some (by kernel_rfl))
  t0 := Tryz.underlying0
  a0 := Tryz.isAgg0
  z0 := Tryz.sizeOf0
  v0 := Tryz.zeroValue0
  t3 := Tryz.underlying3
  a3 := Tryz.isAgg3
  z3 := Tryz.sizeOf3
  v3 := Tryz.zeroValue3
  t4 := Tryz.underlying4
  a4 := Tryz.isAgg4
  z4 := Tryz.sizeOf4
  v4 := Tryz.zeroValue4
  t9 := Tryz.underlying9
  a9 := Tryz.isAgg9
  z9 := Tryz.sizeOf9
  v9 := Tryz.zeroValue9
  t24 := Tryz.underlying33
  a24 := Tryz.isAgg33
  z24 := Tryz.sizeOf33
  v24 := Tryz.zeroValue33 }
open Go.RowKit Go.Lib Go.Sort in
theorem Tryz.slices_Reverse_string_empty (a : Option Addr) (cap : Nat) (w : World) :
    Calls Tryz.prog 29 #[.slice a 0 cap] w fun e w' => e = .returned (.tuple #[]) ∧ w' = w := Any.slices_Reverse_string_empty Tryz.laysNm217 a cap w
open Go.RowKit Go.Lib Go.Sort in
theorem Tryz.slices_Reverse_string_cells (b off n c : Nat) (Sx : Nat → ByteArray) (w : World) (hbig : n ≤ 9223372036854775807) (hc : ∀ i, i < n → w.cell? ⟨b, off + i, none⟩ = some (.string (Sx i))) (hf : ∀ j, j < n → w.frozen? ⟨b, off + j, none⟩ = false) :
    Calls Tryz.prog 29 #[.slice (some ⟨b, off, none⟩) n c] w fun e w' => e = .returned (.tuple #[]) ∧ ∃ q, w' = (w.drewN q).setCells b off ((Lib.strsOf Sx n).reverse.map encStr) := Any.slices_Reverse_string_cells Tryz.laysNm217 b off n c Sx w hbig hc hf
def Tryz.laysT29_ren : Go.Shelf.Ren := ⟨fun | 29 => 127 | n => n, fun | 22 => 125 | 3 => 3 | 4 => 4 | 25 => 121 | 54 => 168 | 0 => 0 | 5 => 5 | n => n, fun | 1 => 8 | n => n⟩
end Go.Proofs

namespace Go.X
open Go Go.Proofs
theorem td1 : TDOK Tryz.prog 1 ⟨.func, 1, 8, [.nilf], none, none, false⟩ := tdok_of (info_of Tryz.type1) rfl ⟨_, _, _, Tryz.underlying1⟩ ⟨rfl, rfl, rfl⟩ rfl (.inl ⟨rfl, rfl⟩) (.inl rfl)
theorem td2 : TDOK Tryz.prog 2 ⟨.int .i64, 1, 8, [.i .i64 0], some (.int .i64), none, false⟩ := tdok_of (info_of Tryz.type2) rfl Tryz.underlying2 ⟨rfl, rfl, rfl⟩ rfl (.inl ⟨rfl, rfl⟩) (.inr ⟨_, rfl, rfl, by decide, rfl⟩)
theorem td3 : TDOK Tryz.prog 3 ⟨.int .i64, 1, 8, [.i .i64 0], some (.int .i64), none, false⟩ := tdok_of (info_of Tryz.type3) rfl Tryz.underlying3 ⟨rfl, rfl, rfl⟩ rfl (.inl ⟨rfl, rfl⟩) (.inr ⟨_, rfl, rfl, by decide, rfl⟩)
theorem td4 : TDOK Tryz.prog 4 ⟨.bool, 1, 1, [.b false], some .bool, none, false⟩ := tdok_of (info_of Tryz.type4) rfl Tryz.underlying4 ⟨rfl, rfl, rfl⟩ rfl (.inl ⟨rfl, rfl⟩) (.inr ⟨_, rfl, rfl, by decide, rfl⟩)
theorem td5 : TDOK Tryz.prog 5 ⟨.int .u8, 1, 1, [.i .u8 0], some (.int .u8), none, false⟩ := tdok_of (info_of Tryz.type5) rfl Tryz.underlying5 ⟨rfl, rfl, rfl⟩ rfl (.inl ⟨rfl, rfl⟩) (.inr ⟨_, rfl, rfl, by decide, rfl⟩)
theorem td6 : TDOK Tryz.prog 6 ⟨.int .u8, 1, 1, [.i .u8 0], some (.int .u8), none, false⟩ := tdok_of (info_of Tryz.type6) rfl Tryz.underlying6 ⟨rfl, rfl, rfl⟩ rfl (.inl ⟨rfl, rfl⟩) (.inr ⟨_, rfl, rfl, by decide, rfl⟩)
theorem td7 : TDOK Tryz.prog 7 ⟨.struct [(0, 2), (1, 3), (2, 4), (3, 6)], 4, 24, [.i .i64 0, .i .i64 0, .b false, .i .u8 0], some (.pair (.int .i64) (.pair (.int .i64) (.pair .bool (.int .u8)))), none, false⟩ := tdok_of (info_of Tryz.type7) rfl ⟨_, Tryz.underlying7, rfl⟩ ⟨rfl, rfl, rfl⟩ rfl (.inl ⟨rfl, rfl⟩) (.inr ⟨_, rfl, rfl, by decide, rfl⟩)
theorem td8 : TDOK Tryz.prog 8 ⟨.struct [(0, 2), (1, 3), (2, 4), (3, 6)], 4, 24, [.i .i64 0, .i .i64 0, .b false, .i .u8 0], some (.pair (.int .i64) (.pair (.int .i64) (.pair .bool (.int .u8)))), none, false⟩ := tdok_of (info_of Tryz.type8) rfl ⟨_, Tryz.underlying8, rfl⟩ ⟨rfl, rfl, rfl⟩ rfl (.inl ⟨rfl, rfl⟩) (.inr ⟨_, rfl, rfl, by decide, rfl⟩)
theorem td9 : TDOK Tryz.prog 9 ⟨.str, 1, 16, [.s ByteArray.empty], some .str, none, false⟩ := tdok_of (info_of Tryz.type9) rfl Tryz.underlying9 ⟨rfl, rfl, rfl⟩ rfl (.inl ⟨rfl, rfl⟩) (.inr ⟨_, rfl, rfl, by decide, rfl⟩)
theorem td10 : TDOK Tryz.prog 10 ⟨.str, 1, 16, [.s ByteArray.empty], some .str, none, false⟩ := tdok_of (info_of Tryz.type10) rfl Tryz.underlying10 ⟨rfl, rfl, rfl⟩ rfl (.inl ⟨rfl, rfl⟩) (.inr ⟨_, rfl, rfl, by decide, rfl⟩)
theorem td11 : TDOK Tryz.prog 11 ⟨.str, 1, 16, [.s ByteArray.empty], some .str, none, false⟩ := tdok_of (info_of Tryz.type11) rfl Tryz.underlying11 ⟨rfl, rfl, rfl⟩ rfl (.inl ⟨rfl, rfl⟩) (.inr ⟨_, rfl, rfl, by decide, rfl⟩)
theorem td12 : TDOK Tryz.prog 12 ⟨.int .u64, 1, 8, [.i .u64 0], some (.int .u64), none, false⟩ := tdok_of (info_of Tryz.type12) rfl Tryz.underlying12 ⟨rfl, rfl, rfl⟩ rfl (.inl ⟨rfl, rfl⟩) (.inr ⟨_, rfl, rfl, by decide, rfl⟩)
theorem td13 : TDOK Tryz.prog 13 ⟨.struct [(0, 9), (1, 12)], 2, 24, [.s ByteArray.empty, .i .u64 0], some (.pair .str (.int .u64)), none, false⟩ := tdok_of (info_of Tryz.type13) rfl ⟨_, Tryz.underlying13, rfl⟩ ⟨rfl, rfl, rfl⟩ rfl (.inl ⟨rfl, rfl⟩) (.inr ⟨_, rfl, rfl, by decide, rfl⟩)
theorem td14 : TDOK Tryz.prog 14 ⟨.struct [(0, 9), (1, 12)], 2, 24, [.s ByteArray.empty, .i .u64 0], some (.pair .str (.int .u64)), none, false⟩ := tdok_of (info_of Tryz.type14) rfl ⟨_, Tryz.underlying14, rfl⟩ ⟨rfl, rfl, rfl⟩ rfl (.inl ⟨rfl, rfl⟩) (.inr ⟨_, rfl, rfl, by decide, rfl⟩)
theorem td15 : TDOK Tryz.prog 15 ⟨.ptr 170, 1, 8, [.nilp], none, none, false⟩ := tdok_of (info_of Tryz.type15) rfl Tryz.underlying15 ⟨rfl, rfl, rfl⟩ rfl (.inl ⟨rfl, rfl⟩) (.inl rfl)
theorem td16 : TDOK Tryz.prog 16 ⟨.ptr 173, 1, 8, [.nilp], none, none, false⟩ := tdok_of (info_of Tryz.type16) rfl Tryz.underlying16 ⟨rfl, rfl, rfl⟩ rfl (.inl ⟨rfl, rfl⟩) (.inl rfl)
theorem td17 : TDOK Tryz.prog 17 ⟨.ptr 180, 1, 8, [.nilp], none, none, false⟩ := tdok_of (info_of Tryz.type17) rfl Tryz.underlying17 ⟨rfl, rfl, rfl⟩ rfl (.inl ⟨rfl, rfl⟩) (.inl rfl)
theorem td18 : TDOK Tryz.prog 18 ⟨.struct [(0, 17)], 1, 8, [.nilp], none, none, false⟩ := tdok_of (info_of Tryz.type18) rfl ⟨_, Tryz.underlying18, rfl⟩ ⟨rfl, rfl, rfl⟩ rfl (.inl ⟨rfl, rfl⟩) (.inl rfl)
theorem td19 : TDOK Tryz.prog 19 ⟨.struct [(0, 17)], 1, 8, [.nilp], none, none, false⟩ := tdok_of (info_of Tryz.type19) rfl ⟨_, Tryz.underlying19, rfl⟩ ⟨rfl, rfl, rfl⟩ rfl (.inl ⟨rfl, rfl⟩) (.inl rfl)
theorem td20 : TDOK Tryz.prog 20 ⟨.iface, 1, 16, [.nili], none, none, false⟩ := tdok_of (info_of Tryz.type20) rfl ⟨_, Tryz.underlying20⟩ ⟨rfl, rfl, rfl⟩ rfl (.inl ⟨rfl, rfl⟩) (.inl rfl)
theorem td21 : TDOK Tryz.prog 21 ⟨.int .i32, 1, 4, [.i .i32 0], some (.int .i32), none, false⟩ := tdok_of (info_of Tryz.type21) rfl Tryz.underlying21 ⟨rfl, rfl, rfl⟩ rfl (.inl ⟨rfl, rfl⟩) (.inr ⟨_, rfl, rfl, by decide, rfl⟩)
theorem td22 : TDOK Tryz.prog 22 ⟨.func, 1, 8, [.nilf], none, none, false⟩ := tdok_of (info_of Tryz.type22) rfl ⟨_, _, _, Tryz.underlying22⟩ ⟨rfl, rfl, rfl⟩ rfl (.inl ⟨rfl, rfl⟩) (.inl rfl)
theorem td23 : TDOK Tryz.prog 23 ⟨.struct [(0, 9), (1, 3), (2, 3), (3, 3)], 4, 40, [.s ByteArray.empty, .i .i64 0, .i .i64 0, .i .i64 0], some (.pair .str (.pair (.int .i64) (.pair (.int .i64) (.int .i64)))), none, false⟩ := tdok_of (info_of Tryz.type23) rfl ⟨_, Tryz.underlying23, rfl⟩ ⟨rfl, rfl, rfl⟩ rfl (.inl ⟨rfl, rfl⟩) (.inr ⟨_, rfl, rfl, by decide, rfl⟩)
theorem eqs24 : ∀ (x y : EK.ty (.pair .str (.pair (.int .i64) (.pair (.int .i64) (.int .i64))))) (w : World), (Op.equalIn 10000 24 (.agg (EK.vals (.pair .str (.pair (.int .i64) (.pair (.int .i64) (.int .i64)))) x).toArray) (.agg (EK.vals (.pair .str (.pair (.int .i64) (.pair (.int .i64) (.int .i64)))) y).toArray)).run Tryz.prog w = .ok (EK.eqb (.pair .str (.pair (.int .i64) (.pair (.int .i64) (.int .i64)))) x y) w := by
  intro x y w
  rw [run_equalIn_agg w 9999 24 _ _ (by rw [fo Tryz.underlying24]; exact Tryz.underlying24) Tryz.stoodInHeld24, fo Tryz.underlying24]
  simp only [EK.vals, List.cons_append, List.nil_append, EK.eqb]
  have p0 : ∀ (a0 a1 a2 a3 : Value), (Go.part 9 #[a0, a1, a2, a3] 0).run Tryz.prog w = .ok a0 w := fun a0 a1 a2 a3 => part_run td9 [a0, a1, a2, a3] 0
  have p1 : ∀ (a0 a1 a2 a3 : Value), (Go.part 3 #[a0, a1, a2, a3] 1).run Tryz.prog w = .ok a1 w := fun a0 a1 a2 a3 => part_run td3 [a0, a1, a2, a3] 1
  have p2 : ∀ (a0 a1 a2 a3 : Value), (Go.part 3 #[a0, a1, a2, a3] 2).run Tryz.prog w = .ok a2 w := fun a0 a1 a2 a3 => part_run td3 [a0, a1, a2, a3] 2
  have p3 : ∀ (a0 a1 a2 a3 : Value), (Go.part 3 #[a0, a1, a2, a3] 3).run Tryz.prog w = .ok a3 w := fun a0 a1 a2 a3 => part_run td3 [a0, a1, a2, a3] 3
  simp [Op.eqFields, p0, p1, p2, p3, run_equalIn_int w 9998 3 .i64 .i64 _ _ Tryz.underlying3, run_equalIn_string w 9998 9 _ _ Tryz.underlying9, strEq]
  by_cases h0 : x.1.toList = y.1.toList <;> by_cases h1 : x.2.1 = y.2.1 <;> by_cases h2 : x.2.2.1 = y.2.2.1 <;> by_cases h3 : x.2.2.2 = y.2.2.2 <;> simp [h0, h1, h2, h3]

theorem td24 : TDOK Tryz.prog 24 ⟨.struct [(0, 9), (1, 3), (2, 3), (3, 3)], 4, 40, [.s ByteArray.empty, .i .i64 0, .i .i64 0, .i .i64 0], some (.pair .str (.pair (.int .i64) (.pair (.int .i64) (.int .i64)))), none, true⟩ := tdok_of (info_of Tryz.type24) rfl ⟨_, Tryz.underlying24, rfl⟩ ⟨rfl, rfl, rfl⟩ rfl (.inl ⟨rfl, rfl⟩) (.inr ⟨_, rfl, rfl, by decide, rfl⟩) (fun _ k hk => by cases hk; exact ⟨Tryz.eqGuardType24, eqs24⟩)
theorem td25 : TDOK Tryz.prog 25 ⟨.int .i64, 1, 8, [.i .i64 0], some (.int .i64), none, false⟩ := tdok_of (info_of Tryz.type25) rfl Tryz.underlying25 ⟨rfl, rfl, rfl⟩ rfl (.inl ⟨rfl, rfl⟩) (.inr ⟨_, rfl, rfl, by decide, rfl⟩)
theorem td27 : TDOK Tryz.prog 27 ⟨.func, 1, 8, [.nilf], none, none, false⟩ := tdok_of (info_of Tryz.type27) rfl ⟨_, _, _, Tryz.underlying27⟩ ⟨rfl, rfl, rfl⟩ rfl (.inl ⟨rfl, rfl⟩) (.inl rfl)
theorem td28 : TDOK Tryz.prog 28 ⟨.func, 1, 8, [.nilf], none, none, false⟩ := tdok_of (info_of Tryz.type28) rfl ⟨_, _, _, Tryz.underlying28⟩ ⟨rfl, rfl, rfl⟩ rfl (.inl ⟨rfl, rfl⟩) (.inl rfl)
theorem td30 : TDOK Tryz.prog 30 ⟨.func, 1, 8, [.nilf], none, none, false⟩ := tdok_of (info_of Tryz.type30) rfl ⟨_, _, _, Tryz.underlying30⟩ ⟨rfl, rfl, rfl⟩ rfl (.inl ⟨rfl, rfl⟩) (.inl rfl)
theorem td31 : TDOK Tryz.prog 31 ⟨.func, 1, 8, [.nilf], none, none, false⟩ := tdok_of (info_of Tryz.type31) rfl ⟨_, _, _, Tryz.underlying31⟩ ⟨rfl, rfl, rfl⟩ rfl (.inl ⟨rfl, rfl⟩) (.inl rfl)
theorem td32 : TDOK Tryz.prog 32 ⟨.func, 1, 8, [.nilf], none, none, false⟩ := tdok_of (info_of Tryz.type32) rfl ⟨_, _, _, Tryz.underlying32⟩ ⟨rfl, rfl, rfl⟩ rfl (.inl ⟨rfl, rfl⟩) (.inl rfl)
theorem td33 : TDOK Tryz.prog 33 ⟨.slice 9, 1, 24, [.nils], none, none, false⟩ := tdok_of (info_of Tryz.type33) rfl Tryz.underlying33 ⟨rfl, rfl, rfl⟩ rfl (.inl ⟨rfl, rfl⟩) (.inl rfl)
theorem td34 : TDOK Tryz.prog 34 ⟨.func, 1, 8, [.nilf], none, none, false⟩ := tdok_of (info_of Tryz.type34) rfl ⟨_, _, _, Tryz.underlying34⟩ ⟨rfl, rfl, rfl⟩ rfl (.inl ⟨rfl, rfl⟩) (.inl rfl)
theorem td35 : TDOK Tryz.prog 35 ⟨.func, 1, 8, [.nilf], none, none, false⟩ := tdok_of (info_of Tryz.type35) rfl ⟨_, _, _, Tryz.underlying35⟩ ⟨rfl, rfl, rfl⟩ rfl (.inl ⟨rfl, rfl⟩) (.inl rfl)
theorem td36 : TDOK Tryz.prog 36 ⟨.iface, 1, 16, [.nili], none, none, false⟩ := tdok_of (info_of Tryz.type36) rfl ⟨_, Tryz.underlying36⟩ ⟨rfl, rfl, rfl⟩ rfl (.inl ⟨rfl, rfl⟩) (.inl rfl)
theorem td37 : TDOK Tryz.prog 37 ⟨.iface, 1, 16, [.nili], none, none, false⟩ := tdok_of (info_of Tryz.type37) rfl ⟨_, Tryz.underlying37⟩ ⟨rfl, rfl, rfl⟩ rfl (.inl ⟨rfl, rfl⟩) (.inl rfl)
theorem td39 : TDOK Tryz.prog 39 ⟨.func, 1, 8, [.nilf], none, none, false⟩ := tdok_of (info_of Tryz.type39) rfl ⟨_, _, _, Tryz.underlying39⟩ ⟨rfl, rfl, rfl⟩ rfl (.inl ⟨rfl, rfl⟩) (.inl rfl)
theorem td40 : TDOK Tryz.prog 40 ⟨.int .i64, 1, 8, [.i .i64 0], some (.int .i64), none, false⟩ := tdok_of (info_of Tryz.type40) rfl Tryz.underlying40 ⟨rfl, rfl, rfl⟩ rfl (.inl ⟨rfl, rfl⟩) (.inr ⟨_, rfl, rfl, by decide, rfl⟩)
theorem td41 : TDOK Tryz.prog 41 ⟨.func, 1, 8, [.nilf], none, none, false⟩ := tdok_of (info_of Tryz.type41) rfl ⟨_, _, _, Tryz.underlying41⟩ ⟨rfl, rfl, rfl⟩ rfl (.inl ⟨rfl, rfl⟩) (.inl rfl)
theorem td42 : TDOK Tryz.prog 42 ⟨.ptr 40, 1, 8, [.nilp], none, none, false⟩ := tdok_of (info_of Tryz.type42) rfl Tryz.underlying42 ⟨rfl, rfl, rfl⟩ rfl (.inl ⟨rfl, rfl⟩) (.inl rfl)
theorem td44 : TDOK Tryz.prog 44 ⟨.func, 1, 8, [.nilf], none, none, false⟩ := tdok_of (info_of Tryz.type44) rfl ⟨_, _, _, Tryz.underlying44⟩ ⟨rfl, rfl, rfl⟩ rfl (.inl ⟨rfl, rfl⟩) (.inl rfl)
theorem td46 : TDOK Tryz.prog 46 ⟨.func, 1, 8, [.nilf], none, none, false⟩ := tdok_of (info_of Tryz.type46) rfl ⟨_, _, _, Tryz.underlying46⟩ ⟨rfl, rfl, rfl⟩ rfl (.inl ⟨rfl, rfl⟩) (.inl rfl)
theorem td47 : TDOK Tryz.prog 47 ⟨.func, 1, 8, [.nilf], none, none, false⟩ := tdok_of (info_of Tryz.type47) rfl ⟨_, _, _, Tryz.underlying47⟩ ⟨rfl, rfl, rfl⟩ rfl (.inl ⟨rfl, rfl⟩) (.inl rfl)
theorem td48 : TDOK Tryz.prog 48 ⟨.func, 1, 8, [.nilf], none, none, false⟩ := tdok_of (info_of Tryz.type48) rfl ⟨_, _, _, Tryz.underlying48⟩ ⟨rfl, rfl, rfl⟩ rfl (.inl ⟨rfl, rfl⟩) (.inl rfl)
theorem td49 : TDOK Tryz.prog 49 ⟨.func, 1, 8, [.nilf], none, none, false⟩ := tdok_of (info_of Tryz.type49) rfl ⟨_, _, _, Tryz.underlying49⟩ ⟨rfl, rfl, rfl⟩ rfl (.inl ⟨rfl, rfl⟩) (.inl rfl)
theorem td50 : TDOK Tryz.prog 50 ⟨.slice 5, 1, 24, [.nils], none, none, false⟩ := tdok_of (info_of Tryz.type50) rfl Tryz.underlying50 ⟨rfl, rfl, rfl⟩ rfl (.inl ⟨rfl, rfl⟩) (.inl rfl)
theorem td51 : TDOK Tryz.prog 51 ⟨.ptr 53, 1, 8, [.nilp], none, none, false⟩ := tdok_of (info_of Tryz.type51) rfl Tryz.underlying51 ⟨rfl, rfl, rfl⟩ rfl (.inl ⟨rfl, rfl⟩) (.inl rfl)
theorem td52 : TDOK Tryz.prog 52 ⟨.struct [(0, 51), (1, 50)], 2, 32, [.nilp, .nils], none, none, false⟩ := tdok_of (info_of Tryz.type52) rfl ⟨_, Tryz.underlying52, rfl⟩ ⟨rfl, rfl, rfl⟩ rfl (.inl ⟨rfl, rfl⟩) (.inl rfl)
theorem td53 : TDOK Tryz.prog 53 ⟨.struct [(0, 51), (1, 50)], 2, 32, [.nilp, .nils], none, none, false⟩ := tdok_of (info_of Tryz.type53) rfl ⟨_, Tryz.underlying53, rfl⟩ ⟨rfl, rfl, rfl⟩ rfl (.inl ⟨rfl, rfl⟩) (.inl rfl)
theorem td54 : TDOK Tryz.prog 54 ⟨.func, 1, 8, [.nilf], none, none, false⟩ := tdok_of (info_of Tryz.type54) rfl ⟨_, _, _, Tryz.underlying54⟩ ⟨rfl, rfl, rfl⟩ rfl (.inl ⟨rfl, rfl⟩) (.inl rfl)
theorem td55 : TDOK Tryz.prog 55 ⟨.func, 1, 8, [.nilf], none, none, false⟩ := tdok_of (info_of Tryz.type55) rfl ⟨_, _, _, Tryz.underlying55⟩ ⟨rfl, rfl, rfl⟩ rfl (.inl ⟨rfl, rfl⟩) (.inl rfl)
theorem td57 : TDOK Tryz.prog 57 ⟨.func, 1, 8, [.nilf], none, none, false⟩ := tdok_of (info_of Tryz.type57) rfl ⟨_, _, _, Tryz.underlying57⟩ ⟨rfl, rfl, rfl⟩ rfl (.inl ⟨rfl, rfl⟩) (.inl rfl)
theorem td58 : TDOK Tryz.prog 58 ⟨.func, 1, 8, [.nilf], none, none, false⟩ := tdok_of (info_of Tryz.type58) rfl ⟨_, _, _, Tryz.underlying58⟩ ⟨rfl, rfl, rfl⟩ rfl (.inl ⟨rfl, rfl⟩) (.inl rfl)
theorem td59 : TDOK Tryz.prog 59 ⟨.func, 1, 8, [.nilf], none, none, false⟩ := tdok_of (info_of Tryz.type59) rfl ⟨_, _, _, Tryz.underlying59⟩ ⟨rfl, rfl, rfl⟩ rfl (.inl ⟨rfl, rfl⟩) (.inl rfl)
theorem td60 : TDOK Tryz.prog 60 ⟨.func, 1, 8, [.nilf], none, none, false⟩ := tdok_of (info_of Tryz.type60) rfl ⟨_, _, _, Tryz.underlying60⟩ ⟨rfl, rfl, rfl⟩ rfl (.inl ⟨rfl, rfl⟩) (.inl rfl)
theorem td61 : TDOK Tryz.prog 61 ⟨.func, 1, 8, [.nilf], none, none, false⟩ := tdok_of (info_of Tryz.type61) rfl ⟨_, _, _, Tryz.underlying61⟩ ⟨rfl, rfl, rfl⟩ rfl (.inl ⟨rfl, rfl⟩) (.inl rfl)
theorem td62 : TDOK Tryz.prog 62 ⟨.func, 1, 8, [.nilf], none, none, false⟩ := tdok_of (info_of Tryz.type62) rfl ⟨_, _, _, Tryz.underlying62⟩ ⟨rfl, rfl, rfl⟩ rfl (.inl ⟨rfl, rfl⟩) (.inl rfl)
theorem td63 : TDOK Tryz.prog 63 ⟨.func, 1, 8, [.nilf], none, none, false⟩ := tdok_of (info_of Tryz.type63) rfl ⟨_, _, _, Tryz.underlying63⟩ ⟨rfl, rfl, rfl⟩ rfl (.inl ⟨rfl, rfl⟩) (.inl rfl)
theorem td64 : TDOK Tryz.prog 64 ⟨.slice 3, 1, 24, [.nils], none, none, false⟩ := tdok_of (info_of Tryz.type64) rfl Tryz.underlying64 ⟨rfl, rfl, rfl⟩ rfl (.inl ⟨rfl, rfl⟩) (.inl rfl)
theorem td65 : TDOK Tryz.prog 65 ⟨.func, 1, 8, [.nilf], none, none, false⟩ := tdok_of (info_of Tryz.type65) rfl ⟨_, _, _, Tryz.underlying65⟩ ⟨rfl, rfl, rfl⟩ rfl (.inl ⟨rfl, rfl⟩) (.inl rfl)
theorem td66 : TDOK Tryz.prog 66 ⟨.func, 1, 8, [.nilf], none, none, false⟩ := tdok_of (info_of Tryz.type66) rfl ⟨_, _, _, Tryz.underlying66⟩ ⟨rfl, rfl, rfl⟩ rfl (.inl ⟨rfl, rfl⟩) (.inl rfl)
theorem td67 : TDOK Tryz.prog 67 ⟨.func, 1, 8, [.nilf], none, none, false⟩ := tdok_of (info_of Tryz.type67) rfl ⟨_, _, _, Tryz.underlying67⟩ ⟨rfl, rfl, rfl⟩ rfl (.inl ⟨rfl, rfl⟩) (.inl rfl)
theorem td68 : TDOK Tryz.prog 68 ⟨.func, 1, 8, [.nilf], none, none, false⟩ := tdok_of (info_of Tryz.type68) rfl ⟨_, _, _, Tryz.underlying68⟩ ⟨rfl, rfl, rfl⟩ rfl (.inl ⟨rfl, rfl⟩) (.inl rfl)
theorem td69 : TDOK Tryz.prog 69 ⟨.func, 1, 8, [.nilf], none, none, false⟩ := tdok_of (info_of Tryz.type69) rfl ⟨_, _, _, Tryz.underlying69⟩ ⟨rfl, rfl, rfl⟩ rfl (.inl ⟨rfl, rfl⟩) (.inl rfl)
theorem td70 : TDOK Tryz.prog 70 ⟨.struct [(0, 3), (1, 37)], 2, 24, [.i .i64 0, .nili], none, none, false⟩ := tdok_of (info_of Tryz.type70) rfl ⟨_, Tryz.underlying70, rfl⟩ ⟨rfl, rfl, rfl⟩ rfl (.inl ⟨rfl, rfl⟩) (.inl rfl)
theorem td71 : TDOK Tryz.prog 71 ⟨.struct [(0, 3), (1, 37)], 2, 24, [.i .i64 0, .nili], none, none, false⟩ := tdok_of (info_of Tryz.type71) rfl ⟨_, Tryz.underlying71, rfl⟩ ⟨rfl, rfl, rfl⟩ rfl (.inl ⟨rfl, rfl⟩) (.inl rfl)
theorem td72 : TDOK Tryz.prog 72 ⟨.func, 1, 8, [.nilf], none, none, false⟩ := tdok_of (info_of Tryz.type72) rfl ⟨_, _, _, Tryz.underlying72⟩ ⟨rfl, rfl, rfl⟩ rfl (.inl ⟨rfl, rfl⟩) (.inl rfl)
theorem td73 : TDOK Tryz.prog 73 ⟨.func, 1, 8, [.nilf], none, none, false⟩ := tdok_of (info_of Tryz.type73) rfl ⟨_, _, _, Tryz.underlying73⟩ ⟨rfl, rfl, rfl⟩ rfl (.inl ⟨rfl, rfl⟩) (.inl rfl)
theorem td75 : TDOK Tryz.prog 75 ⟨.int .u64, 1, 8, [.i .u64 0], some (.int .u64), none, false⟩ := tdok_of (info_of Tryz.type75) rfl Tryz.underlying75 ⟨rfl, rfl, rfl⟩ rfl (.inl ⟨rfl, rfl⟩) (.inr ⟨_, rfl, rfl, by decide, rfl⟩)
theorem td76 : TDOK Tryz.prog 76 ⟨.struct [(0, 17), (1, 74), (2, 75)], 3, 24, [.nilp, .nilp, .i .u64 0], none, none, false⟩ := tdok_of (info_of Tryz.type76) rfl ⟨_, Tryz.underlying76, rfl⟩ ⟨rfl, rfl, rfl⟩ rfl (.inl ⟨rfl, rfl⟩) (.inl rfl)
theorem td77 : TDOK Tryz.prog 77 ⟨.struct [(0, 17), (1, 74), (2, 75)], 3, 24, [.nilp, .nilp, .i .u64 0], none, none, false⟩ := tdok_of (info_of Tryz.type77) rfl ⟨_, Tryz.underlying77, rfl⟩ ⟨rfl, rfl, rfl⟩ rfl (.inl ⟨rfl, rfl⟩) (.inl rfl)
theorem td78 : TDOK Tryz.prog 78 ⟨.func, 1, 8, [.nilf], none, none, false⟩ := tdok_of (info_of Tryz.type78) rfl ⟨_, _, _, Tryz.underlying78⟩ ⟨rfl, rfl, rfl⟩ rfl (.inl ⟨rfl, rfl⟩) (.inl rfl)
theorem td79 : TDOK Tryz.prog 79 ⟨.iface, 1, 16, [.nili], none, none, false⟩ := tdok_of (info_of Tryz.type79) rfl ⟨_, Tryz.underlying79⟩ ⟨rfl, rfl, rfl⟩ rfl (.inl ⟨rfl, rfl⟩) (.inl rfl)
theorem td80 : TDOK Tryz.prog 80 ⟨.iface, 1, 16, [.nili], none, none, false⟩ := tdok_of (info_of Tryz.type80) rfl ⟨_, Tryz.underlying80⟩ ⟨rfl, rfl, rfl⟩ rfl (.inl ⟨rfl, rfl⟩) (.inl rfl)
theorem td81 : TDOK Tryz.prog 81 ⟨.func, 1, 8, [.nilf], none, none, false⟩ := tdok_of (info_of Tryz.type81) rfl ⟨_, _, _, Tryz.underlying81⟩ ⟨rfl, rfl, rfl⟩ rfl (.inl ⟨rfl, rfl⟩) (.inl rfl)
theorem td82 : TDOK Tryz.prog 82 ⟨.int .u8, 1, 1, [.i .u8 0], some (.int .u8), none, false⟩ := tdok_of (info_of Tryz.type82) rfl Tryz.underlying82 ⟨rfl, rfl, rfl⟩ rfl (.inl ⟨rfl, rfl⟩) (.inr ⟨_, rfl, rfl, by decide, rfl⟩)
theorem td83 : TDOK Tryz.prog 83 ⟨.func, 1, 8, [.nilf], none, none, false⟩ := tdok_of (info_of Tryz.type83) rfl ⟨_, _, _, Tryz.underlying83⟩ ⟨rfl, rfl, rfl⟩ rfl (.inl ⟨rfl, rfl⟩) (.inl rfl)
theorem td84 : TDOK Tryz.prog 84 ⟨.func, 1, 8, [.nilf], none, none, false⟩ := tdok_of (info_of Tryz.type84) rfl ⟨_, _, _, Tryz.underlying84⟩ ⟨rfl, rfl, rfl⟩ rfl (.inl ⟨rfl, rfl⟩) (.inl rfl)
theorem td85 : TDOK Tryz.prog 85 ⟨.func, 1, 8, [.nilf], none, none, false⟩ := tdok_of (info_of Tryz.type85) rfl ⟨_, _, _, Tryz.underlying85⟩ ⟨rfl, rfl, rfl⟩ rfl (.inl ⟨rfl, rfl⟩) (.inl rfl)
set_option maxRecDepth 20000 in
theorem td86 : TDOK Tryz.prog 86 ⟨.arr 256 3, 256, 2048, [], none, some ((.int .i64), 256), false⟩ := tdok_of (info_of Tryz.type86) rfl Tryz.underlying86 ⟨rfl, rfl, rfl⟩ rfl (.inr ⟨_, _, rfl, rfl, by decide, by decide⟩) (.inl rfl)
theorem td87 : TDOK Tryz.prog 87 ⟨.func, 1, 8, [.nilf], none, none, false⟩ := tdok_of (info_of Tryz.type87) rfl ⟨_, _, _, Tryz.underlying87⟩ ⟨rfl, rfl, rfl⟩ rfl (.inl ⟨rfl, rfl⟩) (.inl rfl)
theorem td88 : TDOK Tryz.prog 88 ⟨.ptr 5, 1, 8, [.nilp], none, none, false⟩ := tdok_of (info_of Tryz.type88) rfl Tryz.underlying88 ⟨rfl, rfl, rfl⟩ rfl (.inl ⟨rfl, rfl⟩) (.inl rfl)
theorem td89 : TDOK Tryz.prog 89 ⟨.func, 1, 8, [.nilf], none, none, false⟩ := tdok_of (info_of Tryz.type89) rfl ⟨_, _, _, Tryz.underlying89⟩ ⟨rfl, rfl, rfl⟩ rfl (.inl ⟨rfl, rfl⟩) (.inl rfl)
theorem td90 : TDOK Tryz.prog 90 ⟨.func, 1, 8, [.nilf], none, none, false⟩ := tdok_of (info_of Tryz.type90) rfl ⟨_, _, _, Tryz.underlying90⟩ ⟨rfl, rfl, rfl⟩ rfl (.inl ⟨rfl, rfl⟩) (.inl rfl)
theorem td91 : TDOK Tryz.prog 91 ⟨.func, 1, 8, [.nilf], none, none, false⟩ := tdok_of (info_of Tryz.type91) rfl ⟨_, _, _, Tryz.underlying91⟩ ⟨rfl, rfl, rfl⟩ rfl (.inl ⟨rfl, rfl⟩) (.inl rfl)
theorem td92 : TDOK Tryz.prog 92 ⟨.func, 1, 8, [.nilf], none, none, false⟩ := tdok_of (info_of Tryz.type92) rfl ⟨_, _, _, Tryz.underlying92⟩ ⟨rfl, rfl, rfl⟩ rfl (.inl ⟨rfl, rfl⟩) (.inl rfl)
theorem td93 : TDOK Tryz.prog 93 ⟨.func, 1, 8, [.nilf], none, none, false⟩ := tdok_of (info_of Tryz.type93) rfl ⟨_, _, _, Tryz.underlying93⟩ ⟨rfl, rfl, rfl⟩ rfl (.inl ⟨rfl, rfl⟩) (.inl rfl)
theorem td94 : TDOK Tryz.prog 94 ⟨.struct [(0, 17)], 1, 8, [.nilp], none, none, false⟩ := tdok_of (info_of Tryz.type94) rfl ⟨_, Tryz.underlying94, rfl⟩ ⟨rfl, rfl, rfl⟩ rfl (.inl ⟨rfl, rfl⟩) (.inl rfl)
theorem td95 : TDOK Tryz.prog 95 ⟨.struct [(0, 17)], 1, 8, [.nilp], none, none, false⟩ := tdok_of (info_of Tryz.type95) rfl ⟨_, Tryz.underlying95, rfl⟩ ⟨rfl, rfl, rfl⟩ rfl (.inl ⟨rfl, rfl⟩) (.inl rfl)
theorem td96 : TDOK Tryz.prog 96 ⟨.ptr 184, 1, 8, [.nilp], none, none, false⟩ := tdok_of (info_of Tryz.type96) rfl Tryz.underlying96 ⟨rfl, rfl, rfl⟩ rfl (.inl ⟨rfl, rfl⟩) (.inl rfl)
theorem td97 : TDOK Tryz.prog 97 ⟨.func, 1, 8, [.nilf], none, none, false⟩ := tdok_of (info_of Tryz.type97) rfl ⟨_, _, _, Tryz.underlying97⟩ ⟨rfl, rfl, rfl⟩ rfl (.inl ⟨rfl, rfl⟩) (.inl rfl)
theorem td98 : TDOK Tryz.prog 98 ⟨.func, 1, 8, [.nilf], none, none, false⟩ := tdok_of (info_of Tryz.type98) rfl ⟨_, _, _, Tryz.underlying98⟩ ⟨rfl, rfl, rfl⟩ rfl (.inl ⟨rfl, rfl⟩) (.inl rfl)
theorem td99 : TDOK Tryz.prog 99 ⟨.func, 1, 8, [.nilf], none, none, false⟩ := tdok_of (info_of Tryz.type99) rfl ⟨_, _, _, Tryz.underlying99⟩ ⟨rfl, rfl, rfl⟩ rfl (.inl ⟨rfl, rfl⟩) (.inl rfl)
theorem td100 : TDOK Tryz.prog 100 ⟨.iface, 1, 16, [.nili], none, none, false⟩ := tdok_of (info_of Tryz.type100) rfl ⟨_, Tryz.underlying100⟩ ⟨rfl, rfl, rfl⟩ rfl (.inl ⟨rfl, rfl⟩) (.inl rfl)
theorem td102 : TDOK Tryz.prog 102 ⟨.func, 1, 8, [.nilf], none, none, false⟩ := tdok_of (info_of Tryz.type102) rfl ⟨_, _, _, Tryz.underlying102⟩ ⟨rfl, rfl, rfl⟩ rfl (.inl ⟨rfl, rfl⟩) (.inl rfl)
theorem td103 : TDOK Tryz.prog 103 ⟨.iface, 1, 16, [.nili], none, none, false⟩ := tdok_of (info_of Tryz.type103) rfl ⟨_, Tryz.underlying103⟩ ⟨rfl, rfl, rfl⟩ rfl (.inl ⟨rfl, rfl⟩) (.inl rfl)
theorem td104 : TDOK Tryz.prog 104 ⟨.func, 1, 8, [.nilf], none, none, false⟩ := tdok_of (info_of Tryz.type104) rfl ⟨_, _, _, Tryz.underlying104⟩ ⟨rfl, rfl, rfl⟩ rfl (.inl ⟨rfl, rfl⟩) (.inl rfl)
theorem td105 : TDOK Tryz.prog 105 ⟨.iface, 1, 16, [.nili], none, none, false⟩ := tdok_of (info_of Tryz.type105) rfl ⟨_, Tryz.underlying105⟩ ⟨rfl, rfl, rfl⟩ rfl (.inl ⟨rfl, rfl⟩) (.inl rfl)
theorem td106 : TDOK Tryz.prog 106 ⟨.slice 37, 1, 24, [.nils], none, none, false⟩ := tdok_of (info_of Tryz.type106) rfl Tryz.underlying106 ⟨rfl, rfl, rfl⟩ rfl (.inl ⟨rfl, rfl⟩) (.inl rfl)
theorem td107 : TDOK Tryz.prog 107 ⟨.func, 1, 8, [.nilf], none, none, false⟩ := tdok_of (info_of Tryz.type107) rfl ⟨_, _, _, Tryz.underlying107⟩ ⟨rfl, rfl, rfl⟩ rfl (.inl ⟨rfl, rfl⟩) (.inl rfl)
theorem td108 : TDOK Tryz.prog 108 ⟨.func, 1, 8, [.nilf], none, none, false⟩ := tdok_of (info_of Tryz.type108) rfl ⟨_, _, _, Tryz.underlying108⟩ ⟨rfl, rfl, rfl⟩ rfl (.inl ⟨rfl, rfl⟩) (.inl rfl)
theorem td109 : TDOK Tryz.prog 109 ⟨.func, 1, 8, [.nilf], none, none, false⟩ := tdok_of (info_of Tryz.type109) rfl ⟨_, _, _, Tryz.underlying109⟩ ⟨rfl, rfl, rfl⟩ rfl (.inl ⟨rfl, rfl⟩) (.inl rfl)
theorem td110 : TDOK Tryz.prog 110 ⟨.struct [(0, 3), (1, 3)], 2, 16, [.i .i64 0, .i .i64 0], some (.pair (.int .i64) (.int .i64)), none, false⟩ := tdok_of (info_of Tryz.type110) rfl ⟨_, Tryz.underlying110, rfl⟩ ⟨rfl, rfl, rfl⟩ rfl (.inl ⟨rfl, rfl⟩) (.inr ⟨_, rfl, rfl, by decide, rfl⟩)
theorem eqs111 : ∀ (x y : EK.ty (.pair (.int .i64) (.int .i64))) (w : World), (Op.equalIn 10000 111 (.agg (EK.vals (.pair (.int .i64) (.int .i64)) x).toArray) (.agg (EK.vals (.pair (.int .i64) (.int .i64)) y).toArray)).run Tryz.prog w = .ok (EK.eqb (.pair (.int .i64) (.int .i64)) x y) w := by
  intro x y w
  rw [run_equalIn_agg w 9999 111 _ _ (by rw [fo Tryz.underlying111]; exact Tryz.underlying111) Tryz.stoodInHeld111, fo Tryz.underlying111]
  simp only [EK.vals, List.cons_append, List.nil_append, EK.eqb]
  have p0 : ∀ (a0 a1 : Value), (Go.part 3 #[a0, a1] 0).run Tryz.prog w = .ok a0 w := fun a0 a1 => part_run td3 [a0, a1] 0
  have p1 : ∀ (a0 a1 : Value), (Go.part 3 #[a0, a1] 1).run Tryz.prog w = .ok a1 w := fun a0 a1 => part_run td3 [a0, a1] 1
  simp [Op.eqFields, p0, p1, run_equalIn_int w 9998 3 .i64 .i64 _ _ Tryz.underlying3]
  by_cases h1 : x.1 = y.1 <;> by_cases h2 : x.2 = y.2 <;> simp [h1, h2]

theorem td111 : TDOK Tryz.prog 111 ⟨.struct [(0, 3), (1, 3)], 2, 16, [.i .i64 0, .i .i64 0], some (.pair (.int .i64) (.int .i64)), none, true⟩ := tdok_of (info_of Tryz.type111) rfl ⟨_, Tryz.underlying111, rfl⟩ ⟨rfl, rfl, rfl⟩ rfl (.inl ⟨rfl, rfl⟩) (.inr ⟨_, rfl, rfl, by decide, rfl⟩) (fun _ k hk => by cases hk; exact ⟨Tryz.eqGuardType111, eqs111⟩)
theorem td113 : TDOK Tryz.prog 113 ⟨.func, 1, 8, [.nilf], none, none, false⟩ := tdok_of (info_of Tryz.type113) rfl ⟨_, _, _, Tryz.underlying113⟩ ⟨rfl, rfl, rfl⟩ rfl (.inl ⟨rfl, rfl⟩) (.inl rfl)
theorem td114 : TDOK Tryz.prog 114 ⟨.func, 1, 8, [.nilf], none, none, false⟩ := tdok_of (info_of Tryz.type114) rfl ⟨_, _, _, Tryz.underlying114⟩ ⟨rfl, rfl, rfl⟩ rfl (.inl ⟨rfl, rfl⟩) (.inl rfl)
theorem td115 : TDOK Tryz.prog 115 ⟨.arr 4 114, 4, 32, [.nilf, .nilf, .nilf, .nilf], none, none, false⟩ := tdok_of (info_of Tryz.type115) rfl Tryz.underlying115 ⟨rfl, rfl, rfl⟩ rfl (.inl ⟨rfl, rfl⟩) (.inl rfl)
theorem td116 : TDOK Tryz.prog 116 ⟨.func, 1, 8, [.nilf], none, none, false⟩ := tdok_of (info_of Tryz.type116) rfl ⟨_, _, _, Tryz.underlying116⟩ ⟨rfl, rfl, rfl⟩ rfl (.inl ⟨rfl, rfl⟩) (.inl rfl)
theorem td117 : TDOK Tryz.prog 117 ⟨.func, 1, 8, [.nilf], none, none, false⟩ := tdok_of (info_of Tryz.type117) rfl ⟨_, _, _, Tryz.underlying117⟩ ⟨rfl, rfl, rfl⟩ rfl (.inl ⟨rfl, rfl⟩) (.inl rfl)
theorem td118 : TDOK Tryz.prog 118 ⟨.func, 1, 8, [.nilf], none, none, false⟩ := tdok_of (info_of Tryz.type118) rfl ⟨_, _, _, Tryz.underlying118⟩ ⟨rfl, rfl, rfl⟩ rfl (.inl ⟨rfl, rfl⟩) (.inl rfl)
theorem td119 : TDOK Tryz.prog 119 ⟨.func, 1, 8, [.nilf], none, none, false⟩ := tdok_of (info_of Tryz.type119) rfl ⟨_, _, _, Tryz.underlying119⟩ ⟨rfl, rfl, rfl⟩ rfl (.inl ⟨rfl, rfl⟩) (.inl rfl)
theorem td120 : TDOK Tryz.prog 120 ⟨.func, 1, 8, [.nilf], none, none, false⟩ := tdok_of (info_of Tryz.type120) rfl ⟨_, _, _, Tryz.underlying120⟩ ⟨rfl, rfl, rfl⟩ rfl (.inl ⟨rfl, rfl⟩) (.inl rfl)
theorem td121 : TDOK Tryz.prog 121 ⟨.int .u64, 1, 8, [.i .u64 0], some (.int .u64), none, false⟩ := tdok_of (info_of Tryz.type121) rfl Tryz.underlying121 ⟨rfl, rfl, rfl⟩ rfl (.inl ⟨rfl, rfl⟩) (.inr ⟨_, rfl, rfl, by decide, rfl⟩)
theorem td122 : TDOK Tryz.prog 122 ⟨.func, 1, 8, [.nilf], none, none, false⟩ := tdok_of (info_of Tryz.type122) rfl ⟨_, _, _, Tryz.underlying122⟩ ⟨rfl, rfl, rfl⟩ rfl (.inl ⟨rfl, rfl⟩) (.inl rfl)
theorem td123 : TDOK Tryz.prog 123 ⟨.func, 1, 8, [.nilf], none, none, false⟩ := tdok_of (info_of Tryz.type123) rfl ⟨_, _, _, Tryz.underlying123⟩ ⟨rfl, rfl, rfl⟩ rfl (.inl ⟨rfl, rfl⟩) (.inl rfl)
set_option maxRecDepth 20000 in
theorem td124 : TDOK Tryz.prog 124 ⟨.arr 24 5, 24, 24, [], none, some ((.int .u8), 24), false⟩ := tdok_of (info_of Tryz.type124) rfl Tryz.underlying124 ⟨rfl, rfl, rfl⟩ rfl (.inr ⟨_, _, rfl, rfl, by decide, by decide⟩) (.inl rfl)
theorem td125 : TDOK Tryz.prog 125 ⟨.int .u64, 1, 8, [.i .u64 0], some (.int .u64), none, false⟩ := tdok_of (info_of Tryz.type125) rfl Tryz.underlying125 ⟨rfl, rfl, rfl⟩ rfl (.inl ⟨rfl, rfl⟩) (.inr ⟨_, rfl, rfl, by decide, rfl⟩)
theorem td126 : TDOK Tryz.prog 126 ⟨.func, 1, 8, [.nilf], none, none, false⟩ := tdok_of (info_of Tryz.type126) rfl ⟨_, _, _, Tryz.underlying126⟩ ⟨rfl, rfl, rfl⟩ rfl (.inl ⟨rfl, rfl⟩) (.inl rfl)
theorem td127 : TDOK Tryz.prog 127 ⟨.func, 1, 8, [.nilf], none, none, false⟩ := tdok_of (info_of Tryz.type127) rfl ⟨_, _, _, Tryz.underlying127⟩ ⟨rfl, rfl, rfl⟩ rfl (.inl ⟨rfl, rfl⟩) (.inl rfl)
theorem td129 : TDOK Tryz.prog 129 ⟨.func, 1, 8, [.nilf], none, none, false⟩ := tdok_of (info_of Tryz.type129) rfl ⟨_, _, _, Tryz.underlying129⟩ ⟨rfl, rfl, rfl⟩ rfl (.inl ⟨rfl, rfl⟩) (.inl rfl)
theorem td130 : TDOK Tryz.prog 130 ⟨.func, 1, 8, [.nilf], none, none, false⟩ := tdok_of (info_of Tryz.type130) rfl ⟨_, _, _, Tryz.underlying130⟩ ⟨rfl, rfl, rfl⟩ rfl (.inl ⟨rfl, rfl⟩) (.inl rfl)
theorem td131 : TDOK Tryz.prog 131 ⟨.func, 1, 8, [.nilf], none, none, false⟩ := tdok_of (info_of Tryz.type131) rfl ⟨_, _, _, Tryz.underlying131⟩ ⟨rfl, rfl, rfl⟩ rfl (.inl ⟨rfl, rfl⟩) (.inl rfl)
theorem td133 : TDOK Tryz.prog 133 ⟨.func, 1, 8, [.nilf], none, none, false⟩ := tdok_of (info_of Tryz.type133) rfl ⟨_, _, _, Tryz.underlying133⟩ ⟨rfl, rfl, rfl⟩ rfl (.inl ⟨rfl, rfl⟩) (.inl rfl)
theorem td134 : TDOK Tryz.prog 134 ⟨.int .i64, 1, 8, [.i .i64 0], some (.int .i64), none, false⟩ := tdok_of (info_of Tryz.type134) rfl Tryz.underlying134 ⟨rfl, rfl, rfl⟩ rfl (.inl ⟨rfl, rfl⟩) (.inr ⟨_, rfl, rfl, by decide, rfl⟩)
theorem td136 : TDOK Tryz.prog 136 ⟨.func, 1, 8, [.nilf], none, none, false⟩ := tdok_of (info_of Tryz.type136) rfl ⟨_, _, _, Tryz.underlying136⟩ ⟨rfl, rfl, rfl⟩ rfl (.inl ⟨rfl, rfl⟩) (.inl rfl)
theorem td137 : TDOK Tryz.prog 137 ⟨.ptr 154, 1, 8, [.nilp], none, none, false⟩ := tdok_of (info_of Tryz.type137) rfl Tryz.underlying137 ⟨rfl, rfl, rfl⟩ rfl (.inl ⟨rfl, rfl⟩) (.inl rfl)
theorem td138 : TDOK Tryz.prog 138 ⟨.func, 1, 8, [.nilf], none, none, false⟩ := tdok_of (info_of Tryz.type138) rfl ⟨_, _, _, Tryz.underlying138⟩ ⟨rfl, rfl, rfl⟩ rfl (.inl ⟨rfl, rfl⟩) (.inl rfl)
theorem td139 : TDOK Tryz.prog 139 ⟨.func, 1, 8, [.nilf], none, none, false⟩ := tdok_of (info_of Tryz.type139) rfl ⟨_, _, _, Tryz.underlying139⟩ ⟨rfl, rfl, rfl⟩ rfl (.inl ⟨rfl, rfl⟩) (.inl rfl)
theorem td140 : TDOK Tryz.prog 140 ⟨.int .u32, 1, 4, [.i .u32 0], some (.int .u32), none, false⟩ := tdok_of (info_of Tryz.type140) rfl Tryz.underlying140 ⟨rfl, rfl, rfl⟩ rfl (.inl ⟨rfl, rfl⟩) (.inr ⟨_, rfl, rfl, by decide, rfl⟩)
theorem td142 : TDOK Tryz.prog 142 ⟨.func, 1, 8, [.nilf], none, none, false⟩ := tdok_of (info_of Tryz.type142) rfl ⟨_, _, _, Tryz.underlying142⟩ ⟨rfl, rfl, rfl⟩ rfl (.inl ⟨rfl, rfl⟩) (.inl rfl)
theorem td144 : TDOK Tryz.prog 144 ⟨.func, 1, 8, [.nilf], none, none, false⟩ := tdok_of (info_of Tryz.type144) rfl ⟨_, _, _, Tryz.underlying144⟩ ⟨rfl, rfl, rfl⟩ rfl (.inl ⟨rfl, rfl⟩) (.inl rfl)
theorem td145 : TDOK Tryz.prog 145 ⟨.func, 1, 8, [.nilf], none, none, false⟩ := tdok_of (info_of Tryz.type145) rfl ⟨_, _, _, Tryz.underlying145⟩ ⟨rfl, rfl, rfl⟩ rfl (.inl ⟨rfl, rfl⟩) (.inl rfl)
set_option maxRecDepth 20000 in
theorem td146 : TDOK Tryz.prog 146 ⟨.arr 20 125, 20, 160, [], none, some ((.int .u64), 20), false⟩ := tdok_of (info_of Tryz.type146) rfl Tryz.underlying146 ⟨rfl, rfl, rfl⟩ rfl (.inr ⟨_, _, rfl, rfl, by decide, by decide⟩) (.inl rfl)
set_option maxRecDepth 20000 in
theorem td147 : TDOK Tryz.prog 147 ⟨.arr 65 5, 65, 65, [], none, some ((.int .u8), 65), false⟩ := tdok_of (info_of Tryz.type147) rfl Tryz.underlying147 ⟨rfl, rfl, rfl⟩ rfl (.inr ⟨_, _, rfl, rfl, by decide, by decide⟩) (.inl rfl)
theorem td148 : TDOK Tryz.prog 148 ⟨.func, 1, 8, [.nilf], none, none, false⟩ := tdok_of (info_of Tryz.type148) rfl ⟨_, _, _, Tryz.underlying148⟩ ⟨rfl, rfl, rfl⟩ rfl (.inl ⟨rfl, rfl⟩) (.inl rfl)
theorem td149 : TDOK Tryz.prog 149 ⟨.func, 1, 8, [.nilf], none, none, false⟩ := tdok_of (info_of Tryz.type149) rfl ⟨_, _, _, Tryz.underlying149⟩ ⟨rfl, rfl, rfl⟩ rfl (.inl ⟨rfl, rfl⟩) (.inl rfl)
theorem td151 : TDOK Tryz.prog 151 ⟨.func, 1, 8, [.nilf], none, none, false⟩ := tdok_of (info_of Tryz.type151) rfl ⟨_, _, _, Tryz.underlying151⟩ ⟨rfl, rfl, rfl⟩ rfl (.inl ⟨rfl, rfl⟩) (.inl rfl)
theorem td152 : TDOK Tryz.prog 152 ⟨.func, 1, 8, [.nilf], none, none, false⟩ := tdok_of (info_of Tryz.type152) rfl ⟨_, _, _, Tryz.underlying152⟩ ⟨rfl, rfl, rfl⟩ rfl (.inl ⟨rfl, rfl⟩) (.inl rfl)
theorem td153 : TDOK Tryz.prog 153 ⟨.struct [(0, 9), (1, 9), (2, 37)], 3, 48, [.s ByteArray.empty, .s ByteArray.empty, .nili], none, none, false⟩ := tdok_of (info_of Tryz.type153) rfl ⟨_, Tryz.underlying153, rfl⟩ ⟨rfl, rfl, rfl⟩ rfl (.inl ⟨rfl, rfl⟩) (.inl rfl)
theorem td154 : TDOK Tryz.prog 154 ⟨.struct [(0, 9), (1, 9), (2, 37)], 3, 48, [.s ByteArray.empty, .s ByteArray.empty, .nili], none, none, false⟩ := tdok_of (info_of Tryz.type154) rfl ⟨_, Tryz.underlying154, rfl⟩ ⟨rfl, rfl, rfl⟩ rfl (.inl ⟨rfl, rfl⟩) (.inl rfl)
theorem td155 : TDOK Tryz.prog 155 ⟨.func, 1, 8, [.nilf], none, none, false⟩ := tdok_of (info_of Tryz.type155) rfl ⟨_, _, _, Tryz.underlying155⟩ ⟨rfl, rfl, rfl⟩ rfl (.inl ⟨rfl, rfl⟩) (.inl rfl)
theorem td156 : TDOK Tryz.prog 156 ⟨.func, 1, 8, [.nilf], none, none, false⟩ := tdok_of (info_of Tryz.type156) rfl ⟨_, _, _, Tryz.underlying156⟩ ⟨rfl, rfl, rfl⟩ rfl (.inl ⟨rfl, rfl⟩) (.inl rfl)
theorem td158 : TDOK Tryz.prog 158 ⟨.func, 1, 8, [.nilf], none, none, false⟩ := tdok_of (info_of Tryz.type158) rfl ⟨_, _, _, Tryz.underlying158⟩ ⟨rfl, rfl, rfl⟩ rfl (.inl ⟨rfl, rfl⟩) (.inl rfl)
theorem td159 : TDOK Tryz.prog 159 ⟨.func, 1, 8, [.nilf], none, none, false⟩ := tdok_of (info_of Tryz.type159) rfl ⟨_, _, _, Tryz.underlying159⟩ ⟨rfl, rfl, rfl⟩ rfl (.inl ⟨rfl, rfl⟩) (.inl rfl)
set_option maxRecDepth 20000 in
theorem td160 : TDOK Tryz.prog 160 ⟨.arr 256 5, 256, 256, [], none, some ((.int .u8), 256), false⟩ := tdok_of (info_of Tryz.type160) rfl Tryz.underlying160 ⟨rfl, rfl, rfl⟩ rfl (.inr ⟨_, _, rfl, rfl, by decide, by decide⟩) (.inl rfl)
theorem td161 : TDOK Tryz.prog 161 ⟨.struct [(0, 5), (1, 5)], 2, 2, [.i .u8 0, .i .u8 0], some (.pair (.int .u8) (.int .u8)), none, false⟩ := tdok_of (info_of Tryz.type161) rfl ⟨_, Tryz.underlying161, rfl⟩ ⟨rfl, rfl, rfl⟩ rfl (.inl ⟨rfl, rfl⟩) (.inr ⟨_, rfl, rfl, by decide, rfl⟩)
theorem td162 : TDOK Tryz.prog 162 ⟨.struct [(0, 5), (1, 5)], 2, 2, [.i .u8 0, .i .u8 0], some (.pair (.int .u8) (.int .u8)), none, false⟩ := tdok_of (info_of Tryz.type162) rfl ⟨_, Tryz.underlying162, rfl⟩ ⟨rfl, rfl, rfl⟩ rfl (.inl ⟨rfl, rfl⟩) (.inr ⟨_, rfl, rfl, by decide, rfl⟩)
theorem td163 : TDOK Tryz.prog 163 ⟨.arr 16 162, 32, 32, [.i .u8 0, .i .u8 0, .i .u8 0, .i .u8 0, .i .u8 0, .i .u8 0, .i .u8 0, .i .u8 0, .i .u8 0, .i .u8 0, .i .u8 0, .i .u8 0, .i .u8 0, .i .u8 0, .i .u8 0, .i .u8 0, .i .u8 0, .i .u8 0, .i .u8 0, .i .u8 0, .i .u8 0, .i .u8 0, .i .u8 0, .i .u8 0, .i .u8 0, .i .u8 0, .i .u8 0, .i .u8 0, .i .u8 0, .i .u8 0, .i .u8 0, .i .u8 0], some (.pair (.pair (.int .u8) (.int .u8)) (.pair (.pair (.int .u8) (.int .u8)) (.pair (.pair (.int .u8) (.int .u8)) (.pair (.pair (.int .u8) (.int .u8)) (.pair (.pair (.int .u8) (.int .u8)) (.pair (.pair (.int .u8) (.int .u8)) (.pair (.pair (.int .u8) (.int .u8)) (.pair (.pair (.int .u8) (.int .u8)) (.pair (.pair (.int .u8) (.int .u8)) (.pair (.pair (.int .u8) (.int .u8)) (.pair (.pair (.int .u8) (.int .u8)) (.pair (.pair (.int .u8) (.int .u8)) (.pair (.pair (.int .u8) (.int .u8)) (.pair (.pair (.int .u8) (.int .u8)) (.pair (.pair (.int .u8) (.int .u8)) (.pair (.int .u8) (.int .u8))))))))))))))))), none, false⟩ := tdok_of (info_of Tryz.type163) rfl Tryz.underlying163 ⟨rfl, rfl, rfl⟩ rfl (.inl ⟨rfl, rfl⟩) (.inr ⟨_, rfl, rfl, by decide, rfl⟩)
theorem td164 : TDOK Tryz.prog 164 ⟨.ptr 166, 1, 8, [.nilp], none, none, false⟩ := tdok_of (info_of Tryz.type164) rfl Tryz.underlying164 ⟨rfl, rfl, rfl⟩ rfl (.inl ⟨rfl, rfl⟩) (.inl rfl)
theorem td165 : TDOK Tryz.prog 165 ⟨.struct [(0, 9)], 1, 16, [.s ByteArray.empty], some .str, none, false⟩ := tdok_of (info_of Tryz.type165) rfl ⟨_, Tryz.underlying165, rfl⟩ ⟨rfl, rfl, rfl⟩ rfl (.inl ⟨rfl, rfl⟩) (.inr ⟨_, rfl, rfl, by decide, rfl⟩)
theorem td166 : TDOK Tryz.prog 166 ⟨.struct [(0, 9)], 1, 16, [.s ByteArray.empty], some .str, none, false⟩ := tdok_of (info_of Tryz.type166) rfl ⟨_, Tryz.underlying166, rfl⟩ ⟨rfl, rfl, rfl⟩ rfl (.inl ⟨rfl, rfl⟩) (.inr ⟨_, rfl, rfl, by decide, rfl⟩)
set_option maxRecDepth 20000 in
theorem td167 : TDOK Tryz.prog 167 ⟨.arr 32 5, 32, 32, [], none, some ((.int .u8), 32), false⟩ := tdok_of (info_of Tryz.type167) rfl Tryz.underlying167 ⟨rfl, rfl, rfl⟩ rfl (.inr ⟨_, _, rfl, rfl, by decide, by decide⟩) (.inl rfl)
set_option maxRecDepth 20000 in
theorem td168 : TDOK Tryz.prog 168 ⟨.arr 64 5, 64, 64, [], none, some ((.int .u8), 64), false⟩ := tdok_of (info_of Tryz.type168) rfl Tryz.underlying168 ⟨rfl, rfl, rfl⟩ rfl (.inr ⟨_, _, rfl, rfl, by decide, by decide⟩) (.inl rfl)
theorem td169 : TDOK Tryz.prog 169 ⟨.struct [(0, 17), (1, 17), (2, 17), (3, 9)], 4, 40, [.nilp, .nilp, .nilp, .s ByteArray.empty], none, none, false⟩ := tdok_of (info_of Tryz.type169) rfl ⟨_, Tryz.underlying169, rfl⟩ ⟨rfl, rfl, rfl⟩ rfl (.inl ⟨rfl, rfl⟩) (.inl rfl)
theorem td170 : TDOK Tryz.prog 170 ⟨.struct [(0, 17), (1, 17), (2, 17), (3, 9)], 4, 40, [.nilp, .nilp, .nilp, .s ByteArray.empty], none, none, false⟩ := tdok_of (info_of Tryz.type170) rfl ⟨_, Tryz.underlying170, rfl⟩ ⟨rfl, rfl, rfl⟩ rfl (.inl ⟨rfl, rfl⟩) (.inl rfl)
theorem td171 : TDOK Tryz.prog 171 ⟨.arr 0 16, 0, 0, [], none, none, false⟩ := tdok_of (info_of Tryz.type171) rfl Tryz.underlying171 ⟨rfl, rfl, rfl⟩ rfl (.inl ⟨rfl, rfl⟩) (.inl rfl)
theorem td172 : TDOK Tryz.prog 172 ⟨.struct [(0, 171)], 0, 0, [], none, none, false⟩ := tdok_of (info_of Tryz.type172) rfl ⟨_, Tryz.underlying172, rfl⟩ ⟨rfl, rfl, rfl⟩ rfl (.inl ⟨rfl, rfl⟩) (.inl rfl)
theorem td173 : TDOK Tryz.prog 173 ⟨.struct [(0, 171)], 0, 0, [], none, none, false⟩ := tdok_of (info_of Tryz.type173) rfl ⟨_, Tryz.underlying173, rfl⟩ ⟨rfl, rfl, rfl⟩ rfl (.inl ⟨rfl, rfl⟩) (.inl rfl)
theorem td174 : TDOK Tryz.prog 174 ⟨.func, 1, 8, [.nilf], none, none, false⟩ := tdok_of (info_of Tryz.type174) rfl ⟨_, _, _, Tryz.underlying174⟩ ⟨rfl, rfl, rfl⟩ rfl (.inl ⟨rfl, rfl⟩) (.inl rfl)
theorem td175 : TDOK Tryz.prog 175 ⟨.int .u8, 1, 1, [.i .u8 0], some (.int .u8), none, false⟩ := tdok_of (info_of Tryz.type175) rfl Tryz.underlying175 ⟨rfl, rfl, rfl⟩ rfl (.inl ⟨rfl, rfl⟩) (.inr ⟨_, rfl, rfl, by decide, rfl⟩)
theorem td176 : TDOK Tryz.prog 176 ⟨.func, 1, 8, [.nilf], none, none, false⟩ := tdok_of (info_of Tryz.type176) rfl ⟨_, _, _, Tryz.underlying176⟩ ⟨rfl, rfl, rfl⟩ rfl (.inl ⟨rfl, rfl⟩) (.inl rfl)
theorem td177 : TDOK Tryz.prog 177 ⟨.int .i32, 1, 4, [.i .i32 0], some (.int .i32), none, false⟩ := tdok_of (info_of Tryz.type177) rfl Tryz.underlying177 ⟨rfl, rfl, rfl⟩ rfl (.inl ⟨rfl, rfl⟩) (.inr ⟨_, rfl, rfl, by decide, rfl⟩)
theorem td178 : TDOK Tryz.prog 178 ⟨.int .i32, 1, 4, [.i .i32 0], some (.int .i32), none, false⟩ := tdok_of (info_of Tryz.type178) rfl Tryz.underlying178 ⟨rfl, rfl, rfl⟩ rfl (.inl ⟨rfl, rfl⟩) (.inr ⟨_, rfl, rfl, by decide, rfl⟩)
theorem td179 : TDOK Tryz.prog 179 ⟨.struct [(0, 12), (1, 12), (2, 140), (3, 175), (4, 5), (5, 5), (6, 82), (7, 176), (8, 88), (9, 177), (10, 178)], 11, 48, [.i .u64 0, .i .u64 0, .i .u32 0, .i .u8 0, .i .u8 0, .i .u8 0, .i .u8 0, .nilf, .nilp, .i .i32 0, .i .i32 0], none, none, false⟩ := tdok_of (info_of Tryz.type179) rfl ⟨_, Tryz.underlying179, rfl⟩ ⟨rfl, rfl, rfl⟩ rfl (.inl ⟨rfl, rfl⟩) (.inl rfl)
theorem td180 : TDOK Tryz.prog 180 ⟨.struct [(0, 12), (1, 12), (2, 140), (3, 175), (4, 5), (5, 5), (6, 82), (7, 176), (8, 88), (9, 177), (10, 178)], 11, 48, [.i .u64 0, .i .u64 0, .i .u32 0, .i .u8 0, .i .u8 0, .i .u8 0, .i .u8 0, .nilf, .nilp, .i .i32 0, .i .i32 0], none, none, false⟩ := tdok_of (info_of Tryz.type180) rfl ⟨_, Tryz.underlying180, rfl⟩ ⟨rfl, rfl, rfl⟩ rfl (.inl ⟨rfl, rfl⟩) (.inl rfl)
theorem td181 : TDOK Tryz.prog 181 ⟨.func, 1, 8, [.nilf], none, none, false⟩ := tdok_of (info_of Tryz.type181) rfl ⟨_, _, _, Tryz.underlying181⟩ ⟨rfl, rfl, rfl⟩ rfl (.inl ⟨rfl, rfl⟩) (.inl rfl)
theorem td182 : TDOK Tryz.prog 182 ⟨.func, 1, 8, [.nilf], none, none, false⟩ := tdok_of (info_of Tryz.type182) rfl ⟨_, _, _, Tryz.underlying182⟩ ⟨rfl, rfl, rfl⟩ rfl (.inl ⟨rfl, rfl⟩) (.inl rfl)
theorem td183 : TDOK Tryz.prog 183 ⟨.struct [(0, 9), (1, 82)], 2, 24, [.s ByteArray.empty, .i .u8 0], some (.pair .str (.int .u8)), none, false⟩ := tdok_of (info_of Tryz.type183) rfl ⟨_, Tryz.underlying183, rfl⟩ ⟨rfl, rfl, rfl⟩ rfl (.inl ⟨rfl, rfl⟩) (.inr ⟨_, rfl, rfl, by decide, rfl⟩)
theorem td184 : TDOK Tryz.prog 184 ⟨.struct [(0, 9), (1, 82)], 2, 24, [.s ByteArray.empty, .i .u8 0], some (.pair .str (.int .u8)), none, false⟩ := tdok_of (info_of Tryz.type184) rfl ⟨_, Tryz.underlying184, rfl⟩ ⟨rfl, rfl, rfl⟩ rfl (.inl ⟨rfl, rfl⟩) (.inr ⟨_, rfl, rfl, by decide, rfl⟩)
theorem td185 : TDOK Tryz.prog 185 ⟨.ptr 189, 1, 8, [.nilp], none, none, false⟩ := tdok_of (info_of Tryz.type185) rfl Tryz.underlying185 ⟨rfl, rfl, rfl⟩ rfl (.inl ⟨rfl, rfl⟩) (.inl rfl)
theorem td186 : TDOK Tryz.prog 186 ⟨.func, 1, 8, [.nilf], none, none, false⟩ := tdok_of (info_of Tryz.type186) rfl ⟨_, _, _, Tryz.underlying186⟩ ⟨rfl, rfl, rfl⟩ rfl (.inl ⟨rfl, rfl⟩) (.inl rfl)
theorem td187 : TDOK Tryz.prog 187 ⟨.int .u16, 1, 2, [.i .u16 0], some (.int .u16), none, false⟩ := tdok_of (info_of Tryz.type187) rfl Tryz.underlying187 ⟨rfl, rfl, rfl⟩ rfl (.inl ⟨rfl, rfl⟩) (.inr ⟨_, rfl, rfl, by decide, rfl⟩)
theorem td188 : TDOK Tryz.prog 188 ⟨.struct [(0, 177), (1, 187), (2, 187), (3, 140), (4, 140)], 5, 16, [.i .i32 0, .i .u16 0, .i .u16 0, .i .u32 0, .i .u32 0], some (.pair (.int .i32) (.pair (.int .u16) (.pair (.int .u16) (.pair (.int .u32) (.int .u32))))), none, false⟩ := tdok_of (info_of Tryz.type188) rfl ⟨_, Tryz.underlying188, rfl⟩ ⟨rfl, rfl, rfl⟩ rfl (.inl ⟨rfl, rfl⟩) (.inr ⟨_, rfl, rfl, by decide, rfl⟩)
theorem td189 : TDOK Tryz.prog 189 ⟨.struct [(0, 177), (1, 187), (2, 187), (3, 140), (4, 140)], 5, 16, [.i .i32 0, .i .u16 0, .i .u16 0, .i .u32 0, .i .u32 0], some (.pair (.int .i32) (.pair (.int .u16) (.pair (.int .u16) (.pair (.int .u32) (.int .u32))))), none, false⟩ := tdok_of (info_of Tryz.type189) rfl ⟨_, Tryz.underlying189, rfl⟩ ⟨rfl, rfl, rfl⟩ rfl (.inl ⟨rfl, rfl⟩) (.inr ⟨_, rfl, rfl, by decide, rfl⟩)
theorem td190 : TDOK Tryz.prog 190 ⟨.slice 193, 1, 24, [.nils], none, none, false⟩ := tdok_of (info_of Tryz.type190) rfl Tryz.underlying190 ⟨rfl, rfl, rfl⟩ rfl (.inl ⟨rfl, rfl⟩) (.inl rfl)
theorem td191 : TDOK Tryz.prog 191 ⟨.int .i32, 1, 4, [.i .i32 0], some (.int .i32), none, false⟩ := tdok_of (info_of Tryz.type191) rfl Tryz.underlying191 ⟨rfl, rfl, rfl⟩ rfl (.inl ⟨rfl, rfl⟩) (.inr ⟨_, rfl, rfl, by decide, rfl⟩)
theorem td192 : TDOK Tryz.prog 192 ⟨.struct [(0, 177), (1, 178), (2, 191), (3, 191)], 4, 16, [.i .i32 0, .i .i32 0, .i .i32 0, .i .i32 0], some (.pair (.int .i32) (.pair (.int .i32) (.pair (.int .i32) (.int .i32)))), none, false⟩ := tdok_of (info_of Tryz.type192) rfl ⟨_, Tryz.underlying192, rfl⟩ ⟨rfl, rfl, rfl⟩ rfl (.inl ⟨rfl, rfl⟩) (.inr ⟨_, rfl, rfl, by decide, rfl⟩)
theorem td193 : TDOK Tryz.prog 193 ⟨.struct [(0, 177), (1, 178), (2, 191), (3, 191)], 4, 16, [.i .i32 0, .i .i32 0, .i .i32 0, .i .i32 0], some (.pair (.int .i32) (.pair (.int .i32) (.pair (.int .i32) (.int .i32)))), none, false⟩ := tdok_of (info_of Tryz.type193) rfl ⟨_, Tryz.underlying193, rfl⟩ ⟨rfl, rfl, rfl⟩ rfl (.inl ⟨rfl, rfl⟩) (.inr ⟨_, rfl, rfl, by decide, rfl⟩)
theorem td194 : TDOK Tryz.prog 194 ⟨.ptr 37, 1, 8, [.nilp], none, none, false⟩ := tdok_of (info_of Tryz.type194) rfl Tryz.underlying194 ⟨rfl, rfl, rfl⟩ rfl (.inl ⟨rfl, rfl⟩) (.inl rfl)
def tds : List (Nat × TD) := [
  (1, ⟨.func, 1, 8, [.nilf], none, none, false⟩),
  (2, ⟨.int .i64, 1, 8, [.i .i64 0], some (.int .i64), none, false⟩),
  (3, ⟨.int .i64, 1, 8, [.i .i64 0], some (.int .i64), none, false⟩),
  (4, ⟨.bool, 1, 1, [.b false], some .bool, none, false⟩),
  (5, ⟨.int .u8, 1, 1, [.i .u8 0], some (.int .u8), none, false⟩),
  (6, ⟨.int .u8, 1, 1, [.i .u8 0], some (.int .u8), none, false⟩),
  (7, ⟨.struct [(0, 2), (1, 3), (2, 4), (3, 6)], 4, 24, [.i .i64 0, .i .i64 0, .b false, .i .u8 0], some (.pair (.int .i64) (.pair (.int .i64) (.pair .bool (.int .u8)))), none, false⟩),
  (8, ⟨.struct [(0, 2), (1, 3), (2, 4), (3, 6)], 4, 24, [.i .i64 0, .i .i64 0, .b false, .i .u8 0], some (.pair (.int .i64) (.pair (.int .i64) (.pair .bool (.int .u8)))), none, false⟩),
  (9, ⟨.str, 1, 16, [.s ByteArray.empty], some .str, none, false⟩),
  (10, ⟨.str, 1, 16, [.s ByteArray.empty], some .str, none, false⟩),
  (11, ⟨.str, 1, 16, [.s ByteArray.empty], some .str, none, false⟩),
  (12, ⟨.int .u64, 1, 8, [.i .u64 0], some (.int .u64), none, false⟩),
  (13, ⟨.struct [(0, 9), (1, 12)], 2, 24, [.s ByteArray.empty, .i .u64 0], some (.pair .str (.int .u64)), none, false⟩),
  (14, ⟨.struct [(0, 9), (1, 12)], 2, 24, [.s ByteArray.empty, .i .u64 0], some (.pair .str (.int .u64)), none, false⟩),
  (15, ⟨.ptr 170, 1, 8, [.nilp], none, none, false⟩),
  (16, ⟨.ptr 173, 1, 8, [.nilp], none, none, false⟩),
  (17, ⟨.ptr 180, 1, 8, [.nilp], none, none, false⟩),
  (18, ⟨.struct [(0, 17)], 1, 8, [.nilp], none, none, false⟩),
  (19, ⟨.struct [(0, 17)], 1, 8, [.nilp], none, none, false⟩),
  (20, ⟨.iface, 1, 16, [.nili], none, none, false⟩),
  (21, ⟨.int .i32, 1, 4, [.i .i32 0], some (.int .i32), none, false⟩),
  (22, ⟨.func, 1, 8, [.nilf], none, none, false⟩),
  (23, ⟨.struct [(0, 9), (1, 3), (2, 3), (3, 3)], 4, 40, [.s ByteArray.empty, .i .i64 0, .i .i64 0, .i .i64 0], some (.pair .str (.pair (.int .i64) (.pair (.int .i64) (.int .i64)))), none, false⟩),
  (24, ⟨.struct [(0, 9), (1, 3), (2, 3), (3, 3)], 4, 40, [.s ByteArray.empty, .i .i64 0, .i .i64 0, .i .i64 0], some (.pair .str (.pair (.int .i64) (.pair (.int .i64) (.int .i64)))), none, true⟩),
  (25, ⟨.int .i64, 1, 8, [.i .i64 0], some (.int .i64), none, false⟩),
  (27, ⟨.func, 1, 8, [.nilf], none, none, false⟩),
  (28, ⟨.func, 1, 8, [.nilf], none, none, false⟩),
  (30, ⟨.func, 1, 8, [.nilf], none, none, false⟩),
  (31, ⟨.func, 1, 8, [.nilf], none, none, false⟩),
  (32, ⟨.func, 1, 8, [.nilf], none, none, false⟩),
  (33, ⟨.slice 9, 1, 24, [.nils], none, none, false⟩),
  (34, ⟨.func, 1, 8, [.nilf], none, none, false⟩),
  (35, ⟨.func, 1, 8, [.nilf], none, none, false⟩),
  (36, ⟨.iface, 1, 16, [.nili], none, none, false⟩),
  (37, ⟨.iface, 1, 16, [.nili], none, none, false⟩),
  (39, ⟨.func, 1, 8, [.nilf], none, none, false⟩),
  (40, ⟨.int .i64, 1, 8, [.i .i64 0], some (.int .i64), none, false⟩),
  (41, ⟨.func, 1, 8, [.nilf], none, none, false⟩),
  (42, ⟨.ptr 40, 1, 8, [.nilp], none, none, false⟩),
  (44, ⟨.func, 1, 8, [.nilf], none, none, false⟩),
  (46, ⟨.func, 1, 8, [.nilf], none, none, false⟩),
  (47, ⟨.func, 1, 8, [.nilf], none, none, false⟩),
  (48, ⟨.func, 1, 8, [.nilf], none, none, false⟩),
  (49, ⟨.func, 1, 8, [.nilf], none, none, false⟩),
  (50, ⟨.slice 5, 1, 24, [.nils], none, none, false⟩),
  (51, ⟨.ptr 53, 1, 8, [.nilp], none, none, false⟩),
  (52, ⟨.struct [(0, 51), (1, 50)], 2, 32, [.nilp, .nils], none, none, false⟩),
  (53, ⟨.struct [(0, 51), (1, 50)], 2, 32, [.nilp, .nils], none, none, false⟩),
  (54, ⟨.func, 1, 8, [.nilf], none, none, false⟩),
  (55, ⟨.func, 1, 8, [.nilf], none, none, false⟩),
  (57, ⟨.func, 1, 8, [.nilf], none, none, false⟩),
  (58, ⟨.func, 1, 8, [.nilf], none, none, false⟩),
  (59, ⟨.func, 1, 8, [.nilf], none, none, false⟩),
  (60, ⟨.func, 1, 8, [.nilf], none, none, false⟩),
  (61, ⟨.func, 1, 8, [.nilf], none, none, false⟩),
  (62, ⟨.func, 1, 8, [.nilf], none, none, false⟩),
  (63, ⟨.func, 1, 8, [.nilf], none, none, false⟩),
  (64, ⟨.slice 3, 1, 24, [.nils], none, none, false⟩),
  (65, ⟨.func, 1, 8, [.nilf], none, none, false⟩),
  (66, ⟨.func, 1, 8, [.nilf], none, none, false⟩),
  (67, ⟨.func, 1, 8, [.nilf], none, none, false⟩),
  (68, ⟨.func, 1, 8, [.nilf], none, none, false⟩),
  (69, ⟨.func, 1, 8, [.nilf], none, none, false⟩),
  (70, ⟨.struct [(0, 3), (1, 37)], 2, 24, [.i .i64 0, .nili], none, none, false⟩),
  (71, ⟨.struct [(0, 3), (1, 37)], 2, 24, [.i .i64 0, .nili], none, none, false⟩),
  (72, ⟨.func, 1, 8, [.nilf], none, none, false⟩),
  (73, ⟨.func, 1, 8, [.nilf], none, none, false⟩),
  (75, ⟨.int .u64, 1, 8, [.i .u64 0], some (.int .u64), none, false⟩),
  (76, ⟨.struct [(0, 17), (1, 74), (2, 75)], 3, 24, [.nilp, .nilp, .i .u64 0], none, none, false⟩),
  (77, ⟨.struct [(0, 17), (1, 74), (2, 75)], 3, 24, [.nilp, .nilp, .i .u64 0], none, none, false⟩),
  (78, ⟨.func, 1, 8, [.nilf], none, none, false⟩),
  (79, ⟨.iface, 1, 16, [.nili], none, none, false⟩),
  (80, ⟨.iface, 1, 16, [.nili], none, none, false⟩),
  (81, ⟨.func, 1, 8, [.nilf], none, none, false⟩),
  (82, ⟨.int .u8, 1, 1, [.i .u8 0], some (.int .u8), none, false⟩),
  (83, ⟨.func, 1, 8, [.nilf], none, none, false⟩),
  (84, ⟨.func, 1, 8, [.nilf], none, none, false⟩),
  (85, ⟨.func, 1, 8, [.nilf], none, none, false⟩),
  (86, ⟨.arr 256 3, 256, 2048, [], none, some ((.int .i64), 256), false⟩),
  (87, ⟨.func, 1, 8, [.nilf], none, none, false⟩),
  (88, ⟨.ptr 5, 1, 8, [.nilp], none, none, false⟩),
  (89, ⟨.func, 1, 8, [.nilf], none, none, false⟩),
  (90, ⟨.func, 1, 8, [.nilf], none, none, false⟩),
  (91, ⟨.func, 1, 8, [.nilf], none, none, false⟩),
  (92, ⟨.func, 1, 8, [.nilf], none, none, false⟩),
  (93, ⟨.func, 1, 8, [.nilf], none, none, false⟩),
  (94, ⟨.struct [(0, 17)], 1, 8, [.nilp], none, none, false⟩),
  (95, ⟨.struct [(0, 17)], 1, 8, [.nilp], none, none, false⟩),
  (96, ⟨.ptr 184, 1, 8, [.nilp], none, none, false⟩),
  (97, ⟨.func, 1, 8, [.nilf], none, none, false⟩),
  (98, ⟨.func, 1, 8, [.nilf], none, none, false⟩),
  (99, ⟨.func, 1, 8, [.nilf], none, none, false⟩),
  (100, ⟨.iface, 1, 16, [.nili], none, none, false⟩),
  (102, ⟨.func, 1, 8, [.nilf], none, none, false⟩),
  (103, ⟨.iface, 1, 16, [.nili], none, none, false⟩),
  (104, ⟨.func, 1, 8, [.nilf], none, none, false⟩),
  (105, ⟨.iface, 1, 16, [.nili], none, none, false⟩),
  (106, ⟨.slice 37, 1, 24, [.nils], none, none, false⟩),
  (107, ⟨.func, 1, 8, [.nilf], none, none, false⟩),
  (108, ⟨.func, 1, 8, [.nilf], none, none, false⟩),
  (109, ⟨.func, 1, 8, [.nilf], none, none, false⟩),
  (110, ⟨.struct [(0, 3), (1, 3)], 2, 16, [.i .i64 0, .i .i64 0], some (.pair (.int .i64) (.int .i64)), none, false⟩),
  (111, ⟨.struct [(0, 3), (1, 3)], 2, 16, [.i .i64 0, .i .i64 0], some (.pair (.int .i64) (.int .i64)), none, true⟩),
  (113, ⟨.func, 1, 8, [.nilf], none, none, false⟩),
  (114, ⟨.func, 1, 8, [.nilf], none, none, false⟩),
  (115, ⟨.arr 4 114, 4, 32, [.nilf, .nilf, .nilf, .nilf], none, none, false⟩),
  (116, ⟨.func, 1, 8, [.nilf], none, none, false⟩),
  (117, ⟨.func, 1, 8, [.nilf], none, none, false⟩),
  (118, ⟨.func, 1, 8, [.nilf], none, none, false⟩),
  (119, ⟨.func, 1, 8, [.nilf], none, none, false⟩),
  (120, ⟨.func, 1, 8, [.nilf], none, none, false⟩),
  (121, ⟨.int .u64, 1, 8, [.i .u64 0], some (.int .u64), none, false⟩),
  (122, ⟨.func, 1, 8, [.nilf], none, none, false⟩),
  (123, ⟨.func, 1, 8, [.nilf], none, none, false⟩),
  (124, ⟨.arr 24 5, 24, 24, [], none, some ((.int .u8), 24), false⟩),
  (125, ⟨.int .u64, 1, 8, [.i .u64 0], some (.int .u64), none, false⟩),
  (126, ⟨.func, 1, 8, [.nilf], none, none, false⟩),
  (127, ⟨.func, 1, 8, [.nilf], none, none, false⟩),
  (129, ⟨.func, 1, 8, [.nilf], none, none, false⟩),
  (130, ⟨.func, 1, 8, [.nilf], none, none, false⟩),
  (131, ⟨.func, 1, 8, [.nilf], none, none, false⟩),
  (133, ⟨.func, 1, 8, [.nilf], none, none, false⟩),
  (134, ⟨.int .i64, 1, 8, [.i .i64 0], some (.int .i64), none, false⟩),
  (136, ⟨.func, 1, 8, [.nilf], none, none, false⟩),
  (137, ⟨.ptr 154, 1, 8, [.nilp], none, none, false⟩),
  (138, ⟨.func, 1, 8, [.nilf], none, none, false⟩),
  (139, ⟨.func, 1, 8, [.nilf], none, none, false⟩),
  (140, ⟨.int .u32, 1, 4, [.i .u32 0], some (.int .u32), none, false⟩),
  (142, ⟨.func, 1, 8, [.nilf], none, none, false⟩),
  (144, ⟨.func, 1, 8, [.nilf], none, none, false⟩),
  (145, ⟨.func, 1, 8, [.nilf], none, none, false⟩),
  (146, ⟨.arr 20 125, 20, 160, [], none, some ((.int .u64), 20), false⟩),
  (147, ⟨.arr 65 5, 65, 65, [], none, some ((.int .u8), 65), false⟩),
  (148, ⟨.func, 1, 8, [.nilf], none, none, false⟩),
  (149, ⟨.func, 1, 8, [.nilf], none, none, false⟩),
  (151, ⟨.func, 1, 8, [.nilf], none, none, false⟩),
  (152, ⟨.func, 1, 8, [.nilf], none, none, false⟩),
  (153, ⟨.struct [(0, 9), (1, 9), (2, 37)], 3, 48, [.s ByteArray.empty, .s ByteArray.empty, .nili], none, none, false⟩),
  (154, ⟨.struct [(0, 9), (1, 9), (2, 37)], 3, 48, [.s ByteArray.empty, .s ByteArray.empty, .nili], none, none, false⟩),
  (155, ⟨.func, 1, 8, [.nilf], none, none, false⟩),
  (156, ⟨.func, 1, 8, [.nilf], none, none, false⟩),
  (158, ⟨.func, 1, 8, [.nilf], none, none, false⟩),
  (159, ⟨.func, 1, 8, [.nilf], none, none, false⟩),
  (160, ⟨.arr 256 5, 256, 256, [], none, some ((.int .u8), 256), false⟩),
  (161, ⟨.struct [(0, 5), (1, 5)], 2, 2, [.i .u8 0, .i .u8 0], some (.pair (.int .u8) (.int .u8)), none, false⟩),
  (162, ⟨.struct [(0, 5), (1, 5)], 2, 2, [.i .u8 0, .i .u8 0], some (.pair (.int .u8) (.int .u8)), none, false⟩),
  (163, ⟨.arr 16 162, 32, 32, [.i .u8 0, .i .u8 0, .i .u8 0, .i .u8 0, .i .u8 0, .i .u8 0, .i .u8 0, .i .u8 0, .i .u8 0, .i .u8 0, .i .u8 0, .i .u8 0, .i .u8 0, .i .u8 0, .i .u8 0, .i .u8 0, .i .u8 0, .i .u8 0, .i .u8 0, .i .u8 0, .i .u8 0, .i .u8 0, .i .u8 0, .i .u8 0, .i .u8 0, .i .u8 0, .i .u8 0, .i .u8 0, .i .u8 0, .i .u8 0, .i .u8 0, .i .u8 0], some (.pair (.pair (.int .u8) (.int .u8)) (.pair (.pair (.int .u8) (.int .u8)) (.pair (.pair (.int .u8) (.int .u8)) (.pair (.pair (.int .u8) (.int .u8)) (.pair (.pair (.int .u8) (.int .u8)) (.pair (.pair (.int .u8) (.int .u8)) (.pair (.pair (.int .u8) (.int .u8)) (.pair (.pair (.int .u8) (.int .u8)) (.pair (.pair (.int .u8) (.int .u8)) (.pair (.pair (.int .u8) (.int .u8)) (.pair (.pair (.int .u8) (.int .u8)) (.pair (.pair (.int .u8) (.int .u8)) (.pair (.pair (.int .u8) (.int .u8)) (.pair (.pair (.int .u8) (.int .u8)) (.pair (.pair (.int .u8) (.int .u8)) (.pair (.int .u8) (.int .u8))))))))))))))))), none, false⟩),
  (164, ⟨.ptr 166, 1, 8, [.nilp], none, none, false⟩),
  (165, ⟨.struct [(0, 9)], 1, 16, [.s ByteArray.empty], some .str, none, false⟩),
  (166, ⟨.struct [(0, 9)], 1, 16, [.s ByteArray.empty], some .str, none, false⟩),
  (167, ⟨.arr 32 5, 32, 32, [], none, some ((.int .u8), 32), false⟩),
  (168, ⟨.arr 64 5, 64, 64, [], none, some ((.int .u8), 64), false⟩),
  (169, ⟨.struct [(0, 17), (1, 17), (2, 17), (3, 9)], 4, 40, [.nilp, .nilp, .nilp, .s ByteArray.empty], none, none, false⟩),
  (170, ⟨.struct [(0, 17), (1, 17), (2, 17), (3, 9)], 4, 40, [.nilp, .nilp, .nilp, .s ByteArray.empty], none, none, false⟩),
  (171, ⟨.arr 0 16, 0, 0, [], none, none, false⟩),
  (172, ⟨.struct [(0, 171)], 0, 0, [], none, none, false⟩),
  (173, ⟨.struct [(0, 171)], 0, 0, [], none, none, false⟩),
  (174, ⟨.func, 1, 8, [.nilf], none, none, false⟩),
  (175, ⟨.int .u8, 1, 1, [.i .u8 0], some (.int .u8), none, false⟩),
  (176, ⟨.func, 1, 8, [.nilf], none, none, false⟩),
  (177, ⟨.int .i32, 1, 4, [.i .i32 0], some (.int .i32), none, false⟩),
  (178, ⟨.int .i32, 1, 4, [.i .i32 0], some (.int .i32), none, false⟩),
  (179, ⟨.struct [(0, 12), (1, 12), (2, 140), (3, 175), (4, 5), (5, 5), (6, 82), (7, 176), (8, 88), (9, 177), (10, 178)], 11, 48, [.i .u64 0, .i .u64 0, .i .u32 0, .i .u8 0, .i .u8 0, .i .u8 0, .i .u8 0, .nilf, .nilp, .i .i32 0, .i .i32 0], none, none, false⟩),
  (180, ⟨.struct [(0, 12), (1, 12), (2, 140), (3, 175), (4, 5), (5, 5), (6, 82), (7, 176), (8, 88), (9, 177), (10, 178)], 11, 48, [.i .u64 0, .i .u64 0, .i .u32 0, .i .u8 0, .i .u8 0, .i .u8 0, .i .u8 0, .nilf, .nilp, .i .i32 0, .i .i32 0], none, none, false⟩),
  (181, ⟨.func, 1, 8, [.nilf], none, none, false⟩),
  (182, ⟨.func, 1, 8, [.nilf], none, none, false⟩),
  (183, ⟨.struct [(0, 9), (1, 82)], 2, 24, [.s ByteArray.empty, .i .u8 0], some (.pair .str (.int .u8)), none, false⟩),
  (184, ⟨.struct [(0, 9), (1, 82)], 2, 24, [.s ByteArray.empty, .i .u8 0], some (.pair .str (.int .u8)), none, false⟩),
  (185, ⟨.ptr 189, 1, 8, [.nilp], none, none, false⟩),
  (186, ⟨.func, 1, 8, [.nilf], none, none, false⟩),
  (187, ⟨.int .u16, 1, 2, [.i .u16 0], some (.int .u16), none, false⟩),
  (188, ⟨.struct [(0, 177), (1, 187), (2, 187), (3, 140), (4, 140)], 5, 16, [.i .i32 0, .i .u16 0, .i .u16 0, .i .u32 0, .i .u32 0], some (.pair (.int .i32) (.pair (.int .u16) (.pair (.int .u16) (.pair (.int .u32) (.int .u32))))), none, false⟩),
  (189, ⟨.struct [(0, 177), (1, 187), (2, 187), (3, 140), (4, 140)], 5, 16, [.i .i32 0, .i .u16 0, .i .u16 0, .i .u32 0, .i .u32 0], some (.pair (.int .i32) (.pair (.int .u16) (.pair (.int .u16) (.pair (.int .u32) (.int .u32))))), none, false⟩),
  (190, ⟨.slice 193, 1, 24, [.nils], none, none, false⟩),
  (191, ⟨.int .i32, 1, 4, [.i .i32 0], some (.int .i32), none, false⟩),
  (192, ⟨.struct [(0, 177), (1, 178), (2, 191), (3, 191)], 4, 16, [.i .i32 0, .i .i32 0, .i .i32 0, .i .i32 0], some (.pair (.int .i32) (.pair (.int .i32) (.pair (.int .i32) (.int .i32)))), none, false⟩),
  (193, ⟨.struct [(0, 177), (1, 178), (2, 191), (3, 191)], 4, 16, [.i .i32 0, .i .i32 0, .i .i32 0, .i .i32 0], some (.pair (.int .i32) (.pair (.int .i32) (.pair (.int .i32) (.int .i32)))), none, false⟩),
  (194, ⟨.ptr 37, 1, 8, [.nilp], none, none, false⟩)]
abbrev TT : TypeId → Option TD := tabT tds
theorem tabT_nil {P : Program} : TTOK P (tabT []) := fun t d h => by cases h
theorem tabT_cons {P : Program} {n : Nat} {d : TD} {l : List (Nat × TD)} (h : TDOK P n d) (hl : TTOK P (tabT l)) : TTOK P (tabT ((n, d) :: l)) := by
  intro t d' h'
  simp only [tabT] at h'
  split at h'
  · rename_i hb
    cases h'
    have := Nat.eq_of_beq_eq_true hb
    subst this; exact h
  · exact hl t d' h'
set_option maxRecDepth 20000 in
theorem tt_ok : TTOK Tryz.prog TT := tabT_cons td1
  (tabT_cons td2
  (tabT_cons td3
  (tabT_cons td4
  (tabT_cons td5
  (tabT_cons td6
  (tabT_cons td7
  (tabT_cons td8
  (tabT_cons td9
  (tabT_cons td10
  (tabT_cons td11
  (tabT_cons td12
  (tabT_cons td13
  (tabT_cons td14
  (tabT_cons td15
  (tabT_cons td16
  (tabT_cons td17
  (tabT_cons td18
  (tabT_cons td19
  (tabT_cons td20
  (tabT_cons td21
  (tabT_cons td22
  (tabT_cons td23
  (tabT_cons td24
  (tabT_cons td25
  (tabT_cons td27
  (tabT_cons td28
  (tabT_cons td30
  (tabT_cons td31
  (tabT_cons td32
  (tabT_cons td33
  (tabT_cons td34
  (tabT_cons td35
  (tabT_cons td36
  (tabT_cons td37
  (tabT_cons td39
  (tabT_cons td40
  (tabT_cons td41
  (tabT_cons td42
  (tabT_cons td44
  (tabT_cons td46
  (tabT_cons td47
  (tabT_cons td48
  (tabT_cons td49
  (tabT_cons td50
  (tabT_cons td51
  (tabT_cons td52
  (tabT_cons td53
  (tabT_cons td54
  (tabT_cons td55
  (tabT_cons td57
  (tabT_cons td58
  (tabT_cons td59
  (tabT_cons td60
  (tabT_cons td61
  (tabT_cons td62
  (tabT_cons td63
  (tabT_cons td64
  (tabT_cons td65
  (tabT_cons td66
  (tabT_cons td67
  (tabT_cons td68
  (tabT_cons td69
  (tabT_cons td70
  (tabT_cons td71
  (tabT_cons td72
  (tabT_cons td73
  (tabT_cons td75
  (tabT_cons td76
  (tabT_cons td77
  (tabT_cons td78
  (tabT_cons td79
  (tabT_cons td80
  (tabT_cons td81
  (tabT_cons td82
  (tabT_cons td83
  (tabT_cons td84
  (tabT_cons td85
  (tabT_cons td86
  (tabT_cons td87
  (tabT_cons td88
  (tabT_cons td89
  (tabT_cons td90
  (tabT_cons td91
  (tabT_cons td92
  (tabT_cons td93
  (tabT_cons td94
  (tabT_cons td95
  (tabT_cons td96
  (tabT_cons td97
  (tabT_cons td98
  (tabT_cons td99
  (tabT_cons td100
  (tabT_cons td102
  (tabT_cons td103
  (tabT_cons td104
  (tabT_cons td105
  (tabT_cons td106
  (tabT_cons td107
  (tabT_cons td108
  (tabT_cons td109
  (tabT_cons td110
  (tabT_cons td111
  (tabT_cons td113
  (tabT_cons td114
  (tabT_cons td115
  (tabT_cons td116
  (tabT_cons td117
  (tabT_cons td118
  (tabT_cons td119
  (tabT_cons td120
  (tabT_cons td121
  (tabT_cons td122
  (tabT_cons td123
  (tabT_cons td124
  (tabT_cons td125
  (tabT_cons td126
  (tabT_cons td127
  (tabT_cons td129
  (tabT_cons td130
  (tabT_cons td131
  (tabT_cons td133
  (tabT_cons td134
  (tabT_cons td136
  (tabT_cons td137
  (tabT_cons td138
  (tabT_cons td139
  (tabT_cons td140
  (tabT_cons td142
  (tabT_cons td144
  (tabT_cons td145
  (tabT_cons td146
  (tabT_cons td147
  (tabT_cons td148
  (tabT_cons td149
  (tabT_cons td151
  (tabT_cons td152
  (tabT_cons td153
  (tabT_cons td154
  (tabT_cons td155
  (tabT_cons td156
  (tabT_cons td158
  (tabT_cons td159
  (tabT_cons td160
  (tabT_cons td161
  (tabT_cons td162
  (tabT_cons td163
  (tabT_cons td164
  (tabT_cons td165
  (tabT_cons td166
  (tabT_cons td167
  (tabT_cons td168
  (tabT_cons td169
  (tabT_cons td170
  (tabT_cons td171
  (tabT_cons td172
  (tabT_cons td173
  (tabT_cons td174
  (tabT_cons td175
  (tabT_cons td176
  (tabT_cons td177
  (tabT_cons td178
  (tabT_cons td179
  (tabT_cons td180
  (tabT_cons td181
  (tabT_cons td182
  (tabT_cons td183
  (tabT_cons td184
  (tabT_cons td185
  (tabT_cons td186
  (tabT_cons td187
  (tabT_cons td188
  (tabT_cons td189
  (tabT_cons td190
  (tabT_cons td191
  (tabT_cons td192
  (tabT_cons td193
  (tabT_cons td194 tabT_nil)))))))))))))))))))))))))))))))))))))))))))))))))))))))))))))))))))))))))))))))))))))))))))))))))))))))))))))))))))))))))))))))))))))))))))))))))))))))))))))))))))))))))))))))))
structure Globs (w : World) : Prop where
  mlen : ∃ m, w.cell? ⟨1, 0, none⟩ = some (.int .i64 m)
  pow : Lib.TabIs Tryz.prog w "internal/strconv.uint64pow10" .u64 Lib.pow10Tab
  syn : ∃ tp p, w.var? Tryz.prog "strconv.ErrSyntax" = some #[.iface tp p]
  rng : ∃ tp p, w.var? Tryz.prog "strconv.ErrRange" = some #[.iface tp p]
  ety : w.cell? ⟨0, 0, none⟩ = some (.iface 95 (.agg #[.pointer (some ⟨9, 37, none⟩)]))
theorem gn_pow : Tryz.prog.globalNamed "internal/strconv.uint64pow10" = some 2 := by kernel_rfl
theorem gn_syn : Tryz.prog.globalNamed "strconv.ErrSyntax" = some 3 := by kernel_rfl
theorem gn_rng : Tryz.prog.globalNamed "strconv.ErrRange" = some 4 := by kernel_rfl
theorem var_same {w w' : World} {n : String} {g : Nat} (hn : Tryz.prog.globalNamed n = some g) (h : w'.heap[g]? = w.heap[g]?) : w'.var? Tryz.prog n = w.var? Tryz.prog n := by
  unfold World.var?
  rw [hn]
  simp only [Option.bind_some, h]
theorem Globs.same {w w' : World} (h : Globs w) (hb : ∀ k, k < 9 → w'.heap[k]? = w.heap[k]?) : Globs w' := by
  obtain ⟨h1, h2, h3, h4, h5⟩ := h
  refine ⟨?_, ?_, ?_, ?_, ?_⟩
  · obtain ⟨m, hm⟩ := h1; exact ⟨m, (World.cell?_of_block (hb _ (by decide))).trans hm⟩
  · unfold Lib.TabIs at h2 ⊢; rw [var_same gn_pow (hb _ (by decide))]; exact h2
  · obtain ⟨a, b, h⟩ := h3; exact ⟨a, b, (var_same gn_syn (hb _ (by decide))).trans h⟩
  · obtain ⟨a, b, h⟩ := h4; exact ⟨a, b, (var_same gn_rng (hb _ (by decide))).trans h⟩
  · exact (World.cell?_of_block (hb _ (by decide))).trans h5
structure Hyp (G : Nat → World → Prop) : Prop where
  seat : Seat Tryz.prog G TT
  tab : ∀ g0 w, G g0 w → TabAt (Tryz.laysT29_ren.g 1) Lib.deBruijn64tab w
  glob : ∀ g0 w, G g0 w → Globs w
end Go.X

namespace Go.X
open Go Go.Proofs Go.RowKit

set_option maxHeartbeats 4000000 in
set_option maxRecDepth 100000 in
theorem cc_fresh (b : Nat) (w : World) (h0 : w.cell? ⟨b, 0, none⟩ = some (.pointer none)) (hsh : w.shape? b = some (53, 2)) (hfz : w.frozen? ⟨b, 0, none⟩ = false) :
    Calls Tryz.prog 53 #[.pointer (some ⟨b, 0, none⟩)] w fun e w' => e = .returned (.tuple #[]) ∧ w' = w.setCell ⟨b, 0, none⟩ (.pointer (some ⟨b, 0, none⟩)) := by
  go_enter Tryz.func53, Tryz.ntmps53
  go_wp2
  rw [Lib.run_to_unsafe w ⟨b, 0, none⟩ Tryz.underlying51 Tryz.underlying74 (info_of Tryz.type53) (by decide) hsh (Nat.zero_lt_succ 1)]
  simp only [Result.andThen]
  rw [Oper.upon_value]
  go_wp2
  rw [run_callFunc_extern Tryz.func80 (by kernel_rfl) (by kernel_rfl) (by kernel_rfl) (e := Extern.AbiNoEscape.same) (by kernel_rfl)]
  rw [Lib.run_noEscape]
  simp only [Result.andThen]
  rw [Oper.upon_value]
  go_wp2
  rw [Lib.run_from_unsafe w ⟨b, 0, none⟩ Tryz.underlying74 Tryz.underlying51 (info_of Tryz.type53) hsh (by kernel_rfl)]
  simp only [Result.andThen]
  rw [Oper.upon_value]
  go_wp2
  go_end0
  exact ⟨rfl, rfl⟩
set_option maxHeartbeats 4000000 in
set_option maxRecDepth 100000 in
theorem cc_used (b : Nat) (w : World) (h0 : w.cell? ⟨b, 0, none⟩ = some (.pointer (some ⟨b, 0, none⟩))) :
    Calls Tryz.prog 53 #[.pointer (some ⟨b, 0, none⟩)] w fun e w' => e = .returned (.tuple #[]) ∧ w' = w := by
  go_enter Tryz.func53, Tryz.ntmps53
  go_wp2
  rw [Lib.run_neq_ptr_same w _ Tryz.underlying51 (info_of Tryz.type53)]
  go_wp2
  go_end0
  exact ⟨rfl, rfl⟩
theorem setCell_self {b : Nat} {p v : Value} {T : TypeId} {w : World} (hb : w.heap[b]? = some (.cells #[p, v] T (0, 0))) : w.setCell ⟨b, 0, none⟩ p = w := by
  obtain ⟨heap, tape, drawn, os, output⟩ := w
  have hb' : heap[b]? = some (.cells #[p, v] T (0, 0)) := hb
  unfold World.setCell
  congr 1
  apply Array.ext_getElem?
  intro k
  rw [Array.getElem?_modify]
  by_cases hk : b = k
  · subst hk
    rw [if_pos rfl]
    show Option.map _ heap[b]? = heap[b]?
    rw [hb']; rfl
  · rw [if_neg hk]
theorem cc_law : CcLaw Tryz.prog 53 53 := by
  intro b p v w hb hp
  have c0 : w.cell? ⟨b, 0, none⟩ = some p := by rw [Lib.cell_of_heap hb]; rfl
  have hfz : w.frozen? ⟨b, 0, none⟩ = false := Lib.frozen_of_heap hb 0
  have hst : p.oneCell' = true → (storeCells ⟨b, 0, none⟩ [.pointer (some ⟨b, 0, none⟩)]).run Tryz.prog w = .ok () (w.setCell ⟨b, 0, none⟩ (.pointer (some ⟨b, 0, none⟩))) := fun _ => by
    have := run_storeCells_cells (P := Tryz.prog) b 0 [.pointer (some ⟨b, 0, none⟩)] 0 w (fun j hj => by
      obtain rfl : j = 0 := by simpa using hj
      rw [show (0 + 0 + 0 : Nat) = 0 from rfl, c0]; rfl) (fun j hj => by
      obtain rfl : j = 0 := by simpa using hj
      exact hfz) (fun v hv => by rcases List.mem_singleton.1 hv with rfl; rfl)
    exact this
  rcases hp with rfl | rfl
  · refine (cc_fresh b w c0 (by simp [World.shape?, hb]) hfz).mono ?_
    rintro e w' ⟨rfl, rfl⟩
    exact ⟨rfl, hst rfl⟩
  · refine (cc_used b w c0).mono ?_
    rintro e w' ⟨rfl, rfl⟩
    refine ⟨rfl, ?_⟩
    rw [hst rfl]
    rw [setCell_self hb]
set_option maxHeartbeats 4000000 in
set_option maxRecDepth 100000 in
theorem len_law : LenLaw Tryz.prog 94 53 := by
  intro b p ao n cap w hb
  have c1 : w.cell? ⟨b, 1, none⟩ = some (.slice ao n cap) := by rw [Lib.cell_of_heap hb]; rfl
  go_enter Tryz.func94, Tryz.ntmps94
  go_wp2
  go_ret
  exact ⟨rfl, rfl⟩
end Go.X

namespace Go.X
open Go Go.Proofs Go.RowKit
theorem drew_by {w : World} {r : Option Nat} : w.grownBy w.drew r := ⟨rfl, rfl, rfl, Nat.le_refl _, fun _ _ _ => rfl⟩
theorem freeze_by {w : World} {g n : Nat} : w.grownBy (w.drew.freeze ⟨g, 0, none⟩ n) (some g) := by
  unfold World.freeze
  split
  · exact drew_by
  · refine ⟨rfl, rfl, rfl, ?_, fun k hk hne => ?_⟩
    · show w.heap.size ≤ (Array.modify w.heap g _).size
      rw [Array.size_modify]; exact Nat.le_refl _
    · show (Array.modify w.heap g _)[k]? = w.heap[k]?
      rw [Array.getElem?_modify, if_neg (fun h => hne (by rw [h]))]
theorem view_by {w : World} {r : Option Nat} {o : Obj} : w.grownBy (w.drew.alloc o) r := ⟨rfl, rfl, rfl, by simp, fun k hk _ => heap_alloc_old w.drew _ hk⟩
set_option maxHeartbeats 4000000 in
set_option maxRecDepth 100000 in
theorem str_row (b g cap : Nat) (p : Value) (cur : Array Value) (l : List UInt8) (w : World) (h0 : l ≠ []) (hb : w.heap[b]? = some (.cells #[p, .slice (some ⟨g, 0, none⟩) l.length cap] 53 (0, 0))) (hg : w.heap[g]? = some (.cells cur 5 (0, 0))) (hnc : l.length ≤ cap) (hcm : cap ≤ maxLen) (hcs : cur.size = cap)
    (hcell : ∀ j x, l[j]? = some x → w.cell? ((⟨g, 0, none⟩ : Addr).add j) = some (.int .u8 x.toNat)) :
    Calls Tryz.prog 28 #[.pointer (some ⟨b, 0, none⟩)] w fun e w' => e = .returned (.string ⟨l.toArray⟩) ∧ w.grownBy w' (some g) := by
  have hl0 : l.length ≠ 0 := by simpa using h0
  have c1 : w.drew.cell? ⟨b, 1, none⟩ = some (.slice (some ⟨g, 0, none⟩) l.length cap) := by
    have : w.drew.heap[b]? = some (.cells #[p, .slice (some ⟨g, 0, none⟩) l.length cap] 53 (0, 0)) := hb
    rw [Lib.cell_of_heap this]; rfl
  have hSD : (Builtin.unsafeSliceData_ #[50] 88 #[.slice (some ⟨g, 0, none⟩) l.length cap]).run Tryz.prog w.drew = .ok (.pointer (some ⟨g, 0, none⟩)) w.drew :=
    Lib.run_unsafeSliceData_row _ _ _ _ _ _ (by omega)
  have hUS : (Builtin.unsafeString_ #[88, 3] 9 #[.pointer (some ⟨g, 0, none⟩), .int .i64 l.length]).run Tryz.prog w.drew = .ok (.string ⟨l.toArray⟩) (w.drew.freeze ⟨g, 0, none⟩ l.length) :=
    Lib.run_unsafeString_row w.drew 88 3 9 5 Tryz.underlying88 (by kernel_rfl) g cur.size (by have hg' : w.drew.heap[g]? = some (.cells cur 5 (0, 0)) := hg; simp [World.shape?, hg']) l h0 (by omega) (by unfold maxLen at hcm; omega) (fun j x hx => hcell j x hx)
  have mixed : Tryz.prog.follows .mixedOrders = true := by kernel_rfl
  go_enter Tryz.func28, Tryz.ntmps28
  go_wp2
  go_region_o
  all_goals (go_wp2; go_ret; exact ⟨rfl, freeze_by⟩)
set_option maxHeartbeats 4000000 in
set_option maxRecDepth 100000 in
theorem str_nil (b : Nat) (p : Value) (w : World) (hb : w.heap[b]? = some (.cells #[p, .slice none 0 0] 53 (0, 0))) :
    Calls Tryz.prog 28 #[.pointer (some ⟨b, 0, none⟩)] w fun e w' => e = .returned (.string ⟨#[]⟩) ∧ w.grownBy w' none := by
  have hUS : ∀ (W : World) (q : Option Addr), (Builtin.unsafeString_ #[88, 3] 9 #[.pointer q, .int .i64 0]).run Tryz.prog W = .ok (.string .empty) W := fun W q => Lib.run_unsafeString_none W _ _ _ q
  have c1 : w.drew.cell? ⟨b, 1, none⟩ = some (.slice none 0 0) := by
    have : w.drew.heap[b]? = some (.cells #[p, .slice none 0 0] 53 (0, 0)) := hb
    rw [Lib.cell_of_heap this]; rfl
  have hSD : (Builtin.unsafeSliceData_ #[50] 88 #[.slice none 0 0]).run Tryz.prog w.drew = .ok (.pointer none) w.drew := rfl
  have mixed : Tryz.prog.follows .mixedOrders = true := by kernel_rfl
  go_enter Tryz.func28, Tryz.ntmps28
  go_wp2
  go_region_o
  all_goals (go_wp2; go_ret; exact ⟨rfl, drew_by⟩)
set_option maxHeartbeats 4000000 in
set_option maxRecDepth 100000 in
theorem str_noroom (b g : Nat) (p : Value) (cur : Array Value) (w : World) (hb : w.heap[b]? = some (.cells #[p, .slice (some ⟨g, 0, none⟩) 0 0] 53 (0, 0))) (hg : w.heap[g]? = some (.cells cur 5 (0, 0))) :
    Calls Tryz.prog 28 #[.pointer (some ⟨b, 0, none⟩)] w fun e w' => e = .returned (.string ⟨#[]⟩) ∧ w.grownBy w' (some g) := by
  have hUS : ∀ (W : World) (q : Option Addr), (Builtin.unsafeString_ #[88, 3] 9 #[.pointer q, .int .i64 0]).run Tryz.prog W = .ok (.string .empty) W := fun W q => Lib.run_unsafeString_none W _ _ _ q
  have hlt := lt_of_heap hb
  have c1 : w.drew.cell? ⟨b, 1, none⟩ = some (.slice (some ⟨g, 0, none⟩) 0 0) := by
    have : w.drew.heap[b]? = some (.cells #[p, .slice (some ⟨g, 0, none⟩) 0 0] 53 (0, 0)) := hb
    rw [Lib.cell_of_heap this]; rfl
  have hSD : (Builtin.unsafeSliceData_ #[50] 88 #[.slice (some ⟨g, 0, none⟩) 0 0]).run Tryz.prog w.drew = .ok (.pointer (some ⟨w.drew.heap.size, 0, none⟩)) (w.drew.alloc (.view ⟨g, 0, none⟩ 5)) :=
    Lib.run_unsafeSliceData_zero w.drew _ _ 5 Tryz.underlying88 ⟨g, 0, none⟩ 0 (5, cur.size) (by have hg' : w.drew.heap[g]? = some (.cells cur 5 (0, 0)) := hg; simp [World.shape?, hg'])
  have c2 : (w.drew.alloc (.view ⟨g, 0, none⟩ 5)).cell? ⟨b, 1, none⟩ = some (.slice (some ⟨g, 0, none⟩) 0 0) := by
    have : (w.drew.alloc (.view ⟨g, 0, none⟩ 5)).heap[b]? = _ := (heap_alloc_old w.drew _ hlt).trans hb
    rw [Lib.cell_of_heap this]; rfl
  have c3 : (w.alloc (.view ⟨g, 0, none⟩ 5)).drew.cell? ⟨b, 1, none⟩ = some (.slice (some ⟨g, 0, none⟩) 0 0) := c2
  have c0 : w.cell? ⟨b, 1, none⟩ = some (.slice (some ⟨g, 0, none⟩) 0 0) := c1
  have mixed : Tryz.prog.follows .mixedOrders = true := by kernel_rfl
  go_enter Tryz.func28, Tryz.ntmps28
  go_wp2
  go_region_o
  all_goals (go_wp2; go_ret; exact ⟨rfl, view_by⟩)
set_option maxHeartbeats 4000000 in
set_option maxRecDepth 100000 in
theorem str_room (b g cap : Nat) (p : Value) (w : World) (hc0 : cap ≠ 0) (hb : w.heap[b]? = some (.cells #[p, .slice (some ⟨g, 0, none⟩) 0 cap] 53 (0, 0))) :
    Calls Tryz.prog 28 #[.pointer (some ⟨b, 0, none⟩)] w fun e w' => e = .returned (.string ⟨#[]⟩) ∧ w.grownBy w' (some g) := by
  have hUS : ∀ (W : World) (q : Option Addr), (Builtin.unsafeString_ #[88, 3] 9 #[.pointer q, .int .i64 0]).run Tryz.prog W = .ok (.string .empty) W := fun W q => Lib.run_unsafeString_none W _ _ _ q
  have c1 : w.drew.cell? ⟨b, 1, none⟩ = some (.slice (some ⟨g, 0, none⟩) 0 cap) := by
    have : w.drew.heap[b]? = some (.cells #[p, .slice (some ⟨g, 0, none⟩) 0 cap] 53 (0, 0)) := hb
    rw [Lib.cell_of_heap this]; rfl
  have hSD : (Builtin.unsafeSliceData_ #[50] 88 #[.slice (some ⟨g, 0, none⟩) 0 cap]).run Tryz.prog w.drew = .ok (.pointer (some ⟨g, 0, none⟩)) w.drew :=
    Lib.run_unsafeSliceData_row _ _ _ _ _ _ hc0
  clear hc0
  have mixed : Tryz.prog.follows .mixedOrders = true := by kernel_rfl
  go_enter Tryz.func28, Tryz.ntmps28
  go_wp2
  go_region_o
  all_goals (go_wp2; go_ret; exact ⟨rfl, drew_by⟩)
theorem str_law : StrLaw Tryz.prog 28 53 5 := by
  intro b p v l w hb hown hne
  rcases hown.2 with ⟨rfl, hz⟩ | ⟨g, cap, cur, rfl, _, hg, hnc, hcm, hcs, htake⟩
  · have hl : l = [] := List.eq_nil_of_length_eq_zero hz
    subst hl
    exact str_nil b p w hb
  · have hcs' : cur.size = cap := by simpa using hcs
    by_cases hl : l = []
    · subst hl
      by_cases hc : cap = 0
      · subst hc; exact str_noroom b g p cur w hb hg
      · exact str_room b g cap p w hc hb
    · refine str_row b g cap p cur l w hl hb hg hnc hcm hcs' (fun j x hx => ?_)
      exact hown.cells (g := g) rfl j (.int .u8 x.toNat) (by simp [Lib.byteCells, hx])
end Go.X

namespace Go.X
open Go.Proofs

def cIsSquare : Con
  | [.a (.i .i64 n)] => some ⟨[], .a (.b (spIsSquare n)), [], []⟩
  | _ => none
def cRank : Con
  | [.a (.i .i64 n)] => some ⟨[], .a (.i .i64 (spRank n)), [], []⟩
  | _ => none
def cFile : Con
  | [.a (.i .i64 n)] => some ⟨[], .a (.i .i64 (spFile n)), [], []⟩
  | _ => none
def cSquare : Con
  | [.a (.i .i64 f), .a (.i .i64 r)] => some ⟨[], .a (.i .i64 (spSquare f r)), [], []⟩
  | _ => none
def cIndexByte : Con
  | [.a (.s s), .a (.i .u8 c)] => some ⟨[], .a (.i .i64 (spIdxB s.data.toList c)), [], []⟩
  | _ => none
def cSide : Con
  | [.a (.i .u8 c)] => some ⟨[], .a (.i .i64 (spSide c)), [], []⟩
  | _ => none
def cIsCell : Con
  | [.a (.i .u8 c)] => some ⟨[], .a (.b (spIsCell c)), [], []⟩
  | _ => none
def cKind : Con
  | [.a (.i .u8 c)] => some ⟨[], .a (.i .u8 (spKind c)), [], []⟩
  | _ => none
def cBad : Con
  | [.a (.i .i32 (.ofNat r))] => some ⟨[], .a (.b (spBad r)), [], []⟩
  | _ => none
def cIndexFunc : Con
  | [.a (.s s), .fn 72 []] => some ⟨[], .a (.i .i64 (Lib.idxFunc spBad true s)), [], []⟩
  | _ => none
def cIs : Con
  | [.a (.s p)] => some ⟨[], .a (.b (spIs p)), [], []⟩
  | _ => none
def cAt : Con
  | [.a (.s p), .a (.i .i64 n)] => some ⟨[], .a (.i .u8 (spAt p n)), [], []⟩
  | _ => none
def cPut : Con
  | [.a (.s p), .a (.i .i64 n), .a (.i .u8 c)] => some ⟨[], .a (.s (spPut p n c)), [], []⟩
  | _ => none

section
variable {G : Nat → World → Prop}
theorem okIndexByte (_ : Hyp G) : ConOK Tryz.prog G 92 cIndexByte := by
  refine con_ext Tryz.func92 rfl rfl ?_
  intro rvs cr hcr hpre
  unfold cIndexByte at hcr
  split at hcr
  · cases hcr
    refine ⟨_, _, _, rfl, rfl, fun _ _ => rfl, fun g0 w _ _ => (Tryz.strings_IndexByte _ _ w).mono ?_⟩
    rintro e w' ⟨rfl, rfl⟩
    exact ⟨rfl, ⟨rfl, rfl, rfl, Nat.le_refl _, fun _ _ => rfl⟩⟩
  · cases hcr

set_option maxHeartbeats 4000000 in
set_option maxRecDepth 20000 in
theorem okSide (hS : Hyp G) : ConOK Tryz.prog G 75 cSide := by
  refine seat_con hS.seat [(92, cIndexByte)] [] ⟨okIndexByte hS, trivial⟩ Tryz.func75 rfl rfl rfl ?_
  intro rvs cr hcr hpre
  unfold cSide at hcr
  split at hcr
  · cases hcr
    refine ⟨⟨rfl, rfl, rfl⟩, fun c hc vs => ?_⟩
    repeat' (first | exact Bool.noConfusion ‹(!true) = true› | exact Bool.noConfusion ‹(!false) = false› | (intro h; exact h) | (intro h; rw [h]; rfl) | (intro h1 h2; rw [h1, h2]; rfl) | (intro _; assumption) | (intro _; exact rfl) | (intro h; exact Bool.noConfusion (h.symm.trans ‹_ = false›)) | refine ⟨fun _ => ?_, fun _ => ?_⟩ | refine ⟨?_⟩ | refine ⟨?_, ?_⟩ | fail)
    all_goals first | exact rfl | (refine chk_i ?_; simp_all [spSide]; done) | (refine chk_i ?_; simp only [spSide, decide_eq_true_eq, decide_eq_false_iff_not, Bool.not_eq_true', Bool.not_eq_false', Bool.or_eq_true, Bool.or_eq_false_iff, Bool.and_eq_true, Bool.and_eq_false_iff] at *; (repeat' split) <;> first | rfl | omega | (simp_all; done) | (simp_all; omega)) | (refine chk_b ?_; simp_all [spSide]; done) | (refine chk_b ?_; simp only [spSide, decide_eq_true_eq, decide_eq_false_iff_not, Bool.not_eq_true', Bool.not_eq_false', Bool.or_eq_true, Bool.or_eq_false_iff, Bool.and_eq_true, Bool.and_eq_false_iff] at *; (repeat' split) <;> first | rfl | omega | (simp_all; done) | (simp_all; omega)) | (refine chk_s ?_; simp_all [spSide]; done) | (refine chk_s ?_; simp only [spSide, decide_eq_true_eq, decide_eq_false_iff_not, Bool.not_eq_true', Bool.not_eq_false', Bool.or_eq_true, Bool.or_eq_false_iff, Bool.and_eq_true, Bool.and_eq_false_iff] at *; (repeat' split) <;> first | rfl | omega | (simp_all; done) | (simp_all; omega)) | (simp_all [spSide]; done) | (simp_all [spSide]; omega) | skip
  · cases hcr

set_option maxHeartbeats 4000000 in
set_option maxRecDepth 20000 in
theorem okIsCell (hS : Hyp G) : ConOK Tryz.prog G 73 cIsCell := by
  refine seat_con hS.seat [(75, cSide)] [] ⟨okSide hS, trivial⟩ Tryz.func73 rfl rfl rfl ?_
  intro rvs cr hcr hpre
  unfold cIsCell at hcr
  split at hcr
  · cases hcr
    refine ⟨⟨rfl, rfl, rfl⟩, fun c hc vs => ?_⟩
    repeat' (first | exact Bool.noConfusion ‹(!true) = true› | exact Bool.noConfusion ‹(!false) = false› | (intro h; exact h) | (intro h; rw [h]; rfl) | (intro h1 h2; rw [h1, h2]; rfl) | (intro _; assumption) | (intro _; exact rfl) | (intro h; exact Bool.noConfusion (h.symm.trans ‹_ = false›)) | refine ⟨fun _ => ?_, fun _ => ?_⟩ | refine ⟨?_⟩ | refine ⟨?_, ?_⟩ | fail)
    all_goals first | exact rfl | (refine chk_i ?_; simp_all [spIsCell]; done) | (refine chk_i ?_; simp only [spIsCell, decide_eq_true_eq, decide_eq_false_iff_not, Bool.not_eq_true', Bool.not_eq_false', Bool.or_eq_true, Bool.or_eq_false_iff, Bool.and_eq_true, Bool.and_eq_false_iff] at *; (repeat' split) <;> first | rfl | omega | (simp_all; done) | (simp_all; omega)) | (refine chk_b ?_; simp_all [spIsCell]; done) | (refine chk_b ?_; simp only [spIsCell, decide_eq_true_eq, decide_eq_false_iff_not, Bool.not_eq_true', Bool.not_eq_false', Bool.or_eq_true, Bool.or_eq_false_iff, Bool.and_eq_true, Bool.and_eq_false_iff] at *; (repeat' split) <;> first | rfl | omega | (simp_all; done) | (simp_all; omega)) | (refine chk_s ?_; simp_all [spIsCell]; done) | (refine chk_s ?_; simp only [spIsCell, decide_eq_true_eq, decide_eq_false_iff_not, Bool.not_eq_true', Bool.not_eq_false', Bool.or_eq_true, Bool.or_eq_false_iff, Bool.and_eq_true, Bool.and_eq_false_iff] at *; (repeat' split) <;> first | rfl | omega | (simp_all; done) | (simp_all; omega)) | (simp_all [spIsCell]; done) | (simp_all [spIsCell]; omega) | skip
  · cases hcr

set_option maxHeartbeats 4000000 in
set_option maxRecDepth 20000 in
theorem okKind (hS : Hyp G) : ConOK Tryz.prog G 51 cKind := by
  refine seat_con hS.seat [(75, cSide)] [] ⟨okSide hS, trivial⟩ Tryz.func51 rfl rfl rfl ?_
  intro rvs cr hcr hpre
  unfold cKind at hcr
  split at hcr
  · cases hcr
    refine ⟨⟨rfl, rfl, rfl⟩, fun c hc vs => ?_⟩
    repeat' (first | exact Bool.noConfusion ‹(!true) = true› | exact Bool.noConfusion ‹(!false) = false› | (intro h; exact h) | (intro h; rw [h]; rfl) | (intro h1 h2; rw [h1, h2]; rfl) | (intro _; assumption) | (intro _; exact rfl) | (intro h; exact Bool.noConfusion (h.symm.trans ‹_ = false›)) | refine ⟨fun _ => ?_, fun _ => ?_⟩ | refine ⟨?_⟩ | refine ⟨?_, ?_⟩ | fail)
    all_goals first | exact rfl | (refine chk_i ?_; simp_all [spKind]; done) | (refine chk_i ?_; simp only [spKind, decide_eq_true_eq, decide_eq_false_iff_not, Bool.not_eq_true', Bool.not_eq_false', Bool.or_eq_true, Bool.or_eq_false_iff, Bool.and_eq_true, Bool.and_eq_false_iff] at *; (repeat' split) <;> first | rfl | omega | (simp_all; done) | (simp_all; omega)) | (refine chk_b ?_; simp_all [spKind]; done) | (refine chk_b ?_; simp only [spKind, decide_eq_true_eq, decide_eq_false_iff_not, Bool.not_eq_true', Bool.not_eq_false', Bool.or_eq_true, Bool.or_eq_false_iff, Bool.and_eq_true, Bool.and_eq_false_iff] at *; (repeat' split) <;> first | rfl | omega | (simp_all; done) | (simp_all; omega)) | (refine chk_s ?_; simp_all [spKind]; done) | (refine chk_s ?_; simp only [spKind, decide_eq_true_eq, decide_eq_false_iff_not, Bool.not_eq_true', Bool.not_eq_false', Bool.or_eq_true, Bool.or_eq_false_iff, Bool.and_eq_true, Bool.and_eq_false_iff] at *; (repeat' split) <;> first | rfl | omega | (simp_all; done) | (simp_all; omega)) | (simp_all [spKind]; done) | (simp_all [spKind]; omega) | skip
  · cases hcr

set_option maxHeartbeats 4000000 in
set_option maxRecDepth 20000 in
theorem okBad (hS : Hyp G) : ConOK Tryz.prog G 72 cBad := by
  refine seat_con hS.seat [(73, cIsCell)] [] ⟨okIsCell hS, trivial⟩ Tryz.func72 rfl rfl rfl ?_
  intro rvs cr hcr hpre
  unfold cBad at hcr
  split at hcr
  · cases hcr
    refine ⟨⟨rfl, rfl, rfl⟩, fun c hc vs => ?_⟩
    repeat' (first | exact Bool.noConfusion ‹(!true) = true› | exact Bool.noConfusion ‹(!false) = false› | (intro h; exact h) | (intro h; rw [h]; rfl) | (intro h1 h2; rw [h1, h2]; rfl) | (intro _; assumption) | (intro _; exact rfl) | (intro h; exact Bool.noConfusion (h.symm.trans ‹_ = false›)) | refine ⟨fun _ => ?_, fun _ => ?_⟩ | refine ⟨?_⟩ | refine ⟨?_, ?_⟩ | fail)
    all_goals first | exact rfl | (refine chk_i ?_; simp_all [spBad]; done) | (refine chk_i ?_; simp only [spBad, decide_eq_true_eq, decide_eq_false_iff_not, Bool.not_eq_true', Bool.not_eq_false', Bool.or_eq_true, Bool.or_eq_false_iff, Bool.and_eq_true, Bool.and_eq_false_iff] at *; (repeat' split) <;> first | rfl | omega | (simp_all; done) | (simp_all; omega)) | (refine chk_b ?_; simp_all [spBad]; done) | (refine chk_b ?_; simp only [spBad, decide_eq_true_eq, decide_eq_false_iff_not, Bool.not_eq_true', Bool.not_eq_false', Bool.or_eq_true, Bool.or_eq_false_iff, Bool.and_eq_true, Bool.and_eq_false_iff] at *; (repeat' split) <;> first | rfl | omega | (simp_all; done) | (simp_all; omega)) | (refine chk_s ?_; simp_all [spBad]; done) | (refine chk_s ?_; simp only [spBad, decide_eq_true_eq, decide_eq_false_iff_not, Bool.not_eq_true', Bool.not_eq_false', Bool.or_eq_true, Bool.or_eq_false_iff, Bool.and_eq_true, Bool.and_eq_false_iff] at *; (repeat' split) <;> first | rfl | omega | (simp_all; done) | (simp_all; omega)) | (simp_all [spBad]; done) | (simp_all [spBad]; omega) | skip
  · cases hcr

theorem okIndexFunc (hS : Hyp G) : ConOK Tryz.prog G 71 cIndexFunc := by
  refine con_ext Tryz.func71 rfl rfl ?_
  intro rvs cr hcr hpre
  unfold cIndexFunc at hcr
  split at hcr
  · cases hcr
    refine ⟨_, _, _, rfl, rfl, fun _ _ => rfl, fun g0 w hg hG => Tryz.strings_IndexFunc_grows 72 #[] Tryz.call72 spBad _ w ?_⟩
    intro W x _ hb
    have hG' : G g0 W := hS.seat.good (topCtx g0 w hg) hG W ⟨hb.os, hb.tape, hb.output, hb.size, fun k h1 _ => hb.block k h1⟩
    refine (con_calls (avs := [.i .i32 (.ofNat x)]) (vals := [.int .i32 (.ofNat x)]) (okBad hS) (Nat.le_trans hg hb.size) hG' rfl ⟨_, _, rfl, rfl, rfl⟩ rfl (fun p hp => (by cases hp))).mono ?_
    rintro en w' ⟨v, e', rfl, h1, h2⟩
    refine ⟨?_, top_below h1.frame⟩
    simp only [R] at h2
    rw [h2]
  · cases hcr

set_option maxHeartbeats 4000000 in
set_option maxRecDepth 20000 in
theorem okIs (hS : Hyp G) : ConOK Tryz.prog G 48 cIs := by
  refine seat_con hS.seat [(71, cIndexFunc)] [] ⟨okIndexFunc hS, trivial⟩ Tryz.func48 rfl rfl rfl ?_
  intro rvs cr hcr hpre
  unfold cIs at hcr
  split at hcr
  · cases hcr
    refine ⟨⟨rfl, rfl, rfl⟩, fun c hc vs => ?_⟩
    repeat' (first | exact Bool.noConfusion ‹(!true) = true› | exact Bool.noConfusion ‹(!false) = false› | (intro h; exact h) | (intro h; rw [h]; rfl) | (intro h1 h2; rw [h1, h2]; rfl) | (intro _; assumption) | (intro _; exact rfl) | (intro h; exact Bool.noConfusion (h.symm.trans ‹_ = false›)) | refine ⟨fun _ => ?_, fun _ => ?_⟩ | refine ⟨?_⟩ | refine ⟨?_, ?_⟩ | fail)
    all_goals first | exact rfl | (refine chk_i ?_; simp_all [spIs]; done) | (refine chk_i ?_; simp only [spIs, decide_eq_true_eq, decide_eq_false_iff_not, Bool.not_eq_true', Bool.not_eq_false', Bool.or_eq_true, Bool.or_eq_false_iff, Bool.and_eq_true, Bool.and_eq_false_iff] at *; (repeat' split) <;> first | rfl | omega | (simp_all; done) | (simp_all; omega)) | (refine chk_b ?_; simp_all [spIs]; done) | (refine chk_b ?_; simp only [spIs, decide_eq_true_eq, decide_eq_false_iff_not, Bool.not_eq_true', Bool.not_eq_false', Bool.or_eq_true, Bool.or_eq_false_iff, Bool.and_eq_true, Bool.and_eq_false_iff] at *; (repeat' split) <;> first | rfl | omega | (simp_all; done) | (simp_all; omega)) | (refine chk_s ?_; simp_all [spIs]; done) | (refine chk_s ?_; simp only [spIs, decide_eq_true_eq, decide_eq_false_iff_not, Bool.not_eq_true', Bool.not_eq_false', Bool.or_eq_true, Bool.or_eq_false_iff, Bool.and_eq_true, Bool.and_eq_false_iff] at *; (repeat' split) <;> first | rfl | omega | (simp_all; done) | (simp_all; omega)) | (simp_all [spIs]; done) | (simp_all [spIs]; omega) | skip
  · cases hcr

end
end Go.X

namespace Go.X
open Go Go.Proofs
structure DOT (s : ByteArray) (n : Int) : Prop where
  s : s = ⟨#[46]⟩
  lo : 0 ≤ n
  hi : n ≤ 255
def cRepeat : Con
  | [.a (.s s), .a (.i .i64 n)] => some ⟨[DOT s n], .a (.s (bytesOf (List.replicate n.toNat 46))), [], []⟩
  | _ => none
theorem repeat_dots (n : Nat) : (⟨(Lib.repeatL (⟨#[46]⟩ : ByteArray).data.toList n).toArray⟩ : ByteArray) = bytesOf (List.replicate n 46) := by
  rw [bytesOf_u8]
  unfold u8L
  rw [List.map_replicate]
  congr 2
  have : ∀ n : Nat, Lib.repeatL [(46 : UInt8)] n = List.replicate n 46 := by
    intro n
    induction n with
    | zero => simp [Lib.repeatL]
    | succ n ih => simp [Lib.repeatL, List.replicate_succ] at *; exact ih
  exact this n
def splitL (s sep : ByteArray) : List ByteArray := pieces (byteAt sep 0) s
abbrev cSplitS : Con := cSplitF 9 splitL SPL
abbrev cRev : Con := cRevS
abbrev cBStrS : Con := cBStr 53 5
def cLenB : Con
  | [.box _ 0 53 _ [_, .row _ r]] => some ⟨[], .a (.i .i64 r.l.length), [], []⟩
  | _ => none
section
variable {G : Nat → World → Prop}
theorem okRepeat (_ : Hyp G) : ConOK Tryz.prog G 93 cRepeat := by
  refine con_ext Tryz.func93 rfl rfl ?_
  intro rvs cr hcr hpre
  unfold cRepeat at hcr
  split at hcr
  · rename_i s n
    cases hcr
    have hd := hpre _ (List.mem_singleton.2 rfl)
    have h0 := hd.lo; have h1 := hd.hi; have hs := hd.s
    subst hs
    obtain ⟨m, rfl⟩ := Int.eq_ofNat_of_zero_le h0
    refine ⟨_, .string (bytesOf (List.replicate m 46)), _, rfl, rfl, fun _ _ => rfl, fun g0 w _ _ => (Tryz.strings_Repeat ⟨#[46]⟩ m w (by omega) (by show 1 * m ≤ _; omega)).mono ?_⟩
    rintro e w' ⟨rfl, h⟩
    rw [repeat_dots]
    exact ⟨rfl, h⟩
  · cases hcr
theorem okSplitS (hS : Hyp G) : ConOK Tryz.prog G 38 cSplitS := by
  refine con_split Tryz.func38 rfl rfl (fun g0 w s sep hG hok => ?_)
  obtain ⟨c, rfl, hc⟩ := one_byte hok.sep
  have hsz := hok.s
  obtain ⟨e1, e2⟩ := split_pieces (s := s) (c := c)
  obtain ⟨m, hm⟩ := (hS.glob g0 w hG).mlen
  have hsp : splitL s ⟨#[c]⟩ = pieces (c.toNat : Int) s := by unfold splitL; rw [hc]
  rw [hsp]
  refine ⟨?_, ?_⟩
  · unfold pieces
    rw [List.length_map]
    have := cutAt_len (c.toNat : Int) (bytesL s)
    have e3 : (bytesL s).length = s.size := by simp [bytesL]
    unfold maxLen; omega
  · refine (Tryz.strings_Split s ⟨#[c]⟩ m w (by omega) hm (Nat.le_refl 1)).mono ?_
    rintro e w' ⟨rfl, rfl⟩
    rw [e1, e2]
    exact ⟨rfl, rfl⟩
theorem okRev (_ : Hyp G) : ConOK Tryz.prog G 29 cRev := by
  refine con_rev Tryz.func29 rfl rfl (fun b c l w hl hc hf => ?_) (fun a cap w => Tryz.slices_Reverse_string_empty a cap w)
  refine (Tryz.slices_Reverse_string_cells b 0 l.length c (fun i => l.getD i ByteArray.empty) w (by omega) (fun i hi => by rw [Nat.zero_add]; exact hc i hi) (fun j hj => by rw [Nat.zero_add]; exact hf j hj)).mono ?_
  rintro e w' ⟨rfl, q, rfl⟩
  refine ⟨rfl, q, ?_⟩
  congr 1
  unfold Lib.strsOf
  have e1 : (List.range l.length).map (fun i => (l.getD i ByteArray.empty).data.toList) = l.map (·.data.toList) := by
    apply List.ext_getElem
    · simp
    · intro i h1 h2
      simp at h1
      simp [List.getD_eq_getElem?_getD, List.getElem?_eq_getElem h1]
  rw [e1, ← List.map_reverse, List.map_map]
  rfl
theorem okBStrS (_ : Hyp G) : ConOK Tryz.prog G 28 (cBStr 53 5) := con_bstr Tryz.func28 rfl rfl str_law
end
end Go.X

namespace Go.X
open Go Go.Proofs
structure TZ4 (s : ByteArray) : Prop where
  le : s.size ≤ 4000000
  u : True
  v : True
def cRankP : Con
  | [.a (.s s)] => some ⟨[TZ4 s], .tup [.a (.s (bytesOf (rankT (bytesL s)))), .a (.b (rankOk (bytesL s)))], [], []⟩
  | _ => none
def fr0 : Nat → AV
  | 0 => .nilp
  | _ + 1 => .box 0 0
section
variable {G : Nat → World → Prop}
set_option maxHeartbeats 4000000 in
set_option maxRecDepth 20000 in
theorem okRankP (hS : Hyp G) : ConOK Tryz.prog G 66 cRankP := by
  refine seat_con hS.seat [(92, cIndexByte), (93, cRepeat), (75, cSide)] [] ⟨okIndexByte hS, okRepeat hS, okSide hS, trivial⟩ Tryz.func66 rfl rfl rfl ?_
  intro rvs cr hcr hpre
  unfold cRankP at hcr
  split at hcr
  · rename_i s
    cases hcr
    simp only [List.mem_cons, List.not_mem_nil, or_false, forall_eq_or_imp, forall_eq] at hpre
    refine ⟨⟨rfl, rfl, rfl⟩, fun c hc vs => ?_⟩
    have hsz := hpre.le
    repeat' (first | exact Bool.noConfusion ‹(!true) = true› | exact Bool.noConfusion ‹(!false) = false› | (intro h; exact h) | (intro h; rw [h]; rfl) | (intro h1 h2; rw [h1, h2]; rfl) | (intro _; assumption) | (intro _; exact rfl) | (intro h; exact Bool.noConfusion (h.symm.trans ‹_ = false›)) | refine ⟨fun _ => ?_, fun _ => ?_⟩ | refine ⟨?_⟩ | refine ⟨?_, ?_⟩ | fail)
    all_goals first | exact rfl | exact trivial | skip
    · show s.size ≤ 4000000000; omega
    refine Tr_nilBox 5 (.int .u8) 0 1 rfl rfl (by decide) ?_
    refine Tr_loopH (α := Nat × List Int) (fun x => [(11, .i .i64 (.ofNat x.1))]) (fun x => [(0, some ⟨53, [fr0 x.1, .row 1], true⟩)]) (fun x => [(1, some ⟨5, .int .u8, x.2, true⟩)])
      (fun x => x.1 ≤ (bytesL s).length ∧ ((bytesL s).take x.1).foldl rstep (some []) = some x.2 ∧ x.2.length ≤ 9 * x.1 ∧ BYL x.2) (fun x => (bytesL s).length - x.1) (0, []) ⟨Nat.zero_le _, rfl, Nat.le_refl _, ⟨by simp, trivial, trivial⟩⟩ (by (refine ⟨?_, rfl, ?_, ?_, ?_, rfl⟩ <;> repeat' (first | exact trivial | (refine ⟨rfl, ?_⟩) | fail))) ?_
    rintro ⟨i, acc⟩ ⟨hi, hq, hl, hb⟩
    have hlen : (bytesL s).length = s.size := by simp [bytesL]
    rcases i with _ | i
    · obtain ⟨b, hbd⟩ : ∃ b, (bytesL s).getD (Int.ofNat (0)).toNat EK.byte.dflt = b := ⟨_, rfl⟩
      have hbd' : (bytesL s).getD (0) 0 = b := hbd
      have hby : 0 < (bytesL s).length → 0 ≤ b ∧ b < 256 := fun h => by
        rw [← hbd']
        refine bytesL_bound s _ ?_
        rw [List.getD_eq_getElem?_getD, List.getElem?_eq_getElem h]
        exact List.getElem_mem h
      refine vs.go rfl ?_
      repeat' (first | exact Bool.noConfusion ‹(!true) = true› | exact Bool.noConfusion ‹(!false) = false› | (intro h; exact h) | (intro h; rw [h]; rfl) | (intro h1 h2; rw [h1, h2]; rfl) | (intro _; assumption) | (intro _; exact rfl) | (intro h; exact Bool.noConfusion (h.symm.trans ‹_ = false›)) | refine ⟨fun _ => ?_, fun _ => ?_⟩ | refine ⟨?_⟩ | refine ⟨?_, ?_⟩ | fail)
      all_goals first | exact trivial | (refine (?_ : (_ : Int) ≠ _); decide) | exact rfl | skip
      all_goals try dsimp only at *
      all_goals simp only [hbd] at *
      all_goals first | exact trivial | exact rfl | skip
      rotate_right
      · have hil : 0 = (bytesL s).length := Nat.le_antisymm hi (Nat.not_lt.1 fun h => of_decide_eq_false ‹decide (Int.ofNat (0) < _) = false› (Int.ofNat_lt.2 h))
        rw [hil] at hq
        obtain ⟨e1, e2⟩ := rank_done hq
        refine trOps_strLen str_law len_law rfl rfl rfl rfl Tryz.func28 rfl rfl Tryz.func94 rfl rfl rfl rfl rfl rfl rfl hb ?_
        refine vs.on ?_
        repeat' (first | exact Bool.noConfusion ‹(!true) = true› | exact Bool.noConfusion ‹(!false) = false› | (intro h; exact h) | (intro h; rw [h]; rfl) | (intro h1 h2; rw [h1, h2]; rfl) | (intro _; assumption) | (intro _; exact rfl) | (intro h; exact Bool.noConfusion (h.symm.trans ‹_ = false›)) | refine ⟨fun _ => ?_, fun _ => ?_⟩ | refine ⟨?_⟩ | refine ⟨?_, ?_⟩ | fail)
        all_goals first | exact trivial | exact rfl | skip
        · rw [e1]; exact chk_s rfl
        · rw [e2]; refine chk_b ?_; rw [Bool.eq_iff_iff]; simp only [beq_iff_eq, decide_eq_true_eq]; omega
      all_goals
        have hlt : 0 < (bytesL s).length := Int.ofNat_lt.1 (of_decide_eq_true ‹decide (Int.ofNat (0) < _) = true›)
        have hlet := letter_at (hby hlt)
      · exact Int.ofNat_lt.2 hlt
      · exact of_decide_eq_true ‹decide (spIdxB [69, 101, 72, 104] b ≥ 0) = true›
      · exact (hlet.1 (of_decide_eq_true ‹decide (spIdxB [69, 101, 72, 104] b ≥ 0) = true›)).1
      · have hcl := (hlet.1 (of_decide_eq_true ‹decide (spIdxB [69, 101, 72, 104] b ≥ 0) = true›)).2
        obtain ⟨h1, h2, h3⟩ := rstep_d (acc := acc) hcl ‹(decide ((byteAt ⟨#[66, 98, 78, 110]⟩ (spIdxB [69, 101, 72, 104] b).toNat) ≥ 49) && decide ((byteAt ⟨#[66, 98, 78, 110]⟩ (spIdxB [69, 101, 72, 104] b).toNat) ≤ 57)) = true›
        rw [h2]; exact ⟨rfl, by omega, by omega⟩
      · have hcl := (hlet.1 (of_decide_eq_true ‹decide (spIdxB [69, 101, 72, 104] b ≥ 0) = true›)).2
        obtain ⟨h1, h2, h3⟩ := rstep_d (acc := acc) hcl ‹(decide ((byteAt ⟨#[66, 98, 78, 110]⟩ (spIdxB [69, 101, 72, 104] b).toNat) ≥ 49) && decide ((byteAt ⟨#[66, 98, 78, 110]⟩ (spIdxB [69, 101, 72, 104] b).toNat) ≤ 57)) = true›
        simp only [h2]
        refine trOps_none rfl (inl_one false hS.seat.tt rfl rfl Tryz.func25 rfl rfl ?_)
        intro cI hkI hrI
        refine (vs.kin hkI).go rfl ?_
        repeat' (first | exact Bool.noConfusion ‹(!true) = true› | exact Bool.noConfusion ‹(!false) = false› | (intro h; exact h) | (intro h; rw [h]; rfl) | (intro h1 h2; rw [h1, h2]; rfl) | (intro _; assumption) | (intro _; exact rfl) | (intro h; exact Bool.noConfusion (h.symm.trans ‹_ = false›)) | refine ⟨fun _ => ?_, fun _ => ?_⟩ | refine ⟨?_⟩ | refine ⟨?_, ?_⟩ | fail)
        refine trOps_none rfl (tr_copyCheck cc_law rfl Tryz.func53 rfl rfl rfl rfl (by first | exact .inl rfl | exact .inr rfl) ?_)
        refine (vs.kin hkI).on ?_
        repeat' (first | exact Bool.noConfusion ‹(!true) = true› | exact Bool.noConfusion ‹(!false) = false› | (intro h; exact h) | (intro h; rw [h]; rfl) | (intro h1 h2; rw [h1, h2]; rfl) | (intro _; assumption) | (intro _; exact rfl) | (intro h; exact Bool.noConfusion (h.symm.trans ‹_ = false›)) | refine ⟨fun _ => ?_, fun _ => ?_⟩ | refine ⟨?_⟩ | refine ⟨?_, ?_⟩ | fail)
        · show acc.length + (bytesOf (List.replicate ((byteAt ⟨#[66, 98, 78, 110]⟩ (spIdxB [69, 101, 72, 104] b).toNat) - 48).toNat 46)).size ≤ 4000000000
          rw [size_bytesOf, List.length_replicate]; omega
        refine vs.on ?_
        repeat' (first | exact Bool.noConfusion ‹(!true) = true› | exact Bool.noConfusion ‹(!false) = false› | (intro h; exact h) | (intro h; rw [h]; rfl) | (intro h1 h2; rw [h1, h2]; rfl) | (intro _; assumption) | (intro _; exact rfl) | (intro h; exact Bool.noConfusion (h.symm.trans ‹_ = false›)) | refine ⟨fun _ => ?_, fun _ => ?_⟩ | refine ⟨?_⟩ | refine ⟨?_, ?_⟩ | fail)
        refine Again.mk (0 + 1, acc ++ List.replicate ((byteAt ⟨#[66, 98, 78, 110]⟩ (spIdxB [69, 101, 72, 104] b).toNat) - 48).toNat 46) ⟨hlt, rank_next hlt hq (by rw [hbd']; exact h1), by simp; omega, hb.app dots_by⟩ (by show (bytesL s).length - (0 + 1) < (bytesL s).length - (0); omega) ?_
        rw [bytesL_of dots_by.b, wrapN (by omega)]
        (refine ⟨?_, rfl, ?_, ?_, ?_, rfl⟩ <;> repeat' (first | exact trivial | (refine ⟨rfl, ?_⟩) | fail))
      · have hcl := (hlet.1 (of_decide_eq_true ‹decide (spIdxB [69, 101, 72, 104] b ≥ 0) = true›)).2
        have h1 := rstep_p (acc := acc) hcl ‹(decide ((byteAt ⟨#[66, 98, 78, 110]⟩ (spIdxB [69, 101, 72, 104] b).toNat) ≥ 49) && decide ((byteAt ⟨#[66, 98, 78, 110]⟩ (spIdxB [69, 101, 72, 104] b).toNat) ≤ 57)) = false› ‹decide (spSide ((byteAt ⟨#[66, 98, 78, 110]⟩ (spIdxB [69, 101, 72, 104] b).toNat)) ≥ 0) = true›
        refine trOps_none rfl (inl_one false hS.seat.tt rfl rfl Tryz.func27 rfl rfl ?_)
        intro cI hkI hrI
        refine (vs.kin hkI).go rfl ?_
        repeat' (first | exact Bool.noConfusion ‹(!true) = true› | exact Bool.noConfusion ‹(!false) = false› | (intro h; exact h) | (intro h; rw [h]; rfl) | (intro h1 h2; rw [h1, h2]; rfl) | (intro _; assumption) | (intro _; exact rfl) | (intro h; exact Bool.noConfusion (h.symm.trans ‹_ = false›)) | refine ⟨fun _ => ?_, fun _ => ?_⟩ | refine ⟨?_⟩ | refine ⟨?_, ?_⟩ | fail)
        refine trOps_none rfl (tr_copyCheck cc_law rfl Tryz.func53 rfl rfl rfl rfl (by first | exact .inl rfl | exact .inr rfl) ?_)
        refine (vs.kin hkI).on ?_
        repeat' (first | exact Bool.noConfusion ‹(!true) = true› | exact Bool.noConfusion ‹(!false) = false› | (intro h; exact h) | (intro h; rw [h]; rfl) | (intro h1 h2; rw [h1, h2]; rfl) | (intro _; assumption) | (intro _; exact rfl) | (intro h; exact Bool.noConfusion (h.symm.trans ‹_ = false›)) | refine ⟨fun _ => ?_, fun _ => ?_⟩ | refine ⟨?_⟩ | refine ⟨?_, ?_⟩ | fail)
        · show acc.length + 1 ≤ 4000000000; omega
        · show (acc.length + 1) * 1 ≤ 140737488355328; omega
        refine vs.on ?_
        repeat' (first | exact Bool.noConfusion ‹(!true) = true› | exact Bool.noConfusion ‹(!false) = false› | (intro h; exact h) | (intro h; rw [h]; rfl) | (intro h1 h2; rw [h1, h2]; rfl) | (intro _; assumption) | (intro _; exact rfl) | (intro h; exact Bool.noConfusion (h.symm.trans ‹_ = false›)) | refine ⟨fun _ => ?_, fun _ => ?_⟩ | refine ⟨?_⟩ | refine ⟨?_, ?_⟩ | fail)
        refine Again.mk (0 + 1, acc ++ [(byteAt ⟨#[66, 98, 78, 110]⟩ (spIdxB [69, 101, 72, 104] b).toNat)]) ⟨hlt, rank_next hlt hq (by rw [hbd']; exact h1), by simp; omega, hb.app (.one (hcl ▸ (letter_at (hby hlt)).2.2))⟩ (by show (bytesL s).length - (0 + 1) < (bytesL s).length - (0); omega) ?_
        rw [wrapN (by omega)]
        (refine ⟨?_, rfl, ?_, ?_, ?_, rfl⟩ <;> repeat' (first | exact trivial | (refine ⟨rfl, ?_⟩) | fail))
      · have hcl := (hlet.1 (of_decide_eq_true ‹decide (spIdxB [69, 101, 72, 104] b ≥ 0) = true›)).2
        have h1 := rstep_n (acc := acc) hcl ‹(decide ((byteAt ⟨#[66, 98, 78, 110]⟩ (spIdxB [69, 101, 72, 104] b).toNat) ≥ 49) && decide ((byteAt ⟨#[66, 98, 78, 110]⟩ (spIdxB [69, 101, 72, 104] b).toNat) ≤ 57)) = false› ‹decide (spSide ((byteAt ⟨#[66, 98, 78, 110]⟩ (spIdxB [69, 101, 72, 104] b).toNat)) ≥ 0) = false›
        rw [(rank_bad (rank_rest hlt hq (by rw [hbd']; exact h1))).1]; exact chk_s rfl
      · have hcl := (hlet.1 (of_decide_eq_true ‹decide (spIdxB [69, 101, 72, 104] b ≥ 0) = true›)).2
        have h1 := rstep_n (acc := acc) hcl ‹(decide ((byteAt ⟨#[66, 98, 78, 110]⟩ (spIdxB [69, 101, 72, 104] b).toNat) ≥ 49) && decide ((byteAt ⟨#[66, 98, 78, 110]⟩ (spIdxB [69, 101, 72, 104] b).toNat) ≤ 57)) = false› ‹decide (spSide ((byteAt ⟨#[66, 98, 78, 110]⟩ (spIdxB [69, 101, 72, 104] b).toNat)) ≥ 0) = false›
        rw [(rank_bad (rank_rest hlt hq (by rw [hbd']; exact h1))).2]; exact chk_b rfl
      · have hcl := hlet.2.1 (by have := of_decide_eq_false ‹decide (spIdxB [69, 101, 72, 104] b ≥ 0) = false›; omega)
        obtain ⟨h1, h2, h3⟩ := rstep_d (acc := acc) hcl ‹(decide (b ≥ 49) && decide (b ≤ 57)) = true›
        rw [h2]; exact ⟨rfl, by omega, by omega⟩
      · have hcl := hlet.2.1 (by have := of_decide_eq_false ‹decide (spIdxB [69, 101, 72, 104] b ≥ 0) = false›; omega)
        obtain ⟨h1, h2, h3⟩ := rstep_d (acc := acc) hcl ‹(decide (b ≥ 49) && decide (b ≤ 57)) = true›
        simp only [h2]
        refine trOps_none rfl (inl_one false hS.seat.tt rfl rfl Tryz.func25 rfl rfl ?_)
        intro cI hkI hrI
        refine (vs.kin hkI).go rfl ?_
        repeat' (first | exact Bool.noConfusion ‹(!true) = true› | exact Bool.noConfusion ‹(!false) = false› | (intro h; exact h) | (intro h; rw [h]; rfl) | (intro h1 h2; rw [h1, h2]; rfl) | (intro _; assumption) | (intro _; exact rfl) | (intro h; exact Bool.noConfusion (h.symm.trans ‹_ = false›)) | refine ⟨fun _ => ?_, fun _ => ?_⟩ | refine ⟨?_⟩ | refine ⟨?_, ?_⟩ | fail)
        refine trOps_none rfl (tr_copyCheck cc_law rfl Tryz.func53 rfl rfl rfl rfl (by first | exact .inl rfl | exact .inr rfl) ?_)
        refine (vs.kin hkI).on ?_
        repeat' (first | exact Bool.noConfusion ‹(!true) = true› | exact Bool.noConfusion ‹(!false) = false› | (intro h; exact h) | (intro h; rw [h]; rfl) | (intro h1 h2; rw [h1, h2]; rfl) | (intro _; assumption) | (intro _; exact rfl) | (intro h; exact Bool.noConfusion (h.symm.trans ‹_ = false›)) | refine ⟨fun _ => ?_, fun _ => ?_⟩ | refine ⟨?_⟩ | refine ⟨?_, ?_⟩ | fail)
        · show acc.length + (bytesOf (List.replicate (b - 48).toNat 46)).size ≤ 4000000000
          rw [size_bytesOf, List.length_replicate]; omega
        refine vs.on ?_
        repeat' (first | exact Bool.noConfusion ‹(!true) = true› | exact Bool.noConfusion ‹(!false) = false› | (intro h; exact h) | (intro h; rw [h]; rfl) | (intro h1 h2; rw [h1, h2]; rfl) | (intro _; assumption) | (intro _; exact rfl) | (intro h; exact Bool.noConfusion (h.symm.trans ‹_ = false›)) | refine ⟨fun _ => ?_, fun _ => ?_⟩ | refine ⟨?_⟩ | refine ⟨?_, ?_⟩ | fail)
        refine Again.mk (0 + 1, acc ++ List.replicate (b - 48).toNat 46) ⟨hlt, rank_next hlt hq (by rw [hbd']; exact h1), by simp; omega, hb.app dots_by⟩ (by show (bytesL s).length - (0 + 1) < (bytesL s).length - (0); omega) ?_
        rw [bytesL_of dots_by.b, wrapN (by omega)]
        (refine ⟨?_, rfl, ?_, ?_, ?_, rfl⟩ <;> repeat' (first | exact trivial | (refine ⟨rfl, ?_⟩) | fail))
      · have hcl := hlet.2.1 (by have := of_decide_eq_false ‹decide (spIdxB [69, 101, 72, 104] b ≥ 0) = false›; omega)
        have h1 := rstep_p (acc := acc) hcl ‹(decide (b ≥ 49) && decide (b ≤ 57)) = false› ‹decide (spSide (b) ≥ 0) = true›
        refine trOps_none rfl (inl_one false hS.seat.tt rfl rfl Tryz.func27 rfl rfl ?_)
        intro cI hkI hrI
        refine (vs.kin hkI).go rfl ?_
        repeat' (first | exact Bool.noConfusion ‹(!true) = true› | exact Bool.noConfusion ‹(!false) = false› | (intro h; exact h) | (intro h; rw [h]; rfl) | (intro h1 h2; rw [h1, h2]; rfl) | (intro _; assumption) | (intro _; exact rfl) | (intro h; exact Bool.noConfusion (h.symm.trans ‹_ = false›)) | refine ⟨fun _ => ?_, fun _ => ?_⟩ | refine ⟨?_⟩ | refine ⟨?_, ?_⟩ | fail)
        refine trOps_none rfl (tr_copyCheck cc_law rfl Tryz.func53 rfl rfl rfl rfl (by first | exact .inl rfl | exact .inr rfl) ?_)
        refine (vs.kin hkI).on ?_
        repeat' (first | exact Bool.noConfusion ‹(!true) = true› | exact Bool.noConfusion ‹(!false) = false› | (intro h; exact h) | (intro h; rw [h]; rfl) | (intro h1 h2; rw [h1, h2]; rfl) | (intro _; assumption) | (intro _; exact rfl) | (intro h; exact Bool.noConfusion (h.symm.trans ‹_ = false›)) | refine ⟨fun _ => ?_, fun _ => ?_⟩ | refine ⟨?_⟩ | refine ⟨?_, ?_⟩ | fail)
        · show acc.length + 1 ≤ 4000000000; omega
        · show (acc.length + 1) * 1 ≤ 140737488355328; omega
        refine vs.on ?_
        repeat' (first | exact Bool.noConfusion ‹(!true) = true› | exact Bool.noConfusion ‹(!false) = false› | (intro h; exact h) | (intro h; rw [h]; rfl) | (intro h1 h2; rw [h1, h2]; rfl) | (intro _; assumption) | (intro _; exact rfl) | (intro h; exact Bool.noConfusion (h.symm.trans ‹_ = false›)) | refine ⟨fun _ => ?_, fun _ => ?_⟩ | refine ⟨?_⟩ | refine ⟨?_, ?_⟩ | fail)
        refine Again.mk (0 + 1, acc ++ [b]) ⟨hlt, rank_next hlt hq (by rw [hbd']; exact h1), by simp; omega, hb.app (.one (hcl ▸ (letter_at (hby hlt)).2.2))⟩ (by show (bytesL s).length - (0 + 1) < (bytesL s).length - (0); omega) ?_
        rw [wrapN (by omega)]
        (refine ⟨?_, rfl, ?_, ?_, ?_, rfl⟩ <;> repeat' (first | exact trivial | (refine ⟨rfl, ?_⟩) | fail))
      · have hcl := hlet.2.1 (by have := of_decide_eq_false ‹decide (spIdxB [69, 101, 72, 104] b ≥ 0) = false›; omega)
        have h1 := rstep_n (acc := acc) hcl ‹(decide (b ≥ 49) && decide (b ≤ 57)) = false› ‹decide (spSide (b) ≥ 0) = false›
        rw [(rank_bad (rank_rest hlt hq (by rw [hbd']; exact h1))).1]; exact chk_s rfl
      · have hcl := hlet.2.1 (by have := of_decide_eq_false ‹decide (spIdxB [69, 101, 72, 104] b ≥ 0) = false›; omega)
        have h1 := rstep_n (acc := acc) hcl ‹(decide (b ≥ 49) && decide (b ≤ 57)) = false› ‹decide (spSide (b) ≥ 0) = false›
        rw [(rank_bad (rank_rest hlt hq (by rw [hbd']; exact h1))).2]; exact chk_b rfl
    · obtain ⟨b, hbd⟩ : ∃ b, (bytesL s).getD (Int.ofNat ((i + 1))).toNat EK.byte.dflt = b := ⟨_, rfl⟩
      have hbd' : (bytesL s).getD ((i + 1)) 0 = b := hbd
      have hby : (i + 1) < (bytesL s).length → 0 ≤ b ∧ b < 256 := fun h => by
        rw [← hbd']
        refine bytesL_bound s _ ?_
        rw [List.getD_eq_getElem?_getD, List.getElem?_eq_getElem h]
        exact List.getElem_mem h
      refine vs.go rfl ?_
      repeat' (first | exact Bool.noConfusion ‹(!true) = true› | exact Bool.noConfusion ‹(!false) = false› | (intro h; exact h) | (intro h; rw [h]; rfl) | (intro h1 h2; rw [h1, h2]; rfl) | (intro _; assumption) | (intro _; exact rfl) | (intro h; exact Bool.noConfusion (h.symm.trans ‹_ = false›)) | refine ⟨fun _ => ?_, fun _ => ?_⟩ | refine ⟨?_⟩ | refine ⟨?_, ?_⟩ | fail)
      all_goals first | exact trivial | (refine (?_ : (_ : Int) ≠ _); decide) | exact rfl | skip
      all_goals try dsimp only at *
      all_goals simp only [hbd] at *
      all_goals first | exact trivial | exact rfl | skip
      rotate_right
      · have hil : (i + 1) = (bytesL s).length := Nat.le_antisymm hi (Nat.not_lt.1 fun h => of_decide_eq_false ‹decide (Int.ofNat ((i + 1)) < _) = false› (Int.ofNat_lt.2 h))
        rw [hil] at hq
        obtain ⟨e1, e2⟩ := rank_done hq
        refine trOps_strLen str_law len_law rfl rfl rfl rfl Tryz.func28 rfl rfl Tryz.func94 rfl rfl rfl rfl rfl rfl rfl hb ?_
        refine vs.on ?_
        repeat' (first | exact Bool.noConfusion ‹(!true) = true› | exact Bool.noConfusion ‹(!false) = false› | (intro h; exact h) | (intro h; rw [h]; rfl) | (intro h1 h2; rw [h1, h2]; rfl) | (intro _; assumption) | (intro _; exact rfl) | (intro h; exact Bool.noConfusion (h.symm.trans ‹_ = false›)) | refine ⟨fun _ => ?_, fun _ => ?_⟩ | refine ⟨?_⟩ | refine ⟨?_, ?_⟩ | fail)
        all_goals first | exact trivial | exact rfl | skip
        · rw [e1]; exact chk_s rfl
        · rw [e2]; refine chk_b ?_; rw [Bool.eq_iff_iff]; simp only [beq_iff_eq, decide_eq_true_eq]; omega
      all_goals
        have hlt : (i + 1) < (bytesL s).length := Int.ofNat_lt.1 (of_decide_eq_true ‹decide (Int.ofNat ((i + 1)) < _) = true›)
        have hlet := letter_at (hby hlt)
      · exact Int.ofNat_lt.2 hlt
      · exact of_decide_eq_true ‹decide (spIdxB [69, 101, 72, 104] b ≥ 0) = true›
      · exact (hlet.1 (of_decide_eq_true ‹decide (spIdxB [69, 101, 72, 104] b ≥ 0) = true›)).1
      · have hcl := (hlet.1 (of_decide_eq_true ‹decide (spIdxB [69, 101, 72, 104] b ≥ 0) = true›)).2
        obtain ⟨h1, h2, h3⟩ := rstep_d (acc := acc) hcl ‹(decide ((byteAt ⟨#[66, 98, 78, 110]⟩ (spIdxB [69, 101, 72, 104] b).toNat) ≥ 49) && decide ((byteAt ⟨#[66, 98, 78, 110]⟩ (spIdxB [69, 101, 72, 104] b).toNat) ≤ 57)) = true›
        rw [h2]; exact ⟨rfl, by omega, by omega⟩
      · have hcl := (hlet.1 (of_decide_eq_true ‹decide (spIdxB [69, 101, 72, 104] b ≥ 0) = true›)).2
        obtain ⟨h1, h2, h3⟩ := rstep_d (acc := acc) hcl ‹(decide ((byteAt ⟨#[66, 98, 78, 110]⟩ (spIdxB [69, 101, 72, 104] b).toNat) ≥ 49) && decide ((byteAt ⟨#[66, 98, 78, 110]⟩ (spIdxB [69, 101, 72, 104] b).toNat) ≤ 57)) = true›
        simp only [h2]
        refine trOps_none rfl (inl_one false hS.seat.tt rfl rfl Tryz.func25 rfl rfl ?_)
        intro cI hkI hrI
        refine (vs.kin hkI).go rfl ?_
        repeat' (first | exact Bool.noConfusion ‹(!true) = true› | exact Bool.noConfusion ‹(!false) = false› | (intro h; exact h) | (intro h; rw [h]; rfl) | (intro h1 h2; rw [h1, h2]; rfl) | (intro _; assumption) | (intro _; exact rfl) | (intro h; exact Bool.noConfusion (h.symm.trans ‹_ = false›)) | refine ⟨fun _ => ?_, fun _ => ?_⟩ | refine ⟨?_⟩ | refine ⟨?_, ?_⟩ | fail)
        refine trOps_none rfl (tr_copyCheck cc_law rfl Tryz.func53 rfl rfl rfl rfl (by first | exact .inl rfl | exact .inr rfl) ?_)
        refine (vs.kin hkI).on ?_
        repeat' (first | exact Bool.noConfusion ‹(!true) = true› | exact Bool.noConfusion ‹(!false) = false› | (intro h; exact h) | (intro h; rw [h]; rfl) | (intro h1 h2; rw [h1, h2]; rfl) | (intro _; assumption) | (intro _; exact rfl) | (intro h; exact Bool.noConfusion (h.symm.trans ‹_ = false›)) | refine ⟨fun _ => ?_, fun _ => ?_⟩ | refine ⟨?_⟩ | refine ⟨?_, ?_⟩ | fail)
        · show acc.length + (bytesOf (List.replicate ((byteAt ⟨#[66, 98, 78, 110]⟩ (spIdxB [69, 101, 72, 104] b).toNat) - 48).toNat 46)).size ≤ 4000000000
          rw [size_bytesOf, List.length_replicate]; omega
        refine vs.on ?_
        repeat' (first | exact Bool.noConfusion ‹(!true) = true› | exact Bool.noConfusion ‹(!false) = false› | (intro h; exact h) | (intro h; rw [h]; rfl) | (intro h1 h2; rw [h1, h2]; rfl) | (intro _; assumption) | (intro _; exact rfl) | (intro h; exact Bool.noConfusion (h.symm.trans ‹_ = false›)) | refine ⟨fun _ => ?_, fun _ => ?_⟩ | refine ⟨?_⟩ | refine ⟨?_, ?_⟩ | fail)
        refine Again.mk ((i + 1) + 1, acc ++ List.replicate ((byteAt ⟨#[66, 98, 78, 110]⟩ (spIdxB [69, 101, 72, 104] b).toNat) - 48).toNat 46) ⟨hlt, rank_next hlt hq (by rw [hbd']; exact h1), by simp; omega, hb.app dots_by⟩ (by show (bytesL s).length - ((i + 1) + 1) < (bytesL s).length - ((i + 1)); omega) ?_
        rw [bytesL_of dots_by.b, wrapN (by omega)]
        (refine ⟨?_, rfl, ?_, ?_, ?_, rfl⟩ <;> repeat' (first | exact trivial | (refine ⟨rfl, ?_⟩) | fail))
      · have hcl := (hlet.1 (of_decide_eq_true ‹decide (spIdxB [69, 101, 72, 104] b ≥ 0) = true›)).2
        have h1 := rstep_p (acc := acc) hcl ‹(decide ((byteAt ⟨#[66, 98, 78, 110]⟩ (spIdxB [69, 101, 72, 104] b).toNat) ≥ 49) && decide ((byteAt ⟨#[66, 98, 78, 110]⟩ (spIdxB [69, 101, 72, 104] b).toNat) ≤ 57)) = false› ‹decide (spSide ((byteAt ⟨#[66, 98, 78, 110]⟩ (spIdxB [69, 101, 72, 104] b).toNat)) ≥ 0) = true›
        refine trOps_none rfl (inl_one false hS.seat.tt rfl rfl Tryz.func27 rfl rfl ?_)
        intro cI hkI hrI
        refine (vs.kin hkI).go rfl ?_
        repeat' (first | exact Bool.noConfusion ‹(!true) = true› | exact Bool.noConfusion ‹(!false) = false› | (intro h; exact h) | (intro h; rw [h]; rfl) | (intro h1 h2; rw [h1, h2]; rfl) | (intro _; assumption) | (intro _; exact rfl) | (intro h; exact Bool.noConfusion (h.symm.trans ‹_ = false›)) | refine ⟨fun _ => ?_, fun _ => ?_⟩ | refine ⟨?_⟩ | refine ⟨?_, ?_⟩ | fail)
        refine trOps_none rfl (tr_copyCheck cc_law rfl Tryz.func53 rfl rfl rfl rfl (by first | exact .inl rfl | exact .inr rfl) ?_)
        refine (vs.kin hkI).on ?_
        repeat' (first | exact Bool.noConfusion ‹(!true) = true› | exact Bool.noConfusion ‹(!false) = false› | (intro h; exact h) | (intro h; rw [h]; rfl) | (intro h1 h2; rw [h1, h2]; rfl) | (intro _; assumption) | (intro _; exact rfl) | (intro h; exact Bool.noConfusion (h.symm.trans ‹_ = false›)) | refine ⟨fun _ => ?_, fun _ => ?_⟩ | refine ⟨?_⟩ | refine ⟨?_, ?_⟩ | fail)
        · show acc.length + 1 ≤ 4000000000; omega
        · show (acc.length + 1) * 1 ≤ 140737488355328; omega
        refine vs.on ?_
        repeat' (first | exact Bool.noConfusion ‹(!true) = true› | exact Bool.noConfusion ‹(!false) = false› | (intro h; exact h) | (intro h; rw [h]; rfl) | (intro h1 h2; rw [h1, h2]; rfl) | (intro _; assumption) | (intro _; exact rfl) | (intro h; exact Bool.noConfusion (h.symm.trans ‹_ = false›)) | refine ⟨fun _ => ?_, fun _ => ?_⟩ | refine ⟨?_⟩ | refine ⟨?_, ?_⟩ | fail)
        refine Again.mk ((i + 1) + 1, acc ++ [(byteAt ⟨#[66, 98, 78, 110]⟩ (spIdxB [69, 101, 72, 104] b).toNat)]) ⟨hlt, rank_next hlt hq (by rw [hbd']; exact h1), by simp; omega, hb.app (.one (hcl ▸ (letter_at (hby hlt)).2.2))⟩ (by show (bytesL s).length - ((i + 1) + 1) < (bytesL s).length - ((i + 1)); omega) ?_
        rw [wrapN (by omega)]
        (refine ⟨?_, rfl, ?_, ?_, ?_, rfl⟩ <;> repeat' (first | exact trivial | (refine ⟨rfl, ?_⟩) | fail))
      · have hcl := (hlet.1 (of_decide_eq_true ‹decide (spIdxB [69, 101, 72, 104] b ≥ 0) = true›)).2
        have h1 := rstep_n (acc := acc) hcl ‹(decide ((byteAt ⟨#[66, 98, 78, 110]⟩ (spIdxB [69, 101, 72, 104] b).toNat) ≥ 49) && decide ((byteAt ⟨#[66, 98, 78, 110]⟩ (spIdxB [69, 101, 72, 104] b).toNat) ≤ 57)) = false› ‹decide (spSide ((byteAt ⟨#[66, 98, 78, 110]⟩ (spIdxB [69, 101, 72, 104] b).toNat)) ≥ 0) = false›
        rw [(rank_bad (rank_rest hlt hq (by rw [hbd']; exact h1))).1]; exact chk_s rfl
      · have hcl := (hlet.1 (of_decide_eq_true ‹decide (spIdxB [69, 101, 72, 104] b ≥ 0) = true›)).2
        have h1 := rstep_n (acc := acc) hcl ‹(decide ((byteAt ⟨#[66, 98, 78, 110]⟩ (spIdxB [69, 101, 72, 104] b).toNat) ≥ 49) && decide ((byteAt ⟨#[66, 98, 78, 110]⟩ (spIdxB [69, 101, 72, 104] b).toNat) ≤ 57)) = false› ‹decide (spSide ((byteAt ⟨#[66, 98, 78, 110]⟩ (spIdxB [69, 101, 72, 104] b).toNat)) ≥ 0) = false›
        rw [(rank_bad (rank_rest hlt hq (by rw [hbd']; exact h1))).2]; exact chk_b rfl
      · have hcl := hlet.2.1 (by have := of_decide_eq_false ‹decide (spIdxB [69, 101, 72, 104] b ≥ 0) = false›; omega)
        obtain ⟨h1, h2, h3⟩ := rstep_d (acc := acc) hcl ‹(decide (b ≥ 49) && decide (b ≤ 57)) = true›
        rw [h2]; exact ⟨rfl, by omega, by omega⟩
      · have hcl := hlet.2.1 (by have := of_decide_eq_false ‹decide (spIdxB [69, 101, 72, 104] b ≥ 0) = false›; omega)
        obtain ⟨h1, h2, h3⟩ := rstep_d (acc := acc) hcl ‹(decide (b ≥ 49) && decide (b ≤ 57)) = true›
        simp only [h2]
        refine trOps_none rfl (inl_one false hS.seat.tt rfl rfl Tryz.func25 rfl rfl ?_)
        intro cI hkI hrI
        refine (vs.kin hkI).go rfl ?_
        repeat' (first | exact Bool.noConfusion ‹(!true) = true› | exact Bool.noConfusion ‹(!false) = false› | (intro h; exact h) | (intro h; rw [h]; rfl) | (intro h1 h2; rw [h1, h2]; rfl) | (intro _; assumption) | (intro _; exact rfl) | (intro h; exact Bool.noConfusion (h.symm.trans ‹_ = false›)) | refine ⟨fun _ => ?_, fun _ => ?_⟩ | refine ⟨?_⟩ | refine ⟨?_, ?_⟩ | fail)
        refine trOps_none rfl (tr_copyCheck cc_law rfl Tryz.func53 rfl rfl rfl rfl (by first | exact .inl rfl | exact .inr rfl) ?_)
        refine (vs.kin hkI).on ?_
        repeat' (first | exact Bool.noConfusion ‹(!true) = true› | exact Bool.noConfusion ‹(!false) = false› | (intro h; exact h) | (intro h; rw [h]; rfl) | (intro h1 h2; rw [h1, h2]; rfl) | (intro _; assumption) | (intro _; exact rfl) | (intro h; exact Bool.noConfusion (h.symm.trans ‹_ = false›)) | refine ⟨fun _ => ?_, fun _ => ?_⟩ | refine ⟨?_⟩ | refine ⟨?_, ?_⟩ | fail)
        · show acc.length + (bytesOf (List.replicate (b - 48).toNat 46)).size ≤ 4000000000
          rw [size_bytesOf, List.length_replicate]; omega
        refine vs.on ?_
        repeat' (first | exact Bool.noConfusion ‹(!true) = true› | exact Bool.noConfusion ‹(!false) = false› | (intro h; exact h) | (intro h; rw [h]; rfl) | (intro h1 h2; rw [h1, h2]; rfl) | (intro _; assumption) | (intro _; exact rfl) | (intro h; exact Bool.noConfusion (h.symm.trans ‹_ = false›)) | refine ⟨fun _ => ?_, fun _ => ?_⟩ | refine ⟨?_⟩ | refine ⟨?_, ?_⟩ | fail)
        refine Again.mk ((i + 1) + 1, acc ++ List.replicate (b - 48).toNat 46) ⟨hlt, rank_next hlt hq (by rw [hbd']; exact h1), by simp; omega, hb.app dots_by⟩ (by show (bytesL s).length - ((i + 1) + 1) < (bytesL s).length - ((i + 1)); omega) ?_
        rw [bytesL_of dots_by.b, wrapN (by omega)]
        (refine ⟨?_, rfl, ?_, ?_, ?_, rfl⟩ <;> repeat' (first | exact trivial | (refine ⟨rfl, ?_⟩) | fail))
      · have hcl := hlet.2.1 (by have := of_decide_eq_false ‹decide (spIdxB [69, 101, 72, 104] b ≥ 0) = false›; omega)
        have h1 := rstep_p (acc := acc) hcl ‹(decide (b ≥ 49) && decide (b ≤ 57)) = false› ‹decide (spSide (b) ≥ 0) = true›
        refine trOps_none rfl (inl_one false hS.seat.tt rfl rfl Tryz.func27 rfl rfl ?_)
        intro cI hkI hrI
        refine (vs.kin hkI).go rfl ?_
        repeat' (first | exact Bool.noConfusion ‹(!true) = true› | exact Bool.noConfusion ‹(!false) = false› | (intro h; exact h) | (intro h; rw [h]; rfl) | (intro h1 h2; rw [h1, h2]; rfl) | (intro _; assumption) | (intro _; exact rfl) | (intro h; exact Bool.noConfusion (h.symm.trans ‹_ = false›)) | refine ⟨fun _ => ?_, fun _ => ?_⟩ | refine ⟨?_⟩ | refine ⟨?_, ?_⟩ | fail)
        refine trOps_none rfl (tr_copyCheck cc_law rfl Tryz.func53 rfl rfl rfl rfl (by first | exact .inl rfl | exact .inr rfl) ?_)
        refine (vs.kin hkI).on ?_
        repeat' (first | exact Bool.noConfusion ‹(!true) = true› | exact Bool.noConfusion ‹(!false) = false› | (intro h; exact h) | (intro h; rw [h]; rfl) | (intro h1 h2; rw [h1, h2]; rfl) | (intro _; assumption) | (intro _; exact rfl) | (intro h; exact Bool.noConfusion (h.symm.trans ‹_ = false›)) | refine ⟨fun _ => ?_, fun _ => ?_⟩ | refine ⟨?_⟩ | refine ⟨?_, ?_⟩ | fail)
        · show acc.length + 1 ≤ 4000000000; omega
        · show (acc.length + 1) * 1 ≤ 140737488355328; omega
        refine vs.on ?_
        repeat' (first | exact Bool.noConfusion ‹(!true) = true› | exact Bool.noConfusion ‹(!false) = false› | (intro h; exact h) | (intro h; rw [h]; rfl) | (intro h1 h2; rw [h1, h2]; rfl) | (intro _; assumption) | (intro _; exact rfl) | (intro h; exact Bool.noConfusion (h.symm.trans ‹_ = false›)) | refine ⟨fun _ => ?_, fun _ => ?_⟩ | refine ⟨?_⟩ | refine ⟨?_, ?_⟩ | fail)
        refine Again.mk ((i + 1) + 1, acc ++ [b]) ⟨hlt, rank_next hlt hq (by rw [hbd']; exact h1), by simp; omega, hb.app (.one (hcl ▸ (letter_at (hby hlt)).2.2))⟩ (by show (bytesL s).length - ((i + 1) + 1) < (bytesL s).length - ((i + 1)); omega) ?_
        rw [wrapN (by omega)]
        (refine ⟨?_, rfl, ?_, ?_, ?_, rfl⟩ <;> repeat' (first | exact trivial | (refine ⟨rfl, ?_⟩) | fail))
      · have hcl := hlet.2.1 (by have := of_decide_eq_false ‹decide (spIdxB [69, 101, 72, 104] b ≥ 0) = false›; omega)
        have h1 := rstep_n (acc := acc) hcl ‹(decide (b ≥ 49) && decide (b ≤ 57)) = false› ‹decide (spSide (b) ≥ 0) = false›
        rw [(rank_bad (rank_rest hlt hq (by rw [hbd']; exact h1))).1]; exact chk_s rfl
      · have hcl := hlet.2.1 (by have := of_decide_eq_false ‹decide (spIdxB [69, 101, 72, 104] b ≥ 0) = false›; omega)
        have h1 := rstep_n (acc := acc) hcl ‹(decide (b ≥ 49) && decide (b ≤ 57)) = false› ‹decide (spSide (b) ≥ 0) = false›
        rw [(rank_bad (rank_rest hlt hq (by rw [hbd']; exact h1))).2]; exact chk_b rfl
  · cases hcr
end
end Go.X

namespace Go.X
open Go Go.Proofs

def cCellsP : Con
  | [.a (.s s)] => some ⟨[TZ4 s], .tup [.a (.s (bytesOf (cellsT (bytesL s)))), .a (.b (cellsOk (bytesL s)))], [], []⟩
  | _ => none
section
variable {G : Nat → World → Prop}
set_option maxHeartbeats 4000000 in
set_option maxRecDepth 20000 in
theorem okCellsP (hS : Hyp G) : ConOK Tryz.prog G 41 cCellsP := by
  refine seat_con hS.seat [(38, cSplitS), (29, cRev), (1000029, cMark), (66, cRankP), (28, cBStrS), (1000028, cMark)] [] ⟨okSplitS hS, okRev hS, okMark, okRankP hS, okBStrS hS, okMark, trivial⟩ Tryz.func41 rfl rfl rfl ?_
  intro rvs cr hcr hpre
  unfold cCellsP at hcr
  split at hcr
  · rename_i s
    cases hcr
    simp only [List.mem_cons, List.not_mem_nil, or_false, forall_eq_or_imp, forall_eq] at hpre
    refine ⟨⟨rfl, rfl, rfl⟩, fun c hc vs => ?_⟩
    have hsz := hpre.le
    obtain ⟨L, hL⟩ : ∃ L, (pieces 47 s).reverse = L := ⟨_, rfl⟩
    have hLs : splitL s ⟨#[47]⟩ = pieces 47 s := rfl
    have e3 : (pieces 47 s).length = L.length := by rw [← hL, List.length_reverse]
    have hLn : L.length ≤ s.size + 1 := by
      rw [← hL, List.length_reverse, pieces_length]
      have := cutAt_len 47 (bytesL s)
      have e : (bytesL s).length = s.size := by simp [bytesL]
      omega
    repeat' (first | exact Bool.noConfusion ‹(!true) = true› | exact Bool.noConfusion ‹(!false) = false› | (intro h; exact h) | (intro h; rw [h]; rfl) | (intro h1 h2; rw [h1, h2]; rfl) | (intro _; assumption) | (intro _; exact rfl) | (intro h; exact Bool.noConfusion (h.symm.trans ‹_ = false›)) | refine ⟨fun _ => ?_, fun _ => ?_⟩ | refine ⟨?_⟩ | refine ⟨?_, ?_⟩ | fail)
    all_goals try simp only [hLs, hL]
    all_goals first | exact rfl | exact trivial | skip
    · exact ⟨hsz, rfl, trivial⟩
    · rw [← List.length_reverse, hL]; omega
    refine Tr_nilBox 5 (.int .u8) 0 1 rfl rfl (by decide) ?_
    refine Tr_loopH (α := Nat × List Int) (fun x => [(16, .i .i64 (.ofNat x.1))]) (fun x => [(0, some ⟨53, [fr0 x.1, .row 1], true⟩)]) (fun x => [(1, some ⟨5, .int .u8, x.2, true⟩)])
      (fun x => x.1 ≤ L.length ∧ (L.take x.1).foldl cstepB (some []) = some x.2 ∧ x.2.length = 9 * x.1 ∧ BYL x.2) (fun x => L.length - x.1) (0, []) ⟨Nat.zero_le _, rfl, rfl, ⟨by simp, trivial, trivial⟩⟩ (by (refine ⟨?_, rfl, ?_, ?_, ?_, rfl⟩ <;> repeat' (first | exact trivial | (refine ⟨rfl, ?_⟩) | fail))) ?_
    rintro ⟨i, acc⟩ ⟨hi, hq, hl, hb⟩
    rcases i with _ | i
    · refine vs.go rfl ?_
      repeat' (first | exact Bool.noConfusion ‹(!true) = true› | exact Bool.noConfusion ‹(!false) = false› | (intro h; exact h) | (intro h; rw [h]; rfl) | (intro h1 h2; rw [h1, h2]; rfl) | (intro _; assumption) | (intro _; exact rfl) | (intro h; exact Bool.noConfusion (h.symm.trans ‹_ = false›)) | refine ⟨fun _ => ?_, fun _ => ?_⟩ | refine ⟨?_⟩ | refine ⟨?_, ?_⟩ | fail)
      all_goals first | exact trivial | (refine (?_ : (_ : Int) ≠ _); decide) | exact rfl | skip
      all_goals try dsimp only at *
      all_goals first | exact trivial | exact rfl | skip
      rotate_right 3
      · exact hb
      all_goals first | (have hil : 0 = L.length := Nat.le_antisymm hi (Nat.not_lt.1 fun h => of_decide_eq_false ‹decide (Int.ofNat (0) < _) = false› (Int.ofNat_lt.2 h))
                         rw [hil, ← hL] at hq
                         obtain ⟨e1, e2⟩ := cells_done hq
                         first | (rw [e1]; exact chk_s rfl) | (rw [e2]; refine chk_b ?_; rw [e3, Bool.eq_iff_iff]; simp only [beq_iff_eq, decide_eq_true_eq]; omega)) | skip
      all_goals
        have hlt : 0 < L.length := Int.ofNat_lt.1 (of_decide_eq_true ‹decide (Int.ofNat (0) < _) = true›)
        have hmem : L.getD (0) ByteArray.empty ∈ L := getD_mem hlt
        have hpz : (L.getD (0) ByteArray.empty).size ≤ s.size := by
          rw [← hL] at hmem ⊢
          exact pieces_short (List.mem_reverse.1 hmem)
      · exact Int.ofNat_lt.2 hlt
      · exact ⟨by show (L.getD (0) ByteArray.empty).size ≤ _; omega, trivial, trivial⟩
      · have hr : rankOk (bytesL (L.getD (0) ByteArray.empty)) = false := (Bool.not_eq_true' _).mp (‹(!rankOk _) = true› : (!rankOk (bytesL (L.getD (0) ByteArray.empty))) = true)
        subst hL
        rw [(cells_bad hlt hq hr).1]; exact chk_s rfl
      · have hr : rankOk (bytesL (L.getD (0) ByteArray.empty)) = false := (Bool.not_eq_true' _).mp (‹(!rankOk _) = true› : (!rankOk (bytesL (L.getD (0) ByteArray.empty))) = true)
        subst hL
        rw [(cells_bad hlt hq hr).2]; exact chk_b rfl
      · have hr : rankOk (bytesL (L.getD (0) ByteArray.empty)) = true := (Bool.not_eq_false' _).mp (‹(!rankOk _) = false› : (!rankOk (bytesL (L.getD (0) ByteArray.empty))) = false)
        have h9 := ((rank_two _).1 hr).2
        have hrb := rank_by (b := bytesL (L.getD (0) ByteArray.empty)) (fun x hx => bytesL_bound _ x hx)
        repeat' (first | exact Bool.noConfusion ‹(!true) = true› | exact Bool.noConfusion ‹(!false) = false› | (intro h; exact h) | (intro h; rw [h]; rfl) | (intro h1 h2; rw [h1, h2]; rfl) | (intro _; assumption) | (intro _; exact rfl) | (intro h; exact Bool.noConfusion (h.symm.trans ‹_ = false›)) | refine ⟨fun _ => ?_, fun _ => ?_⟩ | refine ⟨?_⟩ | refine ⟨?_, ?_⟩ | fail)
        refine trOps_none rfl (inl_one false hS.seat.tt rfl rfl Tryz.func25 rfl rfl ?_)
        intro cI hkI hrI
        refine (vs.kin hkI).go rfl ?_
        repeat' (first | exact Bool.noConfusion ‹(!true) = true› | exact Bool.noConfusion ‹(!false) = false› | (intro h; exact h) | (intro h; rw [h]; rfl) | (intro h1 h2; rw [h1, h2]; rfl) | (intro _; assumption) | (intro _; exact rfl) | (intro h; exact Bool.noConfusion (h.symm.trans ‹_ = false›)) | refine ⟨fun _ => ?_, fun _ => ?_⟩ | refine ⟨?_⟩ | refine ⟨?_, ?_⟩ | fail)
        refine trOps_none rfl (tr_copyCheck cc_law rfl Tryz.func53 rfl rfl rfl rfl (by first | exact .inl rfl | exact .inr rfl) ?_)
        refine (vs.kin hkI).on ?_
        repeat' (first | exact Bool.noConfusion ‹(!true) = true› | exact Bool.noConfusion ‹(!false) = false› | (intro h; exact h) | (intro h; rw [h]; rfl) | (intro h1 h2; rw [h1, h2]; rfl) | (intro _; assumption) | (intro _; exact rfl) | (intro h; exact Bool.noConfusion (h.symm.trans ‹_ = false›)) | refine ⟨fun _ => ?_, fun _ => ?_⟩ | refine ⟨?_⟩ | refine ⟨?_, ?_⟩ | fail)
        · show acc.length + (bytesOf (rankT (bytesL (L.getD (0) ByteArray.empty)))).size ≤ 4000000000
          rw [size_bytesOf, h9]; omega
        refine vs.on ?_
        repeat' (first | exact Bool.noConfusion ‹(!true) = true› | exact Bool.noConfusion ‹(!false) = false› | (intro h; exact h) | (intro h; rw [h]; rfl) | (intro h1 h2; rw [h1, h2]; rfl) | (intro _; assumption) | (intro _; exact rfl) | (intro h; exact Bool.noConfusion (h.symm.trans ‹_ = false›)) | refine ⟨fun _ => ?_, fun _ => ?_⟩ | refine ⟨?_⟩ | refine ⟨?_, ?_⟩ | fail)
        refine Again.mk (0 + 1, acc ++ rankT (bytesL (L.getD (0) ByteArray.empty))) ⟨hlt, cells_next hlt hq hr, by show (acc ++ _).length = _; rw [List.length_append, h9]; omega, hb.app hrb⟩ (by show L.length - (0 + 1) < L.length - (0); omega) ?_
        have hbl : bytesL (bytesOf (rankT (bytesL (L.getD (Int.ofNat (0)).toNat EK.str.dflt)))) = rankT (bytesL (L.getD (0) ByteArray.empty)) := bytesL_of hrb.b
        rw [hbl, wrapN (by omega)]
        (refine ⟨?_, rfl, ?_, ?_, ?_, rfl⟩ <;> repeat' (first | exact trivial | (refine ⟨rfl, ?_⟩) | fail))
    · refine vs.go rfl ?_
      repeat' (first | exact Bool.noConfusion ‹(!true) = true› | exact Bool.noConfusion ‹(!false) = false› | (intro h; exact h) | (intro h; rw [h]; rfl) | (intro h1 h2; rw [h1, h2]; rfl) | (intro _; assumption) | (intro _; exact rfl) | (intro h; exact Bool.noConfusion (h.symm.trans ‹_ = false›)) | refine ⟨fun _ => ?_, fun _ => ?_⟩ | refine ⟨?_⟩ | refine ⟨?_, ?_⟩ | fail)
      all_goals first | exact trivial | (refine (?_ : (_ : Int) ≠ _); decide) | exact rfl | skip
      all_goals try dsimp only at *
      all_goals first | exact trivial | exact rfl | skip
      rotate_right 3
      · exact hb
      all_goals first | (have hil : (i + 1) = L.length := Nat.le_antisymm hi (Nat.not_lt.1 fun h => of_decide_eq_false ‹decide (Int.ofNat ((i + 1)) < _) = false› (Int.ofNat_lt.2 h))
                         rw [hil, ← hL] at hq
                         obtain ⟨e1, e2⟩ := cells_done hq
                         first | (rw [e1]; exact chk_s rfl) | (rw [e2]; refine chk_b ?_; rw [e3, Bool.eq_iff_iff]; simp only [beq_iff_eq, decide_eq_true_eq]; omega)) | skip
      all_goals
        have hlt : (i + 1) < L.length := Int.ofNat_lt.1 (of_decide_eq_true ‹decide (Int.ofNat ((i + 1)) < _) = true›)
        have hmem : L.getD ((i + 1)) ByteArray.empty ∈ L := getD_mem hlt
        have hpz : (L.getD ((i + 1)) ByteArray.empty).size ≤ s.size := by
          rw [← hL] at hmem ⊢
          exact pieces_short (List.mem_reverse.1 hmem)
      · exact Int.ofNat_lt.2 hlt
      · exact ⟨by show (L.getD ((i + 1)) ByteArray.empty).size ≤ _; omega, trivial, trivial⟩
      · have hr : rankOk (bytesL (L.getD ((i + 1)) ByteArray.empty)) = false := (Bool.not_eq_true' _).mp (‹(!rankOk _) = true› : (!rankOk (bytesL (L.getD ((i + 1)) ByteArray.empty))) = true)
        subst hL
        rw [(cells_bad hlt hq hr).1]; exact chk_s rfl
      · have hr : rankOk (bytesL (L.getD ((i + 1)) ByteArray.empty)) = false := (Bool.not_eq_true' _).mp (‹(!rankOk _) = true› : (!rankOk (bytesL (L.getD ((i + 1)) ByteArray.empty))) = true)
        subst hL
        rw [(cells_bad hlt hq hr).2]; exact chk_b rfl
      · have hr : rankOk (bytesL (L.getD ((i + 1)) ByteArray.empty)) = true := (Bool.not_eq_false' _).mp (‹(!rankOk _) = false› : (!rankOk (bytesL (L.getD ((i + 1)) ByteArray.empty))) = false)
        have h9 := ((rank_two _).1 hr).2
        have hrb := rank_by (b := bytesL (L.getD ((i + 1)) ByteArray.empty)) (fun x hx => bytesL_bound _ x hx)
        repeat' (first | exact Bool.noConfusion ‹(!true) = true› | exact Bool.noConfusion ‹(!false) = false› | (intro h; exact h) | (intro h; rw [h]; rfl) | (intro h1 h2; rw [h1, h2]; rfl) | (intro _; assumption) | (intro _; exact rfl) | (intro h; exact Bool.noConfusion (h.symm.trans ‹_ = false›)) | refine ⟨fun _ => ?_, fun _ => ?_⟩ | refine ⟨?_⟩ | refine ⟨?_, ?_⟩ | fail)
        refine trOps_none rfl (inl_one false hS.seat.tt rfl rfl Tryz.func25 rfl rfl ?_)
        intro cI hkI hrI
        refine (vs.kin hkI).go rfl ?_
        repeat' (first | exact Bool.noConfusion ‹(!true) = true› | exact Bool.noConfusion ‹(!false) = false› | (intro h; exact h) | (intro h; rw [h]; rfl) | (intro h1 h2; rw [h1, h2]; rfl) | (intro _; assumption) | (intro _; exact rfl) | (intro h; exact Bool.noConfusion (h.symm.trans ‹_ = false›)) | refine ⟨fun _ => ?_, fun _ => ?_⟩ | refine ⟨?_⟩ | refine ⟨?_, ?_⟩ | fail)
        refine trOps_none rfl (tr_copyCheck cc_law rfl Tryz.func53 rfl rfl rfl rfl (by first | exact .inl rfl | exact .inr rfl) ?_)
        refine (vs.kin hkI).on ?_
        repeat' (first | exact Bool.noConfusion ‹(!true) = true› | exact Bool.noConfusion ‹(!false) = false› | (intro h; exact h) | (intro h; rw [h]; rfl) | (intro h1 h2; rw [h1, h2]; rfl) | (intro _; assumption) | (intro _; exact rfl) | (intro h; exact Bool.noConfusion (h.symm.trans ‹_ = false›)) | refine ⟨fun _ => ?_, fun _ => ?_⟩ | refine ⟨?_⟩ | refine ⟨?_, ?_⟩ | fail)
        · show acc.length + (bytesOf (rankT (bytesL (L.getD ((i + 1)) ByteArray.empty)))).size ≤ 4000000000
          rw [size_bytesOf, h9]; omega
        refine vs.on ?_
        repeat' (first | exact Bool.noConfusion ‹(!true) = true› | exact Bool.noConfusion ‹(!false) = false› | (intro h; exact h) | (intro h; rw [h]; rfl) | (intro h1 h2; rw [h1, h2]; rfl) | (intro _; assumption) | (intro _; exact rfl) | (intro h; exact Bool.noConfusion (h.symm.trans ‹_ = false›)) | refine ⟨fun _ => ?_, fun _ => ?_⟩ | refine ⟨?_⟩ | refine ⟨?_, ?_⟩ | fail)
        refine Again.mk ((i + 1) + 1, acc ++ rankT (bytesL (L.getD ((i + 1)) ByteArray.empty))) ⟨hlt, cells_next hlt hq hr, by show (acc ++ _).length = _; rw [List.length_append, h9]; omega, hb.app hrb⟩ (by show L.length - ((i + 1) + 1) < L.length - ((i + 1)); omega) ?_
        have hbl : bytesL (bytesOf (rankT (bytesL (L.getD (Int.ofNat ((i + 1))).toNat EK.str.dflt)))) = rankT (bytesL (L.getD ((i + 1)) ByteArray.empty)) := bytesL_of hrb.b
        rw [hbl, wrapN (by omega)]
        (refine ⟨?_, rfl, ?_, ?_, ?_, rfl⟩ <;> repeat' (first | exact trivial | (refine ⟨rfl, ?_⟩) | fail))
  · cases hcr
end
end Go.X

namespace Go.X
open Go Go.Proofs Go.Extern Go.RowKit Go.Sort

structure ATO (s : ByteArray) (b : Bool) : Prop where
  le : s.size ≤ 4000000
  ok : atoiOk s = b
  v : True
def cAtoiOk : Con
  | [.a (.s s)] => some ⟨[ATO s true], .a (.tup [.i .i64 (atoiV s), .nili]), [], []⟩
  | _ => none
def cAtoiBad : Con
  | [.a (.s s)] => some ⟨[ATO s false], .a (.tup [.i .i64 (atoiV s), .ifc 137 .any]), [], []⟩
  | _ => none
structure I64 (n : Int) : Prop where
  lo : -9223372036854775808 ≤ n
  hi : n ≤ 9223372036854775807
  v : True
def cItoaS : Con
  | [.a (.i .i64 n)] => some ⟨[I64 n], .a (.s (itoaB n)), [], []⟩
  | _ => none
def cNumPOk : Con
  | [.a (.s s)] => some ⟨[ATO s true], .tup [.a (.i .i64 (atoiV s)), .a (.b (numOk s))], [], []⟩
  | _ => none
def cNumPBad : Con
  | [.a (.s s)] => some ⟨[ATO s false], .tup [.a (.i .i64 (atoiV s)), .a (.b (numOk s))], [], []⟩
  | _ => none
def cNumP : Con
  | [.a (.s s)] => some ⟨[TZ4 s], .tup [.a (.i .i64 (atoiV s)), .a (.b (numOk s))], [], []⟩
  | _ => none
section
variable {G : Nat → World → Prop}
theorem okAtoiOk (hS : Hyp G) : ConOK Tryz.prog G 64 cAtoiOk := by
  refine con_extR Tryz.func64 rfl rfl ?_
  intro rvs cr hcr hpre
  unfold cAtoiOk at hcr
  split at hcr
  · rename_i s
    cases hcr
    have hp := hpre _ (List.mem_singleton.2 rfl)
    have hz := hp.le
    have ho := hp.ok
    unfold atoiOk at ho
    split at ho
    · rename_i v hv
      have hval : atoiV s = v := by unfold atoiV; rw [hv]
      refine ⟨_, _, rfl, rfl, fun g0 w _ _ => (Tryz.strconv_Atoi_ok s (by omega) v hv w).mono ?_⟩
      rintro e w' ⟨rfl, h⟩
      refine ⟨⟨_, rfl, fun st e => ?_⟩, ?_⟩
      · rw [hval]; exact ⟨[_, _], rfl, _, _, rfl, rfl, _, _, rfl, rfl, rfl⟩
      · rcases h with rfl | ⟨t, rfl⟩
        · exact Below.refl _ _
        · exact Lib.bytesWorld_below _ _ _
    · cases ho
  · cases hcr
theorem okAtoiBad (hS : Hyp G) : ConOK Tryz.prog G 64 cAtoiBad := by
  refine con_extR Tryz.func64 rfl rfl ?_
  intro rvs cr hcr hpre
  unfold cAtoiBad at hcr
  split at hcr
  · rename_i s
    cases hcr
    have hp := hpre _ (List.mem_singleton.2 rfl)
    have hz := hp.le
    have ho := hp.ok
    refine ⟨_, _, rfl, rfl, fun g0 w _ hG => ?_⟩
    have hgl := hS.glob g0 w hG
    unfold atoiOk at ho
    cases hv : Lib.atoiAll s.data.toList with
    | ok v => rw [hv] at ho; cases ho
    | range =>
      have hval : atoiV s = Lib.atoiSat s.data.toList := by unfold atoiV; rw [hv]
      obtain ⟨tp, p, hs⟩ := hgl.rng
      refine (Tryz.strconv_Atoi_range_var s (by omega) hv tp p w hs).mono ?_
      rintro e w' ⟨N, rfl, _, _, hb⟩
      refine ⟨⟨_, rfl, fun st e => ?_⟩, hb⟩
      rw [hval]; exact ⟨[_, _], rfl, _, _, rfl, rfl, _, _, rfl, ⟨_, rfl, trivial⟩, rfl⟩
    | _ =>
      have hval : atoiV s = 0 := by unfold atoiV; rw [hv]
      obtain ⟨tp, p, hs⟩ := hgl.syn
      refine (Tryz.strconv_Atoi_syntax_var s (by omega) hv tp p w hs).mono ?_
      rintro e w' ⟨N, rfl, _, _, hb⟩
      refine ⟨⟨_, rfl, fun st e => ?_⟩, hb⟩
      rw [hval]; exact ⟨[_, _], rfl, _, _, rfl, rfl, _, _, rfl, ⟨_, rfl, trivial⟩, rfl⟩
  · cases hcr
theorem okItoaS (hS : Hyp G) : ConOK Tryz.prog G 26 cItoaS := by
  refine con_ext Tryz.func26 rfl rfl ?_
  intro rvs cr hcr hpre
  unfold cItoaS at hcr
  split at hcr
  · rename_i n
    cases hcr
    have hp := hpre _ (List.mem_singleton.2 rfl)
    refine ⟨_, .string (itoaB n), _, rfl, rfl, fun _ _ => rfl, fun g0 w _ hG => (Tryz.strconv_Itoa n hp.lo hp.hi w (hS.glob g0 w hG).pow).mono ?_⟩
    rintro e w' ⟨rfl, k, os, rfl⟩
    refine ⟨rfl, ⟨rfl, rfl, rfl, by simp [grow], fun i hi => ?_⟩⟩
    show ((w.drewN k).heap ++ os)[i]? = _
    rw [Array.getElem?_append_left (by show i < w.heap.size; omega)]; rfl
  · cases hcr
set_option maxHeartbeats 4000000 in
set_option maxRecDepth 20000 in
theorem okNumPOk (hS : Hyp G) : ConOK Tryz.prog G 39 cNumPOk := by
  refine seat_con hS.seat [(64, cAtoiOk), (26, cItoaS)] [] ⟨okAtoiOk hS, okItoaS hS, trivial⟩ Tryz.func39 rfl rfl rfl ?_
  intro rvs cr hcr hpre
  unfold cNumPOk at hcr
  split at hcr
  · rename_i s
    cases hcr
    simp only [List.mem_cons, List.not_mem_nil, or_false, forall_eq_or_imp, forall_eq] at hpre
    refine ⟨⟨rfl, rfl, rfl⟩, fun c hc vs => ?_⟩
    have hsz := hpre.le
    have hok := hpre.ok
    have hbd := atoiV_bounds s
    repeat' (first | exact Bool.noConfusion ‹(!true) = true› | exact Bool.noConfusion ‹(!false) = false› | (intro h; exact h) | (intro h; rw [h]; rfl) | (intro h1 h2; rw [h1, h2]; rfl) | (intro _; assumption) | (intro _; exact rfl) | (intro h; exact Bool.noConfusion (h.symm.trans ‹_ = false›)) | refine ⟨fun _ => ?_, fun _ => ?_⟩ | refine ⟨?_⟩ | refine ⟨?_, ?_⟩ | fail)
    all_goals first | exact trivial | (refine (?_ : (_ : Int) ≠ _); decide) | exact rfl | skip
    all_goals try dsimp only at *
    all_goals first | exact rfl | exact trivial | exact hpre | exact fun _ => ⟨hbd.1, hbd.2, trivial⟩ | skip
    all_goals (refine chk_b ?_; unfold numOk; rw [hok])
  · cases hcr
set_option maxHeartbeats 4000000 in
set_option maxRecDepth 20000 in
theorem okNumPBad (hS : Hyp G) : ConOK Tryz.prog G 39 cNumPBad := by
  refine seat_con hS.seat [(64, cAtoiBad), (26, cItoaS)] [] ⟨okAtoiBad hS, okItoaS hS, trivial⟩ Tryz.func39 rfl rfl rfl ?_
  intro rvs cr hcr hpre
  unfold cNumPBad at hcr
  split at hcr
  · rename_i s
    cases hcr
    simp only [List.mem_cons, List.not_mem_nil, or_false, forall_eq_or_imp, forall_eq] at hpre
    refine ⟨⟨rfl, rfl, rfl⟩, fun c hc vs => ?_⟩
    have hsz := hpre.le
    have hok := hpre.ok
    have hbd := atoiV_bounds s
    repeat' (first | exact Bool.noConfusion ‹(!true) = true› | exact Bool.noConfusion ‹(!false) = false› | (intro h; exact h) | (intro h; rw [h]; rfl) | (intro h1 h2; rw [h1, h2]; rfl) | (intro _; assumption) | (intro _; exact rfl) | (intro h; exact Bool.noConfusion (h.symm.trans ‹_ = false›)) | refine ⟨fun _ => ?_, fun _ => ?_⟩ | refine ⟨?_⟩ | refine ⟨?_, ?_⟩ | fail)
    all_goals first | exact trivial | (refine (?_ : (_ : Int) ≠ _); decide) | exact rfl | skip
    all_goals try dsimp only at *
    all_goals first | exact rfl | exact trivial | exact hpre | exact fun _ => ⟨hbd.1, hbd.2, trivial⟩ | skip
    all_goals (refine chk_b ?_; unfold numOk; rw [hok])
  · cases hcr
theorem okNumP (hS : Hyp G) : ConOK Tryz.prog G 39 cNumP := by
  refine con_cases (okNumPOk hS) (okNumPBad hS) ?_
  intro rvs cr hcr hpre
  unfold cNumP at hcr
  split at hcr
  · rename_i s
    cases hcr
    have hp := hpre _ (List.mem_singleton.2 rfl)
    cases h : atoiOk s with
    | true => exact .inl ⟨_, rfl, fun p hp' => by rw [List.mem_singleton.1 hp']; exact ⟨hp.le, h, trivial⟩, rfl, rfl, rfl⟩
    | false => exact .inr ⟨_, rfl, fun p hp' => by rw [List.mem_singleton.1 hp']; exact ⟨hp.le, h, trivial⟩, rfl, rfl, rfl⟩
  · cases hcr
end
end Go.X

namespace Go.X
open Go Go.Proofs Go.RowKit Go.Extern.Stop Go.Stop Go.Extern

theorem asValueOfP (t : Addr) (w : World) : (ReflectliteValue.unpack (.iface 42 (.pointer (some t)))).run Tryz.prog w
    = .ok (.agg #[.pointer (some ⟨9, 42, none⟩), .pointer (some ⟨w.heap.size, 0, none⟩), .int .u64 150]) (w.alloc (.cells #[.pointer (some t)] 42)) := by kernel_rfl
theorem asTypeP (a : Addr) (w : World) : (ReflectliteValue.methodAny (ReflectliteValue.valueError "reflectlite.Value.Type" 0) (fun t _ _ _ => ReflectliteType.toType t) #[.agg #[.pointer (some ⟨9, 42, none⟩), .pointer (some a), .int .u64 150]]).run Tryz.prog w
    = .ok (.iface 95 (.agg #[.pointer (some ⟨9, 42, none⟩)])) w := by kernel_rfl
theorem asMethodKind (h : Value) (w : World) : (Go.method 295 95 (.agg #[h]) "Kind").run Tryz.prog w = .ok (144, h) w := by kernel_rfl
theorem asKindP (w : World) : ((ReflectliteType.abiMethod fun t => (fun a : Nat => Value.int IntKind.u8 (a : Int)) <$> Rtype.kind t) #[.pointer (some ⟨9, 42, none⟩)]).run Tryz.prog w = .ok (.int .u8 22) w := by kernel_rfl
theorem asKindR (w : World) : ((ReflectliteType.abiMethod fun t => (fun a : Nat => Value.int IntKind.u8 (a : Int)) <$> Rtype.kind t) #[.pointer (some ⟨9, 40, none⟩)]).run Tryz.prog w = .ok (.int .u8 2) w := by kernel_rfl
theorem as_rlm (z : Sem Value) (f : TypeId → Addr → Nat → Nat → Sem Value) (v : Value) :
    ReflectliteValue.method z f #[v] = (do match ← ReflectliteValue.parts v with | none => z | some (t, a, fl) => f t a fl (fl % 32)) := rfl
theorem asPartsP (a : Addr) (w : World) : (ReflectliteValue.parts (.agg #[.pointer (some ⟨9, 42, none⟩), .pointer (some a), .int .u64 150])).run Tryz.prog w = .ok (some (42, a, 150)) w := by kernel_rfl
theorem asIsNilP (a p : Addr) (W : World) (ha : W.cell? a = some (.pointer (some p))) :
    (ReflectliteValue.method (ReflectliteValue.valueError "reflectlite.Value.IsNil" 0) ReflectliteValue.isNil #[.agg #[.pointer (some ⟨9, 42, none⟩), .pointer (some a), .int .u64 150]]).run Tryz.prog W = .ok (.bool false) W := by
  rw [as_rlm]
  simp only [Sem.run_bind, asPartsP, Result.andThen]
  simp [ReflectliteValue.isNil, loadVar, isAgg, underlying, Tryz.underlying42, ha, Result.andThen]
theorem asMethodElem (h : Value) (w : World) : (Go.method 295 95 (.agg #[h]) "Elem").run Tryz.prog w = .ok (157, .agg #[h]) w := by kernel_rfl
theorem asMethodImplements (h : Value) (w : World) : (Go.method 295 95 (.agg #[h]) "Implements").run Tryz.prog w = .ok (158, .agg #[h]) w := by kernel_rfl
theorem asMethodAssignableTo (h : Value) (w : World) : (Go.method 295 95 (.agg #[h]) "AssignableTo").run Tryz.prog w = .ok (155, .agg #[h]) w := by kernel_rfl
theorem asElemP (w : World) : (ReflectliteType.method ReflectliteType.elem #[.agg #[.pointer (some ⟨9, 42, none⟩)]]).run Tryz.prog w = .ok (.iface 95 (.agg #[.pointer (some ⟨9, 40, none⟩)])) w := by kernel_rfl
theorem asImplementsR (w : World) : (ReflectliteType.relation "Implements" ReflectliteType.implements_ #[.agg #[.pointer (some ⟨9, 40, none⟩)], .iface 95 (.agg #[.pointer (some ⟨9, 37, none⟩)])]).run Tryz.prog w = .ok (.bool true) w := by kernel_rfl
theorem asTypeOfR (v : Value) (w : World) : (ReflectliteType.typeOf #[.iface 40 v]).run Tryz.prog w = .ok (.iface 95 (.agg #[.pointer (some ⟨9, 40, none⟩)])) w := by kernel_rfl
theorem asTypeOfW (v : Value) (w : World) : (ReflectliteType.typeOf #[.iface 71 v]).run Tryz.prog w = .ok (.iface 95 (.agg #[.pointer (some ⟨9, 71, none⟩)])) w := by kernel_rfl
theorem asAssignableR (w : World) : (ReflectliteType.relation "AssignableTo" ReflectliteType.assignableTo #[.agg #[.pointer (some ⟨9, 40, none⟩)], .iface 95 (.agg #[.pointer (some ⟨9, 40, none⟩)])]).run Tryz.prog w = .ok (.bool true) w := by kernel_rfl
theorem asAssignableW (w : World) : (ReflectliteType.relation "AssignableTo" ReflectliteType.assignableTo #[.agg #[.pointer (some ⟨9, 71, none⟩)], .iface 95 (.agg #[.pointer (some ⟨9, 40, none⟩)])]).run Tryz.prog w = .ok (.bool false) w := by kernel_rfl
theorem asValueOfR (n : Int) (w : World) : (ReflectliteValue.unpack (.iface 40 (.int .i64 n))).run Tryz.prog w
    = .ok (.agg #[.pointer (some ⟨9, 40, none⟩), .pointer (some ⟨w.heap.size, 0, none⟩), .int .u64 130]) (w.alloc (.cells #[.int .i64 n] 40)) := by kernel_rfl
theorem asElemOfP (w : World) : (Rtype.elem? 42).run Tryz.prog w = .ok (some 40) w := by kernel_rfl
theorem asMkR (p : Addr) (w : World) : (ReflectliteValue.mk 40 p ReflectliteValue.flagAddr).run Tryz.prog w = .ok (.agg #[.pointer (some ⟨9, 40, none⟩), .pointer (some p), .int .u64 386]) w := by kernel_rfl
theorem asElemVP (a p : Addr) (W : World) (ha : W.cell? a = some (.pointer (some p))) :
    (ReflectliteValue.method (ReflectliteValue.valueError "reflectlite.Value.Elem" 0) ReflectliteValue.elem #[.agg #[.pointer (some ⟨9, 42, none⟩), .pointer (some a), .int .u64 150]]).run Tryz.prog W
      = .ok (.agg #[.pointer (some ⟨9, 40, none⟩), .pointer (some p), .int .u64 386]) W := by
  rw [as_rlm]
  simp only [Sem.run_bind, asPartsP, Result.andThen]
  simp [ReflectliteValue.elem, loadVar, isAgg, underlying, Tryz.underlying42, ha, Result.andThen, asElemOfP, asMkR]
theorem as_rls (v x : Value) : ReflectliteValue.set #[v, x] = (do
    let (some (dst, a, fl), some (src, b, _)) := (← ReflectliteValue.parts v, ← ReflectliteValue.parts x)
      | unsupported (.noEntry "extern/(internal/reflectlite.Value).Set.zeroValue")
    if fl / ReflectliteValue.flagAddr % 2 == 0 then unsupported (.noEntry "extern/(internal/reflectlite.Value).Set.unaddressable")
    let val ← loadVar src b
    if ← Rtype.directlyAssignable dst src then storeVar dst a val
    else if ← Rtype.implements dst src then
      if (← Rtype.kind src) == 20 then
        match val with
        | .nilIface => unsupported (.noEntry "extern/reflectlite: a nil value of one interface type handed on as a value of another")
        | _ => storeVar dst a val
      else storeVar dst a (.iface src val)
    else panicString ("reflectlite.Set: value of type " ++ (← Rtype.spelt src) ++ " is not assignable to type " ++ (← Rtype.spelt dst))
    pure (.tuple #[])) := rfl
theorem asPartsRa (a : Addr) (w : World) : (ReflectliteValue.parts (.agg #[.pointer (some ⟨9, 40, none⟩), .pointer (some a), .int .u64 386])).run Tryz.prog w = .ok (some (40, a, 386)) w := by kernel_rfl
theorem asPartsR (a : Addr) (w : World) : (ReflectliteValue.parts (.agg #[.pointer (some ⟨9, 40, none⟩), .pointer (some a), .int .u64 130])).run Tryz.prog w = .ok (some (40, a, 130)) w := by kernel_rfl
theorem asDirectR (w : World) : (Rtype.directlyAssignable 40 40).run Tryz.prog w = .ok true w := by kernel_rfl
theorem asSizeR (w : World) : (sizeOf 40).run Tryz.prog w = .ok 1 w := by kernel_rfl
theorem asSetR (ta b : Addr) (n : Int) (old : Value) (W : World) (hb : W.cell? b = some (.int .i64 n)) (ht : W.cell? ta = some old) (hf : W.frozen? ta = false) :
    (ReflectliteValue.set #[.agg #[.pointer (some ⟨9, 40, none⟩), .pointer (some ta), .int .u64 386], .agg #[.pointer (some ⟨9, 40, none⟩), .pointer (some b), .int .u64 130]]).run Tryz.prog W
      = .ok (.tuple #[]) (W.setCell ta (.int .i64 n)) := by
  rw [as_rls]
  simp only [Sem.run_bind, asPartsRa, asPartsR, Result.andThen]
  simp [ReflectliteValue.flagAddr, loadVar, isAgg, underlying, Tryz.underlying40, hb, Result.andThen, asDirectR, storeVar, Value.cells, storeCells, Addr.add]
  rw [run_store Tryz.prog W ta _ _ (by rfl)]
  simp [ht, hf]
theorem asNoAsW (v : Value) (xT : TypeId) (w : World) : (Instr.typeAssert (.iface 71 v) xT 100 true).run Tryz.prog w = .ok (.tuple #[.nilIface, .bool false]) w := run_typeAssert_lacksB Tryz.underlying100 (by kernel_rfl) (by kernel_rfl) v xT w
theorem asHasUnwrapW (v : Value) (xT : TypeId) (w : World) : (Instr.typeAssert (.iface 71 v) xT 103 true).run Tryz.prog w = .ok (.tuple #[.iface 71 v, .bool true]) w := run_typeAssert_hasB Tryz.underlying103 (by kernel_rfl) v xT w
theorem asMethodUnwrap (v : Value) (w : World) : (Go.method 295 71 v "Unwrap").run Tryz.prog w = .ok (150, v) w := by kernel_rfl
theorem as_none : AsNil Tryz.prog 18 := by
  intro t w
  go_enter Tryz.func18, Tryz.ntmps18
  go_wp2
  go_ret
  exact ⟨rfl, rfl⟩
end Go.X

namespace Go.X
open Go Go.Proofs Go.RowKit Go.Extern.Stop Go.Stop Go.Extern

set_option maxHeartbeats 8000000 in
set_option maxRecDepth 20000 in
theorem as_hitR (n : Int) ( t : Addr) (old : Value) (w : World) (hg : w.cell? ⟨0, 0, none⟩ = some (.iface 95 (.agg #[.pointer (some ⟨9, 37, none⟩)]))) (ht0 : w.cell? t = some old) (hf0 : w.frozen? t = false) :
    Calls Tryz.prog 18 #[.iface 40 (.int .i64 n), .iface 42 (.pointer (some t))] w fun ev w' => ev = .returned (.bool true) ∧ w' = ((((w.alloc (.cells #[.pointer (some t)] 42)).alloc (.cells #[.pointer (some ⟨9, 42, none⟩), .pointer (some ⟨w.heap.size, 0, none⟩), .int .u64 150] 77)).alloc (.cells #[.pointer (some ⟨9, 42, none⟩), .pointer (some ⟨w.heap.size, 0, none⟩), .int .u64 150] 77)).alloc (.cells #[.int .i64 n] 40)).setCell t (.int .i64 n) := by
  have h6 := @run_callFunc_extern Tryz.prog 43 _ (fun args => ReflectliteValue.unpack (args.getD 0 (.tuple #[]))) Tryz.func43 (by kernel_rfl) (by kernel_rfl) (by kernel_rfl) (by kernel_rfl)
  have h7 := @run_callFunc_extern Tryz.prog 44 _ (ReflectliteValue.methodAny (ReflectliteValue.valueError "reflectlite.Value.Type" 0) (fun t _ _ _ => ReflectliteType.toType t)) Tryz.func44 (by kernel_rfl) (by kernel_rfl) (by kernel_rfl) (by kernel_rfl)
  have h8 := @run_callFunc_extern Tryz.prog 45 _ (ReflectliteValue.method (ReflectliteValue.valueError "reflectlite.Value.IsNil" 0) ReflectliteValue.isNil) Tryz.func45 (by kernel_rfl) (by kernel_rfl) (by kernel_rfl) (by kernel_rfl)
  have h27 := @run_callFunc_extern Tryz.prog 144 _ (ReflectliteType.abiMethod fun t => do pure (.int .u8 (← Rtype.kind t))) Tryz.func144 (by kernel_rfl) (by kernel_rfl) (by kernel_rfl) (by kernel_rfl)
  have h37 := @run_callFunc_extern Tryz.prog 157 _ (ReflectliteType.method ReflectliteType.elem) Tryz.func157 (by kernel_rfl) (by kernel_rfl) (by kernel_rfl) (by kernel_rfl)
  have h38 := @run_callFunc_extern Tryz.prog 158 _ (ReflectliteType.relation "Implements" ReflectliteType.implements_) Tryz.func158 (by kernel_rfl) (by kernel_rfl) (by kernel_rfl) (by kernel_rfl)
  have h10 := @run_callFunc_extern Tryz.prog 67 _ ReflectliteType.typeOf Tryz.func67 (by kernel_rfl) (by kernel_rfl) (by kernel_rfl) (by kernel_rfl)
  have h35 := @run_callFunc_extern Tryz.prog 155 _ (ReflectliteType.relation "AssignableTo" ReflectliteType.assignableTo) Tryz.func155 (by kernel_rfl) (by kernel_rfl) (by kernel_rfl) (by kernel_rfl)
  have h11 := @run_callFunc_extern Tryz.prog 68 _ (ReflectliteValue.method (ReflectliteValue.valueError "reflectlite.Value.Elem" 0) ReflectliteValue.elem) Tryz.func68 (by kernel_rfl) (by kernel_rfl) (by kernel_rfl) (by kernel_rfl)
  have h12 := @run_callFunc_extern Tryz.prog 69 _ ReflectliteValue.set Tryz.func69 (by kernel_rfl) (by kernel_rfl) (by kernel_rfl) (by kernel_rfl)
  have tO := asTypeOfR
  have tW := asTypeOfW
  have mA := asMethodAssignableTo
  have a25 := asAssignableR
  have aW := asAssignableW
  have v25 := asValueOfR
  have f6 := asValueOfP
  have f7 := asTypeP
  have mK := asMethodKind
  have mE := asMethodElem
  have mI := asMethodImplements
  have k27 := asKindP
  have k25 := asKindR
  have e27 := asElemP
  have i25 := asImplementsR
  have nA := asNoAsW
  have uW := asHasUnwrapW
  have mU := asMethodUnwrap
  have n8 := asIsNilP ⟨w.heap.size, 0, none⟩ t ((w.alloc (.cells #[.pointer (some t)] 42)).alloc (.cells #[.pointer (some ⟨9, 42, none⟩), .pointer (some ⟨w.heap.size, 0, none⟩), .int .u64 150] 77)) (by simp)
  have hlt : 0 < w.heap.size := by
    rcases Nat.lt_or_ge 0 w.heap.size with h | h
    · exact h
    · simp [World.cell?, Array.getElem?_eq_none h] at hg
  have hg2 : ((w.alloc (.cells #[.pointer (some t)] 42)).alloc (.cells #[.pointer (some ⟨9, 42, none⟩), .pointer (some ⟨w.heap.size, 0, none⟩), .int .u64 150] 77)).cell? ⟨0, 0, none⟩ = some (.iface 95 (.agg #[.pointer (some ⟨9, 37, none⟩)])) := by
    rw [World.cell?_alloc_lt _ _ ⟨0, 0, none⟩ (by simp <;> omega), World.cell?_alloc_lt _ _ ⟨0, 0, none⟩ hlt]; exact hg
  have htl : t.block < w.heap.size := by
    rcases Nat.lt_or_ge t.block w.heap.size with h | h
    · exact h
    · simp [World.cell?, Array.getElem?_eq_none h] at ht0
  have el := asElemVP ⟨w.heap.size, 0, none⟩ t (((w.alloc (.cells #[.pointer (some t)] 42)).alloc (.cells #[.pointer (some ⟨9, 42, none⟩), .pointer (some ⟨w.heap.size, 0, none⟩), .int .u64 150] 77)).alloc (.cells #[.pointer (some ⟨9, 42, none⟩), .pointer (some ⟨w.heap.size, 0, none⟩), .int .u64 150] 77)) (by rw [World.cell?_alloc_lt _ _ ⟨w.heap.size, 0, none⟩ (by simp <;> omega)]; simp)
  have st := asSetR t ⟨w.heap.size + 1 + 1 + 1, 0, none⟩ n old ((((w.alloc (.cells #[.pointer (some t)] 42)).alloc (.cells #[.pointer (some ⟨9, 42, none⟩), .pointer (some ⟨w.heap.size, 0, none⟩), .int .u64 150] 77)).alloc (.cells #[.pointer (some ⟨9, 42, none⟩), .pointer (some ⟨w.heap.size, 0, none⟩), .int .u64 150] 77)).alloc (.cells #[.int .i64 n] 40))
    (by rw [World.cell?_alloc_at _ _ _ _ (by simp)]; rfl)
    (by rw [World.cell?_alloc_lt _ _ t (by simp <;> omega), World.cell?_alloc_lt _ _ t (by simp <;> omega), World.cell?_alloc_lt _ _ t (by simp <;> omega), World.cell?_alloc_lt _ _ t htl]; exact ht0)
    (by rw [World.frozen?_alloc_old _ _ t (by simp <;> omega), World.frozen?_alloc_old _ _ t (by simp <;> omega), World.frozen?_alloc_old _ _ t (by simp <;> omega), World.frozen?_alloc_old _ _ t (Nat.ne_of_lt htl)]; exact hf0)
  go_enter Tryz.func18, Tryz.ntmps18
  go_wp2
  refine wp_loop_rounds 1 ?_
  rw [rounds_succ]
  go_wp2
  go_ret
  exact ⟨rfl, rfl⟩
set_option maxHeartbeats 8000000 in
set_option maxRecDepth 20000 in
theorem as_hitW (f n : Int) ( t : Addr) (old : Value) (w : World) (hg : w.cell? ⟨0, 0, none⟩ = some (.iface 95 (.agg #[.pointer (some ⟨9, 37, none⟩)]))) (ht0 : w.cell? t = some old) (hf0 : w.frozen? t = false) :
    Calls Tryz.prog 18 #[.iface 71 (.agg #[.int .i64 f, .iface 40 (.int .i64 n)]), .iface 42 (.pointer (some t))] w fun ev w' => ev = .returned (.bool true) ∧ w' = (((((w.alloc (.cells #[.pointer (some t)] 42)).alloc (.cells #[.pointer (some ⟨9, 42, none⟩), .pointer (some ⟨w.heap.size, 0, none⟩), .int .u64 150] 77)).alloc (.cells #[.pointer (some ⟨9, 42, none⟩), .pointer (some ⟨w.heap.size, 0, none⟩), .int .u64 150] 77)).alloc (.cells #[.int .i64 f, .iface 40 (.int .i64 n)] 71)).alloc (.cells #[.int .i64 n] 40)).setCell t (.int .i64 n) := by
  have h6 := @run_callFunc_extern Tryz.prog 43 _ (fun args => ReflectliteValue.unpack (args.getD 0 (.tuple #[]))) Tryz.func43 (by kernel_rfl) (by kernel_rfl) (by kernel_rfl) (by kernel_rfl)
  have h7 := @run_callFunc_extern Tryz.prog 44 _ (ReflectliteValue.methodAny (ReflectliteValue.valueError "reflectlite.Value.Type" 0) (fun t _ _ _ => ReflectliteType.toType t)) Tryz.func44 (by kernel_rfl) (by kernel_rfl) (by kernel_rfl) (by kernel_rfl)
  have h8 := @run_callFunc_extern Tryz.prog 45 _ (ReflectliteValue.method (ReflectliteValue.valueError "reflectlite.Value.IsNil" 0) ReflectliteValue.isNil) Tryz.func45 (by kernel_rfl) (by kernel_rfl) (by kernel_rfl) (by kernel_rfl)
  have h27 := @run_callFunc_extern Tryz.prog 144 _ (ReflectliteType.abiMethod fun t => do pure (.int .u8 (← Rtype.kind t))) Tryz.func144 (by kernel_rfl) (by kernel_rfl) (by kernel_rfl) (by kernel_rfl)
  have h37 := @run_callFunc_extern Tryz.prog 157 _ (ReflectliteType.method ReflectliteType.elem) Tryz.func157 (by kernel_rfl) (by kernel_rfl) (by kernel_rfl) (by kernel_rfl)
  have h38 := @run_callFunc_extern Tryz.prog 158 _ (ReflectliteType.relation "Implements" ReflectliteType.implements_) Tryz.func158 (by kernel_rfl) (by kernel_rfl) (by kernel_rfl) (by kernel_rfl)
  have h10 := @run_callFunc_extern Tryz.prog 67 _ ReflectliteType.typeOf Tryz.func67 (by kernel_rfl) (by kernel_rfl) (by kernel_rfl) (by kernel_rfl)
  have h35 := @run_callFunc_extern Tryz.prog 155 _ (ReflectliteType.relation "AssignableTo" ReflectliteType.assignableTo) Tryz.func155 (by kernel_rfl) (by kernel_rfl) (by kernel_rfl) (by kernel_rfl)
  have h11 := @run_callFunc_extern Tryz.prog 68 _ (ReflectliteValue.method (ReflectliteValue.valueError "reflectlite.Value.Elem" 0) ReflectliteValue.elem) Tryz.func68 (by kernel_rfl) (by kernel_rfl) (by kernel_rfl) (by kernel_rfl)
  have h12 := @run_callFunc_extern Tryz.prog 69 _ ReflectliteValue.set Tryz.func69 (by kernel_rfl) (by kernel_rfl) (by kernel_rfl) (by kernel_rfl)
  have tO := asTypeOfR
  have tW := asTypeOfW
  have mA := asMethodAssignableTo
  have a25 := asAssignableR
  have aW := asAssignableW
  have v25 := asValueOfR
  have f6 := asValueOfP
  have f7 := asTypeP
  have mK := asMethodKind
  have mE := asMethodElem
  have mI := asMethodImplements
  have k27 := asKindP
  have k25 := asKindR
  have e27 := asElemP
  have i25 := asImplementsR
  have nA := asNoAsW
  have uW := asHasUnwrapW
  have mU := asMethodUnwrap
  have n8 := asIsNilP ⟨w.heap.size, 0, none⟩ t ((w.alloc (.cells #[.pointer (some t)] 42)).alloc (.cells #[.pointer (some ⟨9, 42, none⟩), .pointer (some ⟨w.heap.size, 0, none⟩), .int .u64 150] 77)) (by simp)
  have hlt : 0 < w.heap.size := by
    rcases Nat.lt_or_ge 0 w.heap.size with h | h
    · exact h
    · simp [World.cell?, Array.getElem?_eq_none h] at hg
  have hg2 : ((w.alloc (.cells #[.pointer (some t)] 42)).alloc (.cells #[.pointer (some ⟨9, 42, none⟩), .pointer (some ⟨w.heap.size, 0, none⟩), .int .u64 150] 77)).cell? ⟨0, 0, none⟩ = some (.iface 95 (.agg #[.pointer (some ⟨9, 37, none⟩)])) := by
    rw [World.cell?_alloc_lt _ _ ⟨0, 0, none⟩ (by simp <;> omega), World.cell?_alloc_lt _ _ ⟨0, 0, none⟩ hlt]; exact hg
  have htl : t.block < w.heap.size := by
    rcases Nat.lt_or_ge t.block w.heap.size with h | h
    · exact h
    · simp [World.cell?, Array.getElem?_eq_none h] at ht0
  have el := asElemVP ⟨w.heap.size, 0, none⟩ t ((((w.alloc (.cells #[.pointer (some t)] 42)).alloc (.cells #[.pointer (some ⟨9, 42, none⟩), .pointer (some ⟨w.heap.size, 0, none⟩), .int .u64 150] 77)).alloc (.cells #[.pointer (some ⟨9, 42, none⟩), .pointer (some ⟨w.heap.size, 0, none⟩), .int .u64 150] 77)).alloc (.cells #[.int .i64 f, .iface 40 (.int .i64 n)] 71)) (by rw [World.cell?_alloc_lt _ _ ⟨w.heap.size, 0, none⟩ (by simp <;> omega), World.cell?_alloc_lt _ _ ⟨w.heap.size, 0, none⟩ (by simp <;> omega)]; simp)
  have st := asSetR t ⟨w.heap.size + 1 + 1 + 1 + 1, 0, none⟩ n old (((((w.alloc (.cells #[.pointer (some t)] 42)).alloc (.cells #[.pointer (some ⟨9, 42, none⟩), .pointer (some ⟨w.heap.size, 0, none⟩), .int .u64 150] 77)).alloc (.cells #[.pointer (some ⟨9, 42, none⟩), .pointer (some ⟨w.heap.size, 0, none⟩), .int .u64 150] 77)).alloc (.cells #[.int .i64 f, .iface 40 (.int .i64 n)] 71)).alloc (.cells #[.int .i64 n] 40))
    (by rw [World.cell?_alloc_at _ _ _ _ (by simp)]; rfl)
    (by rw [World.cell?_alloc_lt _ _ t (by simp <;> omega), World.cell?_alloc_lt _ _ t (by simp <;> omega), World.cell?_alloc_lt _ _ t (by simp <;> omega), World.cell?_alloc_lt _ _ t (by simp <;> omega), World.cell?_alloc_lt _ _ t htl]; exact ht0)
    (by rw [World.frozen?_alloc_old _ _ t (by simp <;> omega), World.frozen?_alloc_old _ _ t (by simp <;> omega), World.frozen?_alloc_old _ _ t (by simp <;> omega), World.frozen?_alloc_old _ _ t (by simp <;> omega), World.frozen?_alloc_old _ _ t (Nat.ne_of_lt htl)]; exact hf0)
  go_enter Tryz.func18, Tryz.ntmps18
  go_wp2
  refine wp_loop_rounds 2 ?_
  rw [rounds_succ]
  go_wp2
  rw [rounds_succ]
  go_wp2
  go_ret
  exact ⟨rfl, rfl⟩
end Go.X

namespace Go.X
open Go Go.Proofs

def cSeen : Con
  | [.a (.i .i64 n), .a (.i .i64 side)] => some ⟨[], .tup [.agg [.a (.i .i64 (spSF n side)), .a (.i .i64 (spSR n side))], .a (.b (spOk n side))], [], []⟩
  | _ => none
def cPal : Con
  | [.agg [.a (.i .i64 f), .a (.i .i64 r)]] => some ⟨[], .a (.b (spPal f r)), [], []⟩
  | _ => none
def cOvr : Con
  | [.agg [.a (.i .i64 _), .a (.i .i64 r)]] => some ⟨[], .a (.b (spOvr r)), [], []⟩
  | _ => none
def cAdv : Con
  | [.agg [.a (.i .i64 f), .a (.i .i64 r)]] => some ⟨[], .a (.b (spAdv f r)), [], []⟩
  | _ => none
def cEle : Con
  | [.agg [.a (.i .i64 f), .a (.i .i64 r)]] => some ⟨[], .a (.b (spEle f r)), [], []⟩
  | _ => none
def cPwn : Con
  | [.agg [.a (.i .i64 f), .a (.i .i64 r)]] => some ⟨[], .a (.b (spPwn f r)), [], []⟩
  | _ => none
def cMay : Con
  | [.a (.i .u8 c), .a (.i .i64 n)] => some ⟨[], .a (.b (spMay c n)), [], []⟩
  | _ => none
def cOver : Con
  | [.a (.i .i64 n), .a (.i .i64 side)] => some ⟨[], .a (.b (spOver n side)), [], []⟩
  | _ => none
section
variable {G : Nat → World → Prop}
set_option maxHeartbeats 4000000 in
set_option maxRecDepth 20000 in
theorem okSeen (hS : Hyp G) : ConOK Tryz.prog G 74 cSeen := by
  refine seat_con hS.seat [] [] trivial Tryz.func74 rfl rfl rfl ?_
  intro rvs cr hcr hpre
  unfold cSeen at hcr
  split at hcr
  · rename_i n side
    cases hcr
    refine ⟨⟨rfl, rfl, rfl⟩, fun c hc vs => ?_⟩
    repeat' (first | exact Bool.noConfusion ‹(!true) = true› | exact Bool.noConfusion ‹(!false) = false› | (intro h; exact h) | (intro h; rw [h]; rfl) | (intro h1 h2; rw [h1, h2]; rfl) | (intro _; assumption) | (intro _; exact rfl) | (intro h; exact Bool.noConfusion (h.symm.trans ‹_ = false›)) | refine ⟨fun _ => ?_, fun _ => ?_⟩ | refine ⟨?_⟩ | refine ⟨?_, ?_⟩ | fail)
    all_goals first | exact trivial | (refine (?_ : (_ : Int) ≠ _); decide) | exact rfl | skip
    · refine chk_i ?_; rw [spSF, if_neg]; rw [ok_bad ‹_›]; simp
    · refine chk_i ?_; rw [spSR, if_neg]; rw [ok_bad ‹_›]; simp
    · refine chk_b ?_; rw [ok_bad ‹_›]
    all_goals
      rename_i h hs
      have hok := ok_good h
      have hb : 0 ≤ n ∧ n < 90 := by simp [spOk] at hok; omega
      simp only [beq_iff_eq, beq_eq_false_iff_ne] at hs
    · refine chk_i ?_; rw [spSF, if_pos hok, spTurned, if_pos hs, wrap64 (by omega) (by omega), tmod9 (by omega)]
    · refine chk_i ?_; rw [spSR, if_pos hok, spTurned, if_pos hs, wrap64 (x := 89 - n) (by omega) (by omega), tdiv9 (by omega), wrap64 (by omega) (by omega)]
    · exact chk_b hok.symm
    · refine chk_i ?_; rw [spSF, if_pos hok, spTurned, if_neg hs, tmod9 (by omega)]
    · refine chk_i ?_; rw [spSR, if_pos hok, spTurned, if_neg hs, tdiv9 (by omega), wrap64 (by omega) (by omega)]
    · exact chk_b hok.symm
  · cases hcr
set_option maxHeartbeats 4000000 in
set_option maxRecDepth 20000 in
theorem okPal (hS : Hyp G) : ConOK Tryz.prog G 76 cPal := by
  refine seat_con hS.seat [] [] trivial Tryz.func76 rfl rfl rfl ?_
  intro rvs cr hcr hpre
  unfold cPal at hcr
  split at hcr
  · cases hcr
    refine ⟨⟨rfl, rfl, rfl⟩, fun c hc vs => ?_⟩
    repeat' (first | exact Bool.noConfusion ‹(!true) = true› | exact Bool.noConfusion ‹(!false) = false› | (intro h; exact h) | (intro h; rw [h]; rfl) | (intro h1 h2; rw [h1, h2]; rfl) | (intro _; assumption) | (intro _; exact rfl) | (intro h; exact Bool.noConfusion (h.symm.trans ‹_ = false›)) | refine ⟨fun _ => ?_, fun _ => ?_⟩ | refine ⟨?_⟩ | refine ⟨?_, ?_⟩ | fail)
    all_goals first | exact rfl | (refine chk_i ?_; simp_all [spPal]; done) | (refine chk_i ?_; simp only [spPal, decide_eq_true_eq, decide_eq_false_iff_not, Bool.not_eq_true', Bool.not_eq_false', Bool.or_eq_true, Bool.or_eq_false_iff, Bool.and_eq_true, Bool.and_eq_false_iff] at *; (repeat' split) <;> first | rfl | omega | (simp_all; done) | (simp_all; omega)) | (refine chk_b ?_; simp_all [spPal]; done) | (refine chk_b ?_; simp only [spPal, decide_eq_true_eq, decide_eq_false_iff_not, Bool.not_eq_true', Bool.not_eq_false', Bool.or_eq_true, Bool.or_eq_false_iff, Bool.and_eq_true, Bool.and_eq_false_iff] at *; (repeat' split) <;> first | rfl | omega | (simp_all; done) | (simp_all; omega)) | (refine chk_s ?_; simp_all [spPal]; done) | (refine chk_s ?_; simp only [spPal, decide_eq_true_eq, decide_eq_false_iff_not, Bool.not_eq_true', Bool.not_eq_false', Bool.or_eq_true, Bool.or_eq_false_iff, Bool.and_eq_true, Bool.and_eq_false_iff] at *; (repeat' split) <;> first | rfl | omega | (simp_all; done) | (simp_all; omega)) | (simp_all [spPal]; done) | (simp_all [spPal]; omega) | skip
  · cases hcr
set_option maxHeartbeats 4000000 in
set_option maxRecDepth 20000 in
theorem okOvr (hS : Hyp G) : ConOK Tryz.prog G 96 cOvr := by
  refine seat_con hS.seat [] [] trivial Tryz.func96 rfl rfl rfl ?_
  intro rvs cr hcr hpre
  unfold cOvr at hcr
  split at hcr
  · cases hcr
    refine ⟨⟨rfl, rfl, rfl⟩, fun c hc vs => ?_⟩
    repeat' (first | exact Bool.noConfusion ‹(!true) = true› | exact Bool.noConfusion ‹(!false) = false› | (intro h; exact h) | (intro h; rw [h]; rfl) | (intro h1 h2; rw [h1, h2]; rfl) | (intro _; assumption) | (intro _; exact rfl) | (intro h; exact Bool.noConfusion (h.symm.trans ‹_ = false›)) | refine ⟨fun _ => ?_, fun _ => ?_⟩ | refine ⟨?_⟩ | refine ⟨?_, ?_⟩ | fail)
    all_goals first | exact rfl | (refine chk_i ?_; simp_all [spOvr]; done) | (refine chk_i ?_; simp only [spOvr, decide_eq_true_eq, decide_eq_false_iff_not, Bool.not_eq_true', Bool.not_eq_false', Bool.or_eq_true, Bool.or_eq_false_iff, Bool.and_eq_true, Bool.and_eq_false_iff] at *; (repeat' split) <;> first | rfl | omega | (simp_all; done) | (simp_all; omega)) | (refine chk_b ?_; simp_all [spOvr]; done) | (refine chk_b ?_; simp only [spOvr, decide_eq_true_eq, decide_eq_false_iff_not, Bool.not_eq_true', Bool.not_eq_false', Bool.or_eq_true, Bool.or_eq_false_iff, Bool.and_eq_true, Bool.and_eq_false_iff] at *; (repeat' split) <;> first | rfl | omega | (simp_all; done) | (simp_all; omega)) | (refine chk_s ?_; simp_all [spOvr]; done) | (refine chk_s ?_; simp only [spOvr, decide_eq_true_eq, decide_eq_false_iff_not, Bool.not_eq_true', Bool.not_eq_false', Bool.or_eq_true, Bool.or_eq_false_iff, Bool.and_eq_true, Bool.and_eq_false_iff] at *; (repeat' split) <;> first | rfl | omega | (simp_all; done) | (simp_all; omega)) | (simp_all [spOvr]; done) | (simp_all [spOvr]; omega) | skip
  · cases hcr
set_option maxHeartbeats 4000000 in
set_option maxRecDepth 20000 in
theorem okAdv (hS : Hyp G) : ConOK Tryz.prog G 77 cAdv := by
  refine seat_con hS.seat [(76, cPal)] [] ⟨okPal hS, trivial⟩ Tryz.func77 rfl rfl rfl ?_
  intro rvs cr hcr hpre
  unfold cAdv at hcr
  split at hcr
  · cases hcr
    refine ⟨⟨rfl, rfl, rfl⟩, fun c hc vs => ?_⟩
    repeat' (first | exact Bool.noConfusion ‹(!true) = true› | exact Bool.noConfusion ‹(!false) = false› | (intro h; exact h) | (intro h; rw [h]; rfl) | (intro h1 h2; rw [h1, h2]; rfl) | (intro _; assumption) | (intro _; exact rfl) | (intro h; exact Bool.noConfusion (h.symm.trans ‹_ = false›)) | refine ⟨fun _ => ?_, fun _ => ?_⟩ | refine ⟨?_⟩ | refine ⟨?_, ?_⟩ | fail)
    all_goals first | exact rfl | (refine chk_i ?_; simp_all [spAdv]; done) | (refine chk_i ?_; simp only [spAdv, decide_eq_true_eq, decide_eq_false_iff_not, Bool.not_eq_true', Bool.not_eq_false', Bool.or_eq_true, Bool.or_eq_false_iff, Bool.and_eq_true, Bool.and_eq_false_iff] at *; (repeat' split) <;> first | rfl | omega | (simp_all; done) | (simp_all; omega)) | (refine chk_b ?_; simp_all [spAdv]; done) | (refine chk_b ?_; simp only [spAdv, decide_eq_true_eq, decide_eq_false_iff_not, Bool.not_eq_true', Bool.not_eq_false', Bool.or_eq_true, Bool.or_eq_false_iff, Bool.and_eq_true, Bool.and_eq_false_iff] at *; (repeat' split) <;> first | rfl | omega | (simp_all; done) | (simp_all; omega)) | (refine chk_s ?_; simp_all [spAdv]; done) | (refine chk_s ?_; simp only [spAdv, decide_eq_true_eq, decide_eq_false_iff_not, Bool.not_eq_true', Bool.not_eq_false', Bool.or_eq_true, Bool.or_eq_false_iff, Bool.and_eq_true, Bool.and_eq_false_iff] at *; (repeat' split) <;> first | rfl | omega | (simp_all; done) | (simp_all; omega)) | (simp_all [spAdv]; done) | (simp_all [spAdv]; omega) | skip
  · cases hcr
set_option maxHeartbeats 4000000 in
set_option maxRecDepth 20000 in
theorem okEle (hS : Hyp G) : ConOK Tryz.prog G 78 cEle := by
  refine seat_con hS.seat [] [] trivial Tryz.func78 rfl rfl rfl ?_
  intro rvs cr hcr hpre
  unfold cEle at hcr
  split at hcr
  · cases hcr
    refine ⟨⟨rfl, rfl, rfl⟩, fun c hc vs => ?_⟩
    repeat' (first | exact Bool.noConfusion ‹(!true) = true› | exact Bool.noConfusion ‹(!false) = false› | (intro h; exact h) | (intro h; rw [h]; rfl) | (intro h1 h2; rw [h1, h2]; rfl) | (intro _; assumption) | (intro _; exact rfl) | (intro h; exact Bool.noConfusion (h.symm.trans ‹_ = false›)) | refine ⟨fun _ => ?_, fun _ => ?_⟩ | refine ⟨?_⟩ | refine ⟨?_, ?_⟩ | fail)
    all_goals first | exact rfl | (refine chk_i ?_; simp_all [spEle]; done) | (refine chk_i ?_; simp only [spEle, decide_eq_true_eq, decide_eq_false_iff_not, Bool.not_eq_true', Bool.not_eq_false', Bool.or_eq_true, Bool.or_eq_false_iff, Bool.and_eq_true, Bool.and_eq_false_iff] at *; (repeat' split) <;> first | rfl | omega | (simp_all; done) | (simp_all; omega)) | (refine chk_b ?_; simp_all [spEle]; done) | (refine chk_b ?_; simp only [spEle, decide_eq_true_eq, decide_eq_false_iff_not, Bool.not_eq_true', Bool.not_eq_false', Bool.or_eq_true, Bool.or_eq_false_iff, Bool.and_eq_true, Bool.and_eq_false_iff] at *; (repeat' split) <;> first | rfl | omega | (simp_all; done) | (simp_all; omega)) | (refine chk_s ?_; simp_all [spEle]; done) | (refine chk_s ?_; simp only [spEle, decide_eq_true_eq, decide_eq_false_iff_not, Bool.not_eq_true', Bool.not_eq_false', Bool.or_eq_true, Bool.or_eq_false_iff, Bool.and_eq_true, Bool.and_eq_false_iff] at *; (repeat' split) <;> first | rfl | omega | (simp_all; done) | (simp_all; omega)) | (simp_all [spEle]; done) | (simp_all [spEle]; omega) | skip
  · cases hcr
set_option maxHeartbeats 4000000 in
set_option maxRecDepth 20000 in
theorem okPwn (hS : Hyp G) : ConOK Tryz.prog G 79 cPwn := by
  refine seat_con hS.seat [(96, cOvr)] [] ⟨okOvr hS, trivial⟩ Tryz.func79 rfl rfl rfl ?_
  intro rvs cr hcr hpre
  unfold cPwn at hcr
  split at hcr
  · cases hcr
    refine ⟨⟨rfl, rfl, rfl⟩, fun c hc vs => ?_⟩
    repeat' (first | exact Bool.noConfusion ‹(!true) = true› | exact Bool.noConfusion ‹(!false) = false› | (intro h; exact h) | (intro h; rw [h]; rfl) | (intro h1 h2; rw [h1, h2]; rfl) | (intro _; assumption) | (intro _; exact rfl) | (intro h; exact Bool.noConfusion (h.symm.trans ‹_ = false›)) | refine ⟨fun _ => ?_, fun _ => ?_⟩ | refine ⟨?_⟩ | refine ⟨?_, ?_⟩ | fail)
    all_goals first | exact rfl | (refine chk_i ?_; simp_all [spPwn]; done) | (refine chk_i ?_; simp only [spPwn, decide_eq_true_eq, decide_eq_false_iff_not, Bool.not_eq_true', Bool.not_eq_false', Bool.or_eq_true, Bool.or_eq_false_iff, Bool.and_eq_true, Bool.and_eq_false_iff] at *; (repeat' split) <;> first | rfl | omega | (simp_all; done) | (simp_all; omega)) | (refine chk_b ?_; simp_all [spPwn]; done) | (refine chk_b ?_; simp only [spPwn, decide_eq_true_eq, decide_eq_false_iff_not, Bool.not_eq_true', Bool.not_eq_false', Bool.or_eq_true, Bool.or_eq_false_iff, Bool.and_eq_true, Bool.and_eq_false_iff] at *; (repeat' split) <;> first | rfl | omega | (simp_all; done) | (simp_all; omega)) | (refine chk_s ?_; simp_all [spPwn]; done) | (refine chk_s ?_; simp only [spPwn, decide_eq_true_eq, decide_eq_false_iff_not, Bool.not_eq_true', Bool.not_eq_false', Bool.or_eq_true, Bool.or_eq_false_iff, Bool.and_eq_true, Bool.and_eq_false_iff] at *; (repeat' split) <;> first | rfl | omega | (simp_all; done) | (simp_all; omega)) | (simp_all [spPwn]; done) | (simp_all [spPwn]; omega) | skip
  · cases hcr
set_option maxHeartbeats 4000000 in
set_option maxRecDepth 20000 in
theorem okMay (hS : Hyp G) : ConOK Tryz.prog G 49 cMay := by
  refine seat_con hS.seat [(75, cSide), (51, cKind), (74, cSeen), (76, cPal), (77, cAdv), (78, cEle), (79, cPwn)] [] ⟨okSide hS, okKind hS, okSeen hS, okPal hS, okAdv hS, okEle hS, okPwn hS, trivial⟩ Tryz.func49 rfl rfl rfl ?_
  intro rvs cr hcr hpre
  unfold cMay at hcr
  split at hcr
  · cases hcr
    refine ⟨⟨rfl, rfl, rfl⟩, fun c hc vs => ?_⟩
    repeat' (first | exact Bool.noConfusion ‹(!true) = true› | exact Bool.noConfusion ‹(!false) = false› | (intro h; exact h) | (intro h; rw [h]; rfl) | (intro h1 h2; rw [h1, h2]; rfl) | (intro _; assumption) | (intro _; exact rfl) | (intro h; exact Bool.noConfusion (h.symm.trans ‹_ = false›)) | refine ⟨fun _ => ?_, fun _ => ?_⟩ | refine ⟨?_⟩ | refine ⟨?_, ?_⟩ | fail)
    all_goals first | exact rfl | (refine chk_i ?_; simp_all [spMay]; done) | (refine chk_i ?_; simp only [spMay, decide_eq_true_eq, decide_eq_false_iff_not, Bool.not_eq_true', Bool.not_eq_false', Bool.or_eq_true, Bool.or_eq_false_iff, Bool.and_eq_true, Bool.and_eq_false_iff] at *; (repeat' split) <;> first | rfl | omega | (simp_all; done) | (simp_all; omega)) | (refine chk_b ?_; simp_all [spMay]; done) | (refine chk_b ?_; simp only [spMay, decide_eq_true_eq, decide_eq_false_iff_not, Bool.not_eq_true', Bool.not_eq_false', Bool.or_eq_true, Bool.or_eq_false_iff, Bool.and_eq_true, Bool.and_eq_false_iff] at *; (repeat' split) <;> first | rfl | omega | (simp_all; done) | (simp_all; omega)) | (refine chk_s ?_; simp_all [spMay]; done) | (refine chk_s ?_; simp only [spMay, decide_eq_true_eq, decide_eq_false_iff_not, Bool.not_eq_true', Bool.not_eq_false', Bool.or_eq_true, Bool.or_eq_false_iff, Bool.and_eq_true, Bool.and_eq_false_iff] at *; (repeat' split) <;> first | rfl | omega | (simp_all; done) | (simp_all; omega)) | (simp_all [spMay]; done) | (simp_all [spMay]; omega) | skip
  · cases hcr
end
end Go.X

namespace Go.X
open Go Go.Proofs

def cPMost : Con
  | [.a (.i .u8 c)] => some ⟨[BY c], .a (.i .i64 (dMost c)), [], []⟩
  | _ => none
def cPCheck : Con
  | [.agg [.a (.s p), .a (.i .i64 side), .a (.i .i64 clock), .a (.i .i64 full)]] => some ⟨[], .a (.i .i64 (rCheck p side clock full)), [], []⟩
  | _ => none
def cPWell : Con
  | [.agg [.a (.s p), .a (.i .i64 side), .a (.i .i64 clock), .a (.i .i64 full)]] => some ⟨[], .a (.i .i64 (rWell p side clock full)), [], []⟩
  | _ => none
section
variable {G : Nat → World → Prop}
set_option maxHeartbeats 4000000 in
set_option maxRecDepth 20000 in
theorem okPMost (hS : Hyp G) : ConOK Tryz.prog G 50 cPMost := by
  refine seat_con hS.seat [(51, cKind)] [] ⟨okKind hS, trivial⟩ Tryz.func50 rfl rfl rfl ?_
  intro rvs cr hcr hpre
  unfold cPMost at hcr
  split at hcr
  · rename_i c0
    cases hcr
    simp only [List.mem_cons, List.not_mem_nil, or_false, forall_eq_or_imp, forall_eq] at hpre
    refine ⟨⟨rfl, rfl, rfl⟩, fun c hc vs => ?_⟩
    repeat' (first | exact Bool.noConfusion ‹(!true) = true› | exact Bool.noConfusion ‹(!false) = false› | (intro h; exact h) | (intro h; rw [h]; rfl) | (intro h1 h2; rw [h1, h2]; rfl) | (intro _; assumption) | (intro _; exact rfl) | (intro h; exact Bool.noConfusion (h.symm.trans ‹_ = false›)) | refine ⟨fun _ => ?_, fun _ => ?_⟩ | refine ⟨?_⟩ | refine ⟨?_, ?_⟩ | fail)
    all_goals first | exact hpre | exact rfl | skip
    · exact chk_i (by rw [dMost, if_pos (beqT ‹_›)])
    · rename_i h1 h2; exact chk_i (by rw [dMost, if_neg (beqF h1), if_pos (beqT h2)])
    · rename_i h1 h2 h3; exact chk_i (by rw [dMost, if_neg (beqF h1), if_neg (beqF h2), if_pos (beqT h3)])
    · rename_i h1 h2 h3; exact chk_i (by rw [dMost, if_neg (beqF h1), if_neg (beqF h2), if_neg (beqF h3)])
  · cases hcr
set_option maxHeartbeats 4000000 in
set_option maxRecDepth 20000 in
theorem okPCheck (hS : Hyp G) : ConOK Tryz.prog G 21 cPCheck := by
  refine seat_con hS.seat [(48, cIs), (49, cMay), (50, cPMost), (51, cKind)] [] ⟨okIs hS, okMay hS, okPMost hS, okKind hS, trivial⟩ Tryz.func21 rfl rfl rfl ?_
  intro rvs cr hcr hpre
  unfold cPCheck at hcr
  split at hcr
  · rename_i p side clock full
    cases hcr
    refine ⟨⟨rfl, rfl, rfl⟩, fun c hc vs => ?_⟩
    repeat' (first | exact Bool.noConfusion ‹(!true) = true› | exact Bool.noConfusion ‹(!false) = false› | (intro h; exact h) | (intro h; rw [h]; rfl) | (intro h1 h2; rw [h1, h2]; rfl) | (intro _; assumption) | (intro _; exact rfl) | (intro h; exact Bool.noConfusion (h.symm.trans ‹_ = false›)) | refine ⟨fun _ => ?_, fun _ => ?_⟩ | refine ⟨?_⟩ | refine ⟨?_, ?_⟩ | fail)
    all_goals first | exact rfl | skip
    · rename_i h; exact chk_i (by rw [rCheck, if_pos (pArg_t h)])
    · rename_i h
      have ha := pArg_f h
      have hp := (rArg_f ha).1
      have hb := bl_bytes hp
      have h90 := spIs_size hp
      refine Tr_loopH (α := Nat) (fun i => [(4, .b (rightTo (bytesL p) i)), (43, .i .i64 (.ofNat i))]) (fun _ => []) (fun i => [(0, some ⟨86, .int .i64, cntT (bytesL p) i, true⟩)]) (fun i => i ≤ 90) (fun i => 90 - i) 0 (Nat.zero_le _) (by ((refine ⟨?_, rfl, ?_, ?_, ?_, rfl⟩ <;> repeat' (first | exact trivial | (refine ⟨rfl, ?_⟩) | (refine ⟨?_, ?_⟩) | fail)); all_goals first | rfl | (simp (config := { failIfUnchanged := false }) only [cntT_zero, rightTo_zero]; done) | (simp [cntT_zero, rightTo_zero]; done) | (simp_all [cntT_zero, rightTo_zero]; done) | skip)) ?_
      intro i hi
      have hby := BY.at p (Int.ofNat i).toNat
      have hcl := cntT_len (bytesL p) i
      refine vs.go rfl ?_
      repeat' (first | exact Bool.noConfusion ‹(!true) = true› | exact Bool.noConfusion ‹(!false) = false› | (intro h; exact h) | (intro h; rw [h]; rfl) | (intro h1 h2; rw [h1, h2]; rfl) | (intro _; assumption) | (intro _; exact rfl) | (intro h; exact Bool.noConfusion (h.symm.trans ‹_ = false›)) | refine ⟨fun _ => ?_, fun _ => ?_⟩ | refine ⟨?_⟩ | refine ⟨?_, ?_⟩ | fail)
      all_goals first | exact trivial | (refine (?_ : (_ : Int) ≠ _); decide) | exact rfl | skip
      all_goals try dsimp only at *
      all_goals first | (rename_i h; have h := lt90 h; show (i : Int) < (p.size : Int); omega) | exact hby.lo | (show byteAt p _ < ((cntT (bytesL p) i).length : Int); rw [hcl]; exact hby.hi) | exact hcl | skip
      · rename_i h1
        have hi90 := lt90 h1
        have hil : i < (bytesL p).length := by rw [hb.len]; exact hi90
        have hbi : (bytesL p).getD i 0 = byteAt p (Int.ofNat i).toNat := bytesL_getD p i
        have hbd := cntT_bd (bytesL p) i hb.len hby
        refine Again.mk (i + 1) (by omega) (by omega) ?_
        rw [cntT_next hil (by rw [hbi]; exact hby), hbi, rightTo_next, bAt_bytes, wrapN (by omega)]
        have hw : IntKind.i64.wrap ((cntT (bytesL p) i).getD (byteAt p (Int.ofNat i).toNat).toNat (EK.int .i64).dflt + 1) = (cntT (bytesL p) i).getD (byteAt p (Int.ofNat i).toNat).toNat 0 + 1 := wrap64 (x := (cntT (bytesL p) i).getD (byteAt p (Int.ofNat i).toNat).toNat 0 + 1) (by omega) (by omega)
        rw [hw]
        (refine ⟨?_, rfl, ?_, ?_, ?_, rfl⟩ <;> repeat' (first | exact trivial | (refine ⟨rfl, ?_⟩) | fail))
      · rename_i h1
        have hi90 : i = 90 := by have := ge90 h1; omega
        subst hi90
        refine Tr_loopH (α := Nat) (fun i => [(69, .i .i64 (.ofNat i))]) (fun _ => []) (fun _ => []) (fun i => i ≤ 14 ∧ ∀ k, k < i → dBadN (bytesL p) (letL.getD k 0) = false) (fun i => 14 - i) 0 ⟨by omega, fun k hk => by omega⟩ (by (refine ⟨?_, rfl, ?_, ?_, ?_, rfl⟩ <;> repeat' (first | exact trivial | (refine ⟨rfl, ?_⟩) | fail))) ?_
        rintro i ⟨hi, hq⟩
        obtain ⟨c1, hc1⟩ : ∃ c1, ([75, 65, 66, 78, 82, 67, 80, 107, 97, 98, 110, 114, 99, 112] : List EK.byte.ty).getD (Int.ofNat i).toNat EK.byte.dflt = c1 := ⟨_, rfl⟩
        have hc2 : c1 = letL.getD i 0 := hc1.symm
        have hlt : decide (Int.ofNat i < ((([75, 65, 66, 78, 82, 67, 80, 107, 97, 98, 110, 114, 99, 112] : List EK.byte.ty).length : Nat) : Int)) = true → i < 14 := fun h => ltN h
        have hge : decide (Int.ofNat i < ((([75, 65, 66, 78, 82, 67, 80, 107, 97, 98, 110, 114, 99, 112] : List EK.byte.ty).length : Nat) : Int)) = false → 14 ≤ i := fun h => geN h
        have hby1 : i < 14 → BY c1 := fun h => by rw [hc2]; exact letL_by i h
        have hcn : i < 14 → (cntT (bytesL p) 90).getD c1.toNat (EK.int .i64).dflt = dCnt (bytesL p) c1 := fun h => cntT_all hb.len (hby1 h)
        refine vs.go rfl ?_
        repeat' (first | exact Bool.noConfusion ‹(!true) = true› | exact Bool.noConfusion ‹(!false) = false› | (intro h; exact h) | (intro h; rw [h]; rfl) | (intro h1 h2; rw [h1, h2]; rfl) | (intro _; assumption) | (intro _; exact rfl) | (intro h; exact Bool.noConfusion (h.symm.trans ‹_ = false›)) | refine ⟨fun _ => ?_, fun _ => ?_⟩ | refine ⟨?_⟩ | refine ⟨?_, ?_⟩ | fail)
        all_goals first | exact trivial | (refine (?_ : (_ : Int) ≠ _); decide) | exact rfl | skip
        all_goals try dsimp only at *
        all_goals simp only [hc1] at *
        all_goals first | (rename_i h; exact Int.ofNat_lt.2 (hlt h)) | (rename_i h; exact (hby1 (hlt h)).lo) | (rename_i h; exact hby1 (hlt h)) | (rename_i h; show c1 < (((cntT (bytesL p) 90).length : Nat) : Int); rw [hcl]; exact (hby1 (hlt h)).hi) | (rename_i h; intro _; exact ⟨(hby1 (hlt h)).lo, by show c1 < (((cntT (bytesL p) 90).length : Nat) : Int); rw [hcl]; exact (hby1 (hlt h)).hi, hcl⟩) | skip
        · rename_i h3 h4
          rw [hcn (hlt h3)] at h4
          exact chk_i (by rw [rCheck, if_neg (by simp [ha]), dCheck, if_pos (any_t (d := 0) (hlt h3) (by rw [← hc2]; exact h4))])
        · rename_i h3 h4
          rw [hcn (hlt h3)] at h4
          have := hlt h3
          refine Again.mk (i + 1) ⟨by omega, till hq (by rw [← hc2]; exact h4)⟩ (by omega) ?_
          rw [wrapN (by omega)]
          (refine ⟨?_, rfl, ?_, ?_, ?_, rfl⟩ <;> repeat' (first | exact trivial | (refine ⟨rfl, ?_⟩) | fail))
        · rename_i h3 h4
          have := hge h3
          have hN : letL.any (dBadN (bytesL p)) = false := any_f (d := 0) fun k hk => hq k (by have : letL.length = 14 := rfl; omega)
          rw [rightTo_all, Bool.not_not] at h4
          exact chk_i (by rw [rCheck, if_neg (by simp [ha]), dCheck, if_neg (by rw [hN]; exact Bool.noConfusion), if_pos h4])
        · rename_i h3 h4
          have := hge h3
          have hN : letL.any (dBadN (bytesL p)) = false := any_f (d := 0) fun k hk => hq k (by have : letL.length = 14 := rfl; omega)
          rw [rightTo_all, Bool.not_not] at h4
          exact chk_i (by rw [rCheck, if_neg (by simp [ha]), dCheck, if_neg (by rw [hN]; exact Bool.noConfusion), if_neg (by rw [h4]; exact Bool.noConfusion)])
  · cases hcr
end
end Go.X

namespace Go.X
open Go Go.Proofs Go.RowKit

theorem as_run {b : Nat} {n : Int} {old : Value} {w : World} (ht : w.cell? ⟨b, 0, none⟩ = some old) (hf : w.frozen? ⟨b, 0, none⟩ = false) : (storeCells ⟨b, 0, none⟩ [.int .i64 n]).run Tryz.prog w = .ok () (w.setCell ⟨b, 0, none⟩ (.int .i64 n)) := by
  simp only [storeCells, Sem.run_bind, Addr.add]
  rw [run_store Tryz.prog w _ _ _ (by rfl)]
  simp [ht, hf, Result.andThen]
theorem as_lawR (n : Int) : AsLaw Tryz.prog 18 42 40 Globs (.iface 40 (.int .i64 n)) n := by
  intro b old w hG hb
  have hlt : b < w.heap.size := (Array.getElem?_eq_some_iff.1 hb).1
  have ht0 : w.cell? ⟨b, 0, none⟩ = some old := by unfold World.cell?; simp [hb]
  have hf0 : w.frozen? ⟨b, 0, none⟩ = false := by unfold World.frozen?; simp [hb]
  refine (as_hitR n ⟨b, 0, none⟩ old w hG.ety ht0 hf0).mono ?_
  rintro en w' ⟨rfl, rfl⟩
  refine ⟨rfl, _, ?_, as_run (old := old) ?_ ?_⟩
  · exact ((((Below.refl _ _).alloc (Nat.le_refl _) _).alloc (by simp) _).alloc (by simp <;> omega) _).alloc (by simp <;> omega) _
  · rw [World.cell?_alloc_lt _ _ _ (by simp <;> omega), World.cell?_alloc_lt _ _ _ (by simp <;> omega), World.cell?_alloc_lt _ _ _ (by simp <;> omega), World.cell?_alloc_lt _ _ _ hlt]; exact ht0
  · rw [World.frozen?_alloc_old _ _ _ (by simp <;> omega), World.frozen?_alloc_old _ _ _ (by simp <;> omega), World.frozen?_alloc_old _ _ _ (by simp <;> omega), World.frozen?_alloc_old _ _ _ (Nat.ne_of_lt hlt)]; exact hf0
theorem as_lawW (f n : Int) : AsLaw Tryz.prog 18 42 40 Globs (.iface 71 (.agg #[.int .i64 f, .iface 40 (.int .i64 n)])) n := by
  intro b old w hG hb
  have hlt : b < w.heap.size := (Array.getElem?_eq_some_iff.1 hb).1
  have ht0 : w.cell? ⟨b, 0, none⟩ = some old := by unfold World.cell?; simp [hb]
  have hf0 : w.frozen? ⟨b, 0, none⟩ = false := by unfold World.frozen?; simp [hb]
  refine (as_hitW f n ⟨b, 0, none⟩ old w hG.ety ht0 hf0).mono ?_
  rintro en w' ⟨rfl, rfl⟩
  refine ⟨rfl, _, ?_, as_run (old := old) ?_ ?_⟩
  · exact (((((Below.refl _ _).alloc (Nat.le_refl _) _).alloc (by simp) _).alloc (by simp <;> omega) _).alloc (by simp <;> omega) _).alloc (by simp <;> omega) _
  · rw [World.cell?_alloc_lt _ _ _ (by simp <;> omega), World.cell?_alloc_lt _ _ _ (by simp <;> omega), World.cell?_alloc_lt _ _ _ (by simp <;> omega), World.cell?_alloc_lt _ _ _ (by simp <;> omega), World.cell?_alloc_lt _ _ _ hlt]; exact ht0
  · rw [World.frozen?_alloc_old _ _ _ (by simp <;> omega), World.frozen?_alloc_old _ _ _ (by simp <;> omega), World.frozen?_alloc_old _ _ _ (by simp <;> omega), World.frozen?_alloc_old _ _ _ (by simp <;> omega), World.frozen?_alloc_old _ _ _ (Nat.ne_of_lt hlt)]; exact hf0

structure SHT (s : ByteArray) : Prop where
  le : s.size ≤ 4000000
  u : True
  v : True
def cIdxS : Con
  | [.a (.s s), .a (.s t)] => some ⟨[SHT s], .a (.i .i64 (Lib.index s.data.toList t.data.toList)), [], []⟩
  | _ => none
def cConS : Con
  | [.a (.s s), .a (.s t)] => some ⟨[SHT s], .a (.b (Lib.contains s.data.toList t.data.toList)), [], []⟩
  | _ => none
section
variable {G : Nat → World → Prop}
theorem okIdxS (hS : Hyp G) : ConOK Tryz.prog G 40 cIdxS := by
  refine con_ext Tryz.func40 rfl rfl ?_
  intro rvs cr hcr hpre
  unfold cIdxS at hcr
  split at hcr
  · rename_i s t
    cases hcr
    have hp := (hpre _ (List.mem_singleton.2 rfl)).le
    refine ⟨_, .int .i64 (Lib.index s.data.toList t.data.toList), _, rfl, rfl, fun _ _ => rfl, fun g0 w _ hG => ?_⟩
    obtain ⟨m, hm⟩ := (hS.glob g0 w hG).mlen
    refine (Tryz.strings_Index s t m w (by omega) hm).mono ?_
    rintro e w' ⟨rfl, rfl⟩
    exact ⟨rfl, Below.refl _ _⟩
  · cases hcr
theorem okConS (hS : Hyp G) : ConOK Tryz.prog G 42 cConS := by
  refine con_ext Tryz.func42 rfl rfl ?_
  intro rvs cr hcr hpre
  unfold cConS at hcr
  split at hcr
  · rename_i s t
    cases hcr
    have hp := (hpre _ (List.mem_singleton.2 rfl)).le
    refine ⟨_, .bool (Lib.contains s.data.toList t.data.toList), _, rfl, rfl, fun _ _ => rfl, fun g0 w _ hG => ?_⟩
    obtain ⟨m, hm⟩ := (hS.glob g0 w hG).mlen
    refine (Tryz.strings_Contains s t m w (by omega) hm).mono ?_
    rintro e w' ⟨rfl, rfl⟩
    exact ⟨rfl, Below.refl _ _⟩
  · cases hcr
end
end Go.X

namespace Go.X
open Go Go.Proofs Go.RowKit

def aggP (p : Pos4) : RT := .agg [.a (.s p.1), .a (.i .i64 p.2.1), .a (.i .i64 p.2.2.1), .a (.i .i64 p.2.2.2)]
def cParse4 : Con
  | [.a (.s s)] => some ⟨[TZ4 s], .tup [aggP (parseP s).1, .a (.i .i64 (parseP s).2)], [], []⟩
  | _ => none
/- The parts, veiled. -/
noncomputable def cSplitV : Con := cSplitF 9 (fun s sep => veil (splitL s sep)) SPL
noncomputable def cNumV : Con
  | [.a (.s s)] => some ⟨[TZ4 s], .tup [.a (.i .i64 (veil (atoiV s))), .a (.b (veil (numOk s)))], [], []⟩
  | _ => none
noncomputable def cIdxV : Con
  | [.a (.s s), .a (.s t)] => some ⟨[SHT s], .a (.i .i64 (veil (Lib.index s.data.toList t.data.toList))), [], []⟩
  | _ => none
noncomputable def cConV : Con
  | [.a (.s s), .a (.s t)] => some ⟨[SHT s], .a (.b (veil (Lib.contains s.data.toList t.data.toList))), [], []⟩
  | _ => none
noncomputable def cCellsV : Con
  | [.a (.s s)] => some ⟨[TZ4 s], .tup [.a (.s (veil (bytesOf (cellsT (bytesL s))))), .a (.b (veil (cellsOk (bytesL s))))], [], []⟩
  | _ => none
noncomputable def cCheckV : Con
  | [.agg [.a (.s p), .a (.i .i64 side), .a (.i .i64 clock), .a (.i .i64 full)]] => some ⟨[], .a (.i .i64 (veil (rCheck p side clock full))), [], []⟩
  | _ => none
theorem splitV : cSplitV = cSplitS := by unfold cSplitV; congr 1; funext s sep; exact veil_eq _
theorem numV : cNumV = cNumP := by
  funext l; unfold cNumV cNumP; split <;> simp only [veil_eq]
theorem idxV : cIdxV = cIdxS := by
  funext l; unfold cIdxV cIdxS; split <;> simp only [veil_eq]
theorem conV : cConV = cConS := by
  funext l; unfold cConV cConS; split <;> simp only [veil_eq]
theorem cellsV : cCellsV = cCellsP := by
  funext l; unfold cCellsV cCellsP; split <;> simp only [veil_eq]
theorem checkV : cCheckV = cPCheck := by
  funext l; unfold cCheckV cPCheck; split <;> simp only [veil_eq]
section
variable {G : Nat → World → Prop}
theorem okSplitV (hS : Hyp G) : ConOK Tryz.prog G 38 cSplitV := by rw [splitV]; exact okSplitS hS
theorem okNumV (hS : Hyp G) : ConOK Tryz.prog G 39 cNumV := by rw [numV]; exact okNumP hS
theorem okIdxV (hS : Hyp G) : ConOK Tryz.prog G 40 cIdxV := by rw [idxV]; exact okIdxS hS
theorem okConV (hS : Hyp G) : ConOK Tryz.prog G 42 cConV := by rw [conV]; exact okConS hS
theorem okCellsV (hS : Hyp G) : ConOK Tryz.prog G 41 cCellsV := by rw [cellsV]; exact okCellsP hS
theorem okCheckV (hS : Hyp G) : ConOK Tryz.prog G 21 cCheckV := by rw [checkV]; exact okPCheck hS
set_option maxHeartbeats 40000000 in
set_option maxRecDepth 20000 in
theorem okParse4 (hS : Hyp G) : ConOK Tryz.prog G 11 cParse4 := by
  refine seat_conG hS.seat [(38, cSplitV), (39, cNumV), (40, cIdxV), (41, cCellsV), (42, cConV), (21, cCheckV)] [] ⟨okSplitV hS, okNumV hS, okIdxV hS, okCellsV hS, okConV hS, okCheckV hS, trivial⟩ Tryz.func11 rfl rfl rfl ?_
  intro rvs cr hcr hpre
  unfold cParse4 at hcr
  split at hcr
  · rename_i s
    cases hcr
    simp only [List.mem_cons, List.not_mem_nil, or_false, forall_eq_or_imp, forall_eq] at hpre
    refine ⟨⟨rfl, rfl, rfl⟩, fun c hc hgood vs => ?_⟩
    have hsz := hpre.le
    repeat' (first | exact Bool.noConfusion ‹(!true) = true› | exact Bool.noConfusion ‹(!false) = false› | (intro h; exact h) | (intro h; rw [h]; rfl) | (intro h1 h2; rw [h1, h2]; rfl) | (intro _; assumption) | (intro _; exact rfl) | (intro h; exact Bool.noConfusion (h.symm.trans ‹_ = false›)) | refine ⟨fun _ => ?_, fun _ => ?_⟩ | refine ⟨?_⟩ | refine ⟨?_, ?_⟩ | fail)
    refine trOps_none rfl (inl_one false hS.seat.tt rfl rfl Tryz.func17 rfl rfl ?_)
    intro cI hkI hrI
    refine (vs.kin hkI).go rfl ?_
    repeat' (first | exact Bool.noConfusion ‹(!true) = true› | exact Bool.noConfusion ‹(!false) = false› | (intro h; exact h) | (intro h; rw [h]; rfl) | (intro h1 h2; rw [h1, h2]; rfl) | (intro _; assumption) | (intro _; exact rfl) | (intro h; exact Bool.noConfusion (h.symm.trans ‹_ = false›)) | refine ⟨fun _ => ?_, fun _ => ?_⟩ | refine ⟨?_⟩ | refine ⟨?_, ?_⟩ | fail)
    all_goals try simp only [veil_eq] at *
    all_goals first | exact rfl | exact trivial | skip
    all_goals first | (have hL6 : (pieces 32 s).length = 6 := len_is6 ‹(Int.ofNat (pieces 32 s).length == 6) = true›) | (have hL2 : (pieces 32 s).length = 2 := len_is2 ‹(Int.ofNat (pieces 32 s).length == 2) = true›) | skip
    all_goals first | exact ⟨hsz, rfl, trivial⟩ | exact ⟨fld_tz hsz _, trivial, trivial⟩ | exact ⟨by decide, trivial, trivial⟩ | (refine (?_ : (2 : Int) ≠ 0); decide) | (refine (?_ : (_ : Int) < Int.ofNat (pieces 32 s).length); first | (rw [hL6]; decide) | (rw [hL2]; decide)) | (refine (fun _ => (?_ : (0 : Int) ≤ _ ∧ (_ : Int) < Int.ofNat (pieces 32 s).length)); first | (rw [hL6]; exact ⟨by decide, by decide⟩) | (rw [hL2]; exact ⟨by decide, by decide⟩)) | exact fun _ => ⟨by decide, trivial, trivial⟩ | skip
    · have hpp := parse_bad (rd_bad hL6 (‹(!numOk (fld s 4) || !numOk (fld s 5) || !strEq (fld s 2) ⟨#[45]⟩ || !strEq (fld s 3) ⟨#[45]⟩) = true›))
      refine vs.on ?_
      repeat' (first | exact Bool.noConfusion ‹(!true) = true› | exact Bool.noConfusion ‹(!false) = false› | (intro h; exact h) | (intro h; rw [h]; rfl) | (intro h1 h2; rw [h1, h2]; rfl) | (intro _; assumption) | (intro _; exact rfl) | (intro h; exact Bool.noConfusion (h.symm.trans ‹_ = false›)) | refine ⟨fun _ => ?_, fun _ => ?_⟩ | refine ⟨?_⟩ | refine ⟨?_, ?_⟩ | fail)
      refine trOps_none rfl (tr_as (as_lawW _ _) (fun w hw => hS.glob _ _ (hgood w hw)) rfl Tryz.func18 rfl rfl rfl rfl rfl rfl ?_)
      refine vs.on ?_
      repeat' (first | exact Bool.noConfusion ‹(!true) = true› | exact Bool.noConfusion ‹(!false) = false› | (intro h; exact h) | (intro h; rw [h]; rfl) | (intro h1 h2; rw [h1, h2]; rfl) | (intro _; assumption) | (intro _; exact rfl) | (intro h; exact Bool.noConfusion (h.symm.trans ‹_ = false›)) | refine ⟨fun _ => ?_, fun _ => ?_⟩ | refine ⟨?_⟩ | refine ⟨?_, ?_⟩ | fail)
      all_goals first | exact rfl | exact trivial | (rw [hpp]; exact rfl)
    · have hpp := parse_bad ((rd_six hL6 (‹(!numOk (fld s 4) || !numOk (fld s 5) || !strEq (fld s 2) ⟨#[45]⟩ || !strEq (fld s 3) ⟨#[45]⟩) = false›)).trans (body_bad0 (‹(!cellsOk (bytesL (fld s 0))) = true›)))
      refine vs.on ?_
      repeat' (first | exact Bool.noConfusion ‹(!true) = true› | exact Bool.noConfusion ‹(!false) = false› | (intro h; exact h) | (intro h; rw [h]; rfl) | (intro h1 h2; rw [h1, h2]; rfl) | (intro _; assumption) | (intro _; exact rfl) | (intro h; exact Bool.noConfusion (h.symm.trans ‹_ = false›)) | refine ⟨fun _ => ?_, fun _ => ?_⟩ | refine ⟨?_⟩ | refine ⟨?_, ?_⟩ | fail)
      refine trOps_none rfl (tr_as (as_lawW _ _) (fun w hw => hS.glob _ _ (hgood w hw)) rfl Tryz.func18 rfl rfl rfl rfl rfl rfl ?_)
      refine vs.on ?_
      repeat' (first | exact Bool.noConfusion ‹(!true) = true› | exact Bool.noConfusion ‹(!false) = false› | (intro h; exact h) | (intro h; rw [h]; rfl) | (intro h1 h2; rw [h1, h2]; rfl) | (intro _; assumption) | (intro _; exact rfl) | (intro h; exact Bool.noConfusion (h.symm.trans ‹_ = false›)) | refine ⟨fun _ => ?_, fun _ => ?_⟩ | refine ⟨?_⟩ | refine ⟨?_, ?_⟩ | fail)
      all_goals first | exact rfl | exact trivial | (rw [hpp]; exact rfl)
    · have hpp := parse_bad ((rd_six hL6 (‹(!numOk (fld s 4) || !numOk (fld s 5) || !strEq (fld s 2) ⟨#[45]⟩ || !strEq (fld s 3) ⟨#[45]⟩) = false›)).trans (body_bad1 (‹(Int.ofNat (fld s 1).size != 1 || !Lib.contains wrb.data.toList (fld s 1).data.toList) = true›)))
      refine vs.on ?_
      repeat' (first | exact Bool.noConfusion ‹(!true) = true› | exact Bool.noConfusion ‹(!false) = false› | (intro h; exact h) | (intro h; rw [h]; rfl) | (intro h1 h2; rw [h1, h2]; rfl) | (intro _; assumption) | (intro _; exact rfl) | (intro h; exact Bool.noConfusion (h.symm.trans ‹_ = false›)) | refine ⟨fun _ => ?_, fun _ => ?_⟩ | refine ⟨?_⟩ | refine ⟨?_, ?_⟩ | fail)
      refine trOps_none rfl (tr_as (as_lawW _ _) (fun w hw => hS.glob _ _ (hgood w hw)) rfl Tryz.func18 rfl rfl rfl rfl rfl rfl ?_)
      refine vs.on ?_
      repeat' (first | exact Bool.noConfusion ‹(!true) = true› | exact Bool.noConfusion ‹(!false) = false› | (intro h; exact h) | (intro h; rw [h]; rfl) | (intro h1 h2; rw [h1, h2]; rfl) | (intro _; assumption) | (intro _; exact rfl) | (intro h; exact Bool.noConfusion (h.symm.trans ‹_ = false›)) | refine ⟨fun _ => ?_, fun _ => ?_⟩ | refine ⟨?_⟩ | refine ⟨?_, ?_⟩ | fail)
      all_goals first | exact rfl | exact trivial | (rw [hpp]; exact rfl)
    · have hpp := parse_chk ((rd_six hL6 (‹(!numOk (fld s 4) || !numOk (fld s 5) || !strEq (fld s 2) ⟨#[45]⟩ || !strEq (fld s 3) ⟨#[45]⟩) = false›)).trans (body_ok (‹(!cellsOk (bytesL (fld s 0))) = false›) (‹(Int.ofNat (fld s 1).size != 1 || !Lib.contains wrb.data.toList (fld s 1).data.toList) = false›))) (‹(rCheck (bytesOf (cellsT (bytesL (fld s 0)))) (sideP (fld s 1)) (atoiV (fld s 4)) (atoiV (fld s 5)) != 0) = true›)
      refine vs.on ?_
      repeat' (first | exact Bool.noConfusion ‹(!true) = true› | exact Bool.noConfusion ‹(!false) = false› | (intro h; exact h) | (intro h; rw [h]; rfl) | (intro h1 h2; rw [h1, h2]; rfl) | (intro _; assumption) | (intro _; exact rfl) | (intro h; exact Bool.noConfusion (h.symm.trans ‹_ = false›)) | refine ⟨fun _ => ?_, fun _ => ?_⟩ | refine ⟨?_⟩ | refine ⟨?_, ?_⟩ | fail)
      refine trOps_none rfl (tr_as (as_lawW _ _) (fun w hw => hS.glob _ _ (hgood w hw)) rfl Tryz.func18 rfl rfl rfl rfl rfl rfl ?_)
      refine vs.on ?_
      repeat' (first | exact Bool.noConfusion ‹(!true) = true› | exact Bool.noConfusion ‹(!false) = false› | (intro h; exact h) | (intro h; rw [h]; rfl) | (intro h1 h2; rw [h1, h2]; rfl) | (intro _; assumption) | (intro _; exact rfl) | (intro h; exact Bool.noConfusion (h.symm.trans ‹_ = false›)) | refine ⟨fun _ => ?_, fun _ => ?_⟩ | refine ⟨?_⟩ | refine ⟨?_, ?_⟩ | fail)
      all_goals first | exact rfl | exact trivial | (rw [hpp]; exact rfl)
    · have hpp := parse_ok ((rd_six hL6 (‹(!numOk (fld s 4) || !numOk (fld s 5) || !strEq (fld s 2) ⟨#[45]⟩ || !strEq (fld s 3) ⟨#[45]⟩) = false›)).trans (body_ok (‹(!cellsOk (bytesL (fld s 0))) = false›) (‹(Int.ofNat (fld s 1).size != 1 || !Lib.contains wrb.data.toList (fld s 1).data.toList) = false›))) (‹(rCheck (bytesOf (cellsT (bytesL (fld s 0)))) (sideP (fld s 1)) (atoiV (fld s 4)) (atoiV (fld s 5)) != 0) = false›)
      refine vs.on ?_
      repeat' (first | exact Bool.noConfusion ‹(!true) = true› | exact Bool.noConfusion ‹(!false) = false› | (intro h; exact h) | (intro h; rw [h]; rfl) | (intro h1 h2; rw [h1, h2]; rfl) | (intro _; assumption) | (intro _; exact rfl) | (intro h; exact Bool.noConfusion (h.symm.trans ‹_ = false›)) | refine ⟨fun _ => ?_, fun _ => ?_⟩ | refine ⟨?_⟩ | refine ⟨?_, ?_⟩ | fail)
      refine trOps_none rfl (tr_asNil as_none rfl Tryz.func18 rfl rfl rfl ?_)
      refine vs.on ?_
      repeat' (first | exact Bool.noConfusion ‹(!true) = true› | exact Bool.noConfusion ‹(!false) = false› | (intro h; exact h) | (intro h; rw [h]; rfl) | (intro h1 h2; rw [h1, h2]; rfl) | (intro _; assumption) | (intro _; exact rfl) | (intro h; exact Bool.noConfusion (h.symm.trans ‹_ = false›)) | refine ⟨fun _ => ?_, fun _ => ?_⟩ | refine ⟨?_⟩ | refine ⟨?_, ?_⟩ | fail)
      all_goals first | exact rfl | exact trivial | (rw [hpp]; exact rfl)
    · have hpp := parse_bad ((rd_two hL2).trans (body_bad0 (‹(!cellsOk (bytesL (fld s 0))) = true›)))
      refine vs.on ?_
      repeat' (first | exact Bool.noConfusion ‹(!true) = true› | exact Bool.noConfusion ‹(!false) = false› | (intro h; exact h) | (intro h; rw [h]; rfl) | (intro h1 h2; rw [h1, h2]; rfl) | (intro _; assumption) | (intro _; exact rfl) | (intro h; exact Bool.noConfusion (h.symm.trans ‹_ = false›)) | refine ⟨fun _ => ?_, fun _ => ?_⟩ | refine ⟨?_⟩ | refine ⟨?_, ?_⟩ | fail)
      refine trOps_none rfl (tr_as (as_lawW _ _) (fun w hw => hS.glob _ _ (hgood w hw)) rfl Tryz.func18 rfl rfl rfl rfl rfl rfl ?_)
      refine vs.on ?_
      repeat' (first | exact Bool.noConfusion ‹(!true) = true› | exact Bool.noConfusion ‹(!false) = false› | (intro h; exact h) | (intro h; rw [h]; rfl) | (intro h1 h2; rw [h1, h2]; rfl) | (intro _; assumption) | (intro _; exact rfl) | (intro h; exact Bool.noConfusion (h.symm.trans ‹_ = false›)) | refine ⟨fun _ => ?_, fun _ => ?_⟩ | refine ⟨?_⟩ | refine ⟨?_, ?_⟩ | fail)
      all_goals first | exact rfl | exact trivial | (rw [hpp]; exact rfl)
    · have hpp := parse_bad ((rd_two hL2).trans (body_bad1 (‹(Int.ofNat (fld s 1).size != 1 || !Lib.contains wrb.data.toList (fld s 1).data.toList) = true›)))
      refine vs.on ?_
      repeat' (first | exact Bool.noConfusion ‹(!true) = true› | exact Bool.noConfusion ‹(!false) = false› | (intro h; exact h) | (intro h; rw [h]; rfl) | (intro h1 h2; rw [h1, h2]; rfl) | (intro _; assumption) | (intro _; exact rfl) | (intro h; exact Bool.noConfusion (h.symm.trans ‹_ = false›)) | refine ⟨fun _ => ?_, fun _ => ?_⟩ | refine ⟨?_⟩ | refine ⟨?_, ?_⟩ | fail)
      refine trOps_none rfl (tr_as (as_lawW _ _) (fun w hw => hS.glob _ _ (hgood w hw)) rfl Tryz.func18 rfl rfl rfl rfl rfl rfl ?_)
      refine vs.on ?_
      repeat' (first | exact Bool.noConfusion ‹(!true) = true› | exact Bool.noConfusion ‹(!false) = false› | (intro h; exact h) | (intro h; rw [h]; rfl) | (intro h1 h2; rw [h1, h2]; rfl) | (intro _; assumption) | (intro _; exact rfl) | (intro h; exact Bool.noConfusion (h.symm.trans ‹_ = false›)) | refine ⟨fun _ => ?_, fun _ => ?_⟩ | refine ⟨?_⟩ | refine ⟨?_, ?_⟩ | fail)
      all_goals first | exact rfl | exact trivial | (rw [hpp]; exact rfl)
    · have hpp := parse_chk ((rd_two hL2).trans (body_ok (‹(!cellsOk (bytesL (fld s 0))) = false›) (‹(Int.ofNat (fld s 1).size != 1 || !Lib.contains wrb.data.toList (fld s 1).data.toList) = false›))) (‹(rCheck (bytesOf (cellsT (bytesL (fld s 0)))) (sideP (fld s 1)) 0 1 != 0) = true›)
      refine vs.on ?_
      repeat' (first | exact Bool.noConfusion ‹(!true) = true› | exact Bool.noConfusion ‹(!false) = false› | (intro h; exact h) | (intro h; rw [h]; rfl) | (intro h1 h2; rw [h1, h2]; rfl) | (intro _; assumption) | (intro _; exact rfl) | (intro h; exact Bool.noConfusion (h.symm.trans ‹_ = false›)) | refine ⟨fun _ => ?_, fun _ => ?_⟩ | refine ⟨?_⟩ | refine ⟨?_, ?_⟩ | fail)
      refine trOps_none rfl (tr_as (as_lawW _ _) (fun w hw => hS.glob _ _ (hgood w hw)) rfl Tryz.func18 rfl rfl rfl rfl rfl rfl ?_)
      refine vs.on ?_
      repeat' (first | exact Bool.noConfusion ‹(!true) = true› | exact Bool.noConfusion ‹(!false) = false› | (intro h; exact h) | (intro h; rw [h]; rfl) | (intro h1 h2; rw [h1, h2]; rfl) | (intro _; assumption) | (intro _; exact rfl) | (intro h; exact Bool.noConfusion (h.symm.trans ‹_ = false›)) | refine ⟨fun _ => ?_, fun _ => ?_⟩ | refine ⟨?_⟩ | refine ⟨?_, ?_⟩ | fail)
      all_goals first | exact rfl | exact trivial | (rw [hpp]; exact rfl)
    · have hpp := parse_ok ((rd_two hL2).trans (body_ok (‹(!cellsOk (bytesL (fld s 0))) = false›) (‹(Int.ofNat (fld s 1).size != 1 || !Lib.contains wrb.data.toList (fld s 1).data.toList) = false›))) (‹(rCheck (bytesOf (cellsT (bytesL (fld s 0)))) (sideP (fld s 1)) 0 1 != 0) = false›)
      refine vs.on ?_
      repeat' (first | exact Bool.noConfusion ‹(!true) = true› | exact Bool.noConfusion ‹(!false) = false› | (intro h; exact h) | (intro h; rw [h]; rfl) | (intro h1 h2; rw [h1, h2]; rfl) | (intro _; assumption) | (intro _; exact rfl) | (intro h; exact Bool.noConfusion (h.symm.trans ‹_ = false›)) | refine ⟨fun _ => ?_, fun _ => ?_⟩ | refine ⟨?_⟩ | refine ⟨?_, ?_⟩ | fail)
      refine trOps_none rfl (tr_asNil as_none rfl Tryz.func18 rfl rfl rfl ?_)
      refine vs.on ?_
      repeat' (first | exact Bool.noConfusion ‹(!true) = true› | exact Bool.noConfusion ‹(!false) = false› | (intro h; exact h) | (intro h; rw [h]; rfl) | (intro h1 h2; rw [h1, h2]; rfl) | (intro _; assumption) | (intro _; exact rfl) | (intro h; exact Bool.noConfusion (h.symm.trans ‹_ = false›)) | refine ⟨fun _ => ?_, fun _ => ?_⟩ | refine ⟨?_⟩ | refine ⟨?_, ?_⟩ | fail)
      all_goals first | exact rfl | exact trivial | (rw [hpp]; exact rfl)
    · have hpp := parse_bad (rd_no (len_not6 (‹(Int.ofNat (pieces 32 s).length == 6) = false›)) (len_not2 (‹(Int.ofNat (pieces 32 s).length == 2) = false›)))
      refine vs.on ?_
      repeat' (first | exact Bool.noConfusion ‹(!true) = true› | exact Bool.noConfusion ‹(!false) = false› | (intro h; exact h) | (intro h; rw [h]; rfl) | (intro h1 h2; rw [h1, h2]; rfl) | (intro _; assumption) | (intro _; exact rfl) | (intro h; exact Bool.noConfusion (h.symm.trans ‹_ = false›)) | refine ⟨fun _ => ?_, fun _ => ?_⟩ | refine ⟨?_⟩ | refine ⟨?_, ?_⟩ | fail)
      refine trOps_none rfl (tr_as (as_lawR _) (fun w hw => hS.glob _ _ (hgood w hw)) rfl Tryz.func18 rfl rfl rfl rfl rfl rfl ?_)
      refine vs.on ?_
      repeat' (first | exact Bool.noConfusion ‹(!true) = true› | exact Bool.noConfusion ‹(!false) = false› | (intro h; exact h) | (intro h; rw [h]; rfl) | (intro h1 h2; rw [h1, h2]; rfl) | (intro _; assumption) | (intro _; exact rfl) | (intro h; exact Bool.noConfusion (h.symm.trans ‹_ = false›)) | refine ⟨fun _ => ?_, fun _ => ?_⟩ | refine ⟨?_⟩ | refine ⟨?_, ?_⟩ | fail)
      all_goals first | exact rfl | exact trivial | (rw [hpp]; exact rfl)
  · cases hcr
end
end Go.X
