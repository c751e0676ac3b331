/-
  Parts of the proof.
-/
import Derived.Ground.Names7Prog
import Derived.Shelf.Spec.TrailingZeros
import Derived.Shelf.Strings.Builder1
import Derived.Shelf.Strings.Builder2
import Derived.Shelf.Strings.OnBuilder
import Derived.Shelf.Small.Utf8
import Derived.Shelf.Small.Strs
import Derived.Shelf.Strings.BuilderF
import Derived.Shelf.Strings.BuilderK
import Derived.Shelf.Strconv.Atoi
import Derived.Shelf.Strconv.Itoa0
import Derived.Shelf.Strconv.Itoa1
import Derived.Shelf.LaysM
import Derived.Shelf.Strconv.Itoa2
import Derived.Shelf.Strconv.Itoa3
import Derived.Shelf.Strconv.AtoiErrFast
import Derived.Shelf.Strconv.ParseIntEmpty
import Derived.Shelf.Strconv.AtoiFail
import Derived.Shelf.Strconv.Clone
import Derived.Shelf.Strconv.SyntaxError
import Derived.Shelf.LaysC
import Derived.Shelf.Strconv.ToError
import Derived.Shelf.Strconv.Lower
import Derived.Shelf.Strconv.ParseUint10
import Derived.Shelf.Strconv.ParseUint10Empty
import Derived.Shelf.Strconv.ParseUint10Any
import Derived.Shelf.Strconv.ParseInt10
import Derived.Shelf.Strconv.AtoiLong
import Derived.Shelf.Strconv.AtoiInnerAll
import Derived.Shelf.Strconv.RangeError
import Derived.Shelf.Strconv.ToErrorRange
import Derived.Shelf.Strconv.AtoiAll
import Derived.Shelf.Strconv.ErrVarAll
import Derived.Shelf.Strings.Search1
import Derived.Shelf.Strings.Search2
import Derived.Shelf.Strings.Search3
import Derived.Shelf.Strings.Count
import Derived.Shelf.Strings.Shaped
import Derived.Shelf.GgClosure.StringsIndexFunc
import Derived.Ground.GgwProg
import Derived.Shelf.GgClosure.StringsIndexFuncTop
import Derived.Shelf.Strings.Prefix
import Derived.Shelf.Strings.Split
import Derived.Shelf.Strings.Replace
import Derived.Shelf.Strings.SplitShaped
import Derived.Shelf.Strings.Runes
import Derived.Shelf.Strings.IndexAny
import Derived.Shelf.Strings.AsciiSet
import Derived.Shelf.Strings.IndexAnyAll
import Derived.Shelf.Bits.Mul64
import Derived.Shelf.Strings.Repeat
import Derived.Shelf.Unicode.DecodeSlow
import Derived.Shelf.Unicode.DecodeAny
import Derived.Shelf.Strings.FuncGrows
import Derived.Ground.Names2Prog
import Derived.Shelf.Slices.ReverseS
import Derived.Shelf.Slices.Cells
import Derived.Test.YtebdmniefanenaaGreatDoorProg
import Derived.Test.YtebdmniefanenaaGreatDoorA2
import Derived.Lib.LaidTab
import Derived.Test.YtebdmniefanenaaGreatDoorA3
import Derived.Laws.Rows
import Derived.LaidEql
import Derived.Stop.Asserts
import Derived.RowKitTokens

set_option linter.unusedSimpArgs false
set_option linter.unusedVariables false

namespace Go.Proofs
open Go.Shelf
def Tryz.lays156_ren : Go.Shelf.Ren := ⟨fun | 156 => 22 | 165 => 44 | 166 => 40 | 169 => 42 | 240 => 66 | 241 => 67 | 276 => 107 | 277 => 108 | n => n, fun | 31 => 38 | 9 => 9 | 3 => 3 | 4 => 4 | 0 => 0 | 20 => 20 | 72 => 75 | 76 => 56 | 70 => 73 | 37 => 72 | 75 => 55 | 127 => 101 | 164 => 144 | 5 => 5 | 80 => 79 | n => n, fun | n => n⟩
theorem Tryz.lays156 : Go.Proofs.Lays.n156 Tryz.prog Tryz.lays156_ren := {
  mixed := by kernel_rfl
  f156 := Tryz.func22.trans (congrArg some (by kernel_rfl))
  f165 := Tryz.func44.trans (congrArg some (by kernel_rfl))
  f166 := Tryz.func40.trans (congrArg some (by kernel_rfl))
  f169 := Tryz.func42.trans (congrArg some (by kernel_rfl))
  f240 := Tryz.func66.trans (congrArg some (by kernel_rfl))
  f241 := Tryz.func67.trans (congrArg some (by kernel_rfl))
  f276 := Tryz.func107.trans (congrArg some (by kernel_rfl))
  f277 := Tryz.func108.trans (congrArg some (by kernel_rfl))
  t0 := Tryz.underlying0
  a0 := Tryz.isAgg0
  z0 := Tryz.sizeOf0
  v0 := Tryz.zeroValue0
  t3 := Tryz.underlying3
  a3 := Tryz.isAgg3
  z3 := Tryz.sizeOf3
  v3 := Tryz.zeroValue3
  t4 := Tryz.underlying4
  a4 := Tryz.isAgg4
  z4 := Tryz.sizeOf4
  v4 := Tryz.zeroValue4
  t9 := Tryz.underlying9
  a9 := Tryz.isAgg9
  z9 := Tryz.sizeOf9
  v9 := Tryz.zeroValue9
  t20 := Tryz.underlying20
  a20 := Tryz.isAgg20
  z20 := Tryz.sizeOf20
  v20 := Tryz.zeroValue20
  t31 := Tryz.underlying38
  a31 := Tryz.isAgg38
  z31 := Tryz.sizeOf38
  v31 := Tryz.zeroValue38
  t37 := Tryz.underlying72
  a37 := Tryz.isAgg72
  z37 := Tryz.sizeOf72
  v37 := Tryz.zeroValue72
  t70 := Tryz.underlying73
  a70 := Tryz.isAgg73
  z70 := Tryz.sizeOf73
  v70 := Tryz.zeroValue73
  t72 := Tryz.underlying75
  a72 := Tryz.isAgg75
  z72 := Tryz.sizeOf75
  v72 := Tryz.zeroValue75
  t75 := Tryz.underlying55
  a75 := Tryz.isAgg55
  z75 := Tryz.sizeOf55
  v75 := Tryz.zeroValue55
  t76 := Tryz.underlying56
  a76 := Tryz.isAgg56
  z76 := Tryz.sizeOf56
  v76 := Tryz.zeroValue56
  t127 := Tryz.underlying101
  a127 := Tryz.isAgg101
  z127 := Tryz.sizeOf101
  v127 := Tryz.zeroValue101
  t164 := Tryz.underlying144
  a164 := Tryz.isAgg144
  z164 := Tryz.sizeOf144
  v164 := Tryz.zeroValue144 }
theorem Tryz.Builder_Extra_156 : Builder.Extra Tryz.prog Tryz.lays156_ren := {
  sizeBuilder := by kernel_rfl
  liesBuilder := by kernel_rfl
  t5 := Tryz.underlying5
  a5 := Tryz.isAgg5
  z5 := Tryz.sizeOf5
  v5 := Tryz.zeroValue5
  infoByte := by kernel_rfl
  cellsByte := by kernel_rfl
  sizeByte := by kernel_rfl
  neB5 := by decide }
open Go.RowKit in
theorem Tryz.strings_Join_none (a : Option Addr) (c : Nat) (sep : ByteArray) (w : World) :
    Calls Tryz.prog 22 #[.slice a 0 c, .string sep] w fun e w' => e = .returned (.string ⟨#[]⟩) ∧ w' = w := Any.strings_Join_none Tryz.lays156 Tryz.Builder_Extra_156 a c sep w
open Go.RowKit in
theorem Tryz.strings_Join (bk o c : Nat) (xs : List ByteArray) (sep : ByteArray) (w : World) (hcells : ∀ (j : Nat) x, xs[j]? = some x → w.cell? ⟨bk, o + j, none⟩ = some (.string x)) (hbk : bk < w.heap.size) (hN : xs.length ≤ 140737488355328) (hcap : xs.length ≤ c) (hlen : (Lib.join (xs.map (·.data.toList)) sep.data.toList).length ≤ 140737488355328) :
    Calls Tryz.prog 22 #[.slice (some ⟨bk, o, none⟩) xs.length c, .string sep] w fun e w' => e = .returned (.string ⟨(Lib.join (xs.map (·.data.toList)) sep.data.toList).toArray⟩) ∧ Below w.heap.size w w' := Any.strings_Join Tryz.lays156 Tryz.Builder_Extra_156 bk o c xs sep w hcells hbk hN hcap hlen
def Tryz.lays119_ren : Go.Shelf.Ren := ⟨fun | 119 => 117 | n => n, fun | 21 => 21 | 4 => 4 | n => n, fun | n => n⟩
theorem Tryz.lays119 : Go.Proofs.Lays.n119 Tryz.prog Tryz.lays119_ren := {
  mixed := by kernel_rfl
  f119 := Tryz.func117.trans (congrArg some (by kernel_rfl))
  t4 := Tryz.underlying4
  a4 := Tryz.isAgg4
  z4 := Tryz.sizeOf4
  v4 := Tryz.zeroValue4
  t21 := Tryz.underlying21
  a21 := Tryz.isAgg21
  z21 := Tryz.sizeOf21
  v21 := Tryz.zeroValue21 }
theorem Tryz.utf8_ValidRune (r : Int) (w : World) :
    Calls Tryz.prog 117 #[.int .i32 r] w fun e w' => e = .returned (.bool (Lib.validRune r)) ∧ w' = w := Any.utf8_ValidRune Tryz.lays119 r w
def Tryz.lays137_ren : Go.Shelf.Ren := ⟨fun | 137 => 116 | 217 => 145 | 266 => 155 | n => n, fun | 9 => 9 | 5 => 5 | 3 => 3 | n => n, fun | n => n⟩
theorem Tryz.lays137 : Go.Proofs.Lays.n137 Tryz.prog Tryz.lays137_ren := {
  mixed := by kernel_rfl
  f137 := Tryz.func116.trans (congrArg some (by kernel_rfl))
  f217 := Tryz.func145.trans (congrArg some (by kernel_rfl))
  f266 := Tryz.func155.trans (congrArg some (by kernel_rfl))
  t3 := Tryz.underlying3
  a3 := Tryz.isAgg3
  z3 := Tryz.sizeOf3
  v3 := Tryz.zeroValue3
  t5 := Tryz.underlying5
  a5 := Tryz.isAgg5
  z5 := Tryz.sizeOf5
  v5 := Tryz.zeroValue5
  t9 := Tryz.underlying9
  a9 := Tryz.isAgg9
  z9 := Tryz.sizeOf9
  v9 := Tryz.zeroValue9 }
open Go.RowKit in
theorem Tryz.strings_IndexByte (s : ByteArray) (c : Int) (w : World) :
    Calls Tryz.prog 116 #[.string s, .int .u8 c] w fun e w' => e = .returned (.int .i64 (Lib.indexByte s.data.toList c.toNat.toUInt8)) ∧ w' = w := Any.strings_IndexByte Tryz.lays137 s c w
def Tryz.laysM171_ren : Go.Shelf.Ren := ⟨fun | 171 => 18 | 243 => 35 | 246 => 60 | 283 => 94 | 284 => 95 | 285 => 96 | 286 => 97 | 129 => 138 | 317 => 137 | 318 => 139 | 319 => 140 | 320 => 141 | 337 => 153 | 338 => 154 | n => n, fun | 3 => 3 | 9 => 9 | 2 => 2 | 4 => 4 | 171 => 130 | 0 => 0 | 53 => 131 | 37 => 72 | 5 => 5 | 173 => 134 | 212 => 180 | 51 => 181 | 20 => 20 | 213 => 182 | 46 => 150 | 232 => 212 | 233 => 213 | n => n, fun | 17 => 3 | 18 => 7 | 19 => 8 | n => n⟩
theorem Tryz.laysM171 : Go.Proofs.LaysM.n171 Tryz.prog Tryz.laysM171_ren := {
  mixed := by kernel_rfl
  f129 := Tryz.func138.trans (congrArg some (by kernel_rfl))
  f171 := Tryz.func18.trans (congrArg some (by kernel_rfl))
  f243 := Tryz.func35.trans (congrArg some (by kernel_rfl))
  f246 := Tryz.func60.trans (congrArg some (by kernel_rfl))
  f283 := Tryz.func94.trans (congrArg some (by kernel_rfl))
  f284 := Tryz.func95.trans (congrArg some (by kernel_rfl))
  f285 := Tryz.func96.trans (congrArg some (by kernel_rfl))
  f286 := Tryz.func97.trans (congrArg some (by kernel_rfl))
  f317 := Tryz.func137.trans (congrArg some (by kernel_rfl))
  f318 := Tryz.func139.trans (congrArg some (by kernel_rfl))
  f319 := Tryz.func140.trans (congrArg some (by kernel_rfl))
  f320 := Tryz.func141.trans (congrArg some (by kernel_rfl))
  f337 := Tryz.func153.trans (congrArg some (by kernel_rfl))
  f338 := Tryz.func154.trans (congrArg some (by kernel_rfl))
  t0 := Tryz.underlying0
  a0 := Tryz.isAgg0
  z0 := Tryz.sizeOf0
  v0 := Tryz.zeroValue0
  t2 := Tryz.underlying2
  a2 := Tryz.isAgg2
  z2 := Tryz.sizeOf2
  v2 := Tryz.zeroValue2
  t3 := Tryz.underlying3
  a3 := Tryz.isAgg3
  z3 := Tryz.sizeOf3
  v3 := Tryz.zeroValue3
  t4 := Tryz.underlying4
  a4 := Tryz.isAgg4
  z4 := Tryz.sizeOf4
  v4 := Tryz.zeroValue4
  t5 := Tryz.underlying5
  a5 := Tryz.isAgg5
  z5 := Tryz.sizeOf5
  v5 := Tryz.zeroValue5
  t9 := Tryz.underlying9
  a9 := Tryz.isAgg9
  z9 := Tryz.sizeOf9
  v9 := Tryz.zeroValue9
  t20 := Tryz.underlying20
  a20 := Tryz.isAgg20
  z20 := Tryz.sizeOf20
  v20 := Tryz.zeroValue20
  t37 := Tryz.underlying72
  a37 := Tryz.isAgg72
  z37 := Tryz.sizeOf72
  v37 := Tryz.zeroValue72
  t46 := Tryz.underlying150
  a46 := Tryz.isAgg150
  z46 := Tryz.sizeOf150
  v46 := Tryz.zeroValue150
  t51 := Tryz.underlying181
  a51 := Tryz.isAgg181
  z51 := Tryz.sizeOf181
  v51 := Tryz.zeroValue181
  t53 := Tryz.underlying131
  a53 := Tryz.isAgg131
  z53 := Tryz.sizeOf131
  v53 := Tryz.zeroValue131
  t171 := Tryz.underlying130
  a171 := Tryz.isAgg130
  z171 := Tryz.sizeOf130
  v171 := Tryz.zeroValue130
  t173 := Tryz.underlying134
  a173 := Tryz.isAgg134
  z173 := Tryz.sizeOf134
  v173 := Tryz.zeroValue134
  t212 := Tryz.underlying180
  a212 := Tryz.isAgg180
  z212 := Tryz.sizeOf180
  v212 := Tryz.zeroValue180
  t213 := Tryz.underlying182
  a213 := Tryz.isAgg182
  z213 := Tryz.sizeOf182
  t232 := Tryz.underlying212
  a232 := Tryz.isAgg212
  z232 := Tryz.sizeOf212
  v232 := Tryz.zeroValue212
  t233 := Tryz.underlying213
  a233 := Tryz.isAgg213
  z233 := Tryz.sizeOf213
  v233 := Tryz.zeroValue213
  g17 := by kernel_rfl
  g18 := by kernel_rfl
  g19 := by kernel_rfl
  i0 := by kernel_rfl
  i2 := by kernel_rfl
  i3 := by kernel_rfl
  i4 := by kernel_rfl
  i5 := by kernel_rfl
  i9 := by kernel_rfl
  i20 := by kernel_rfl
  i37 := by kernel_rfl
  i46 := by kernel_rfl
  i51 := by kernel_rfl
  i53 := by kernel_rfl
  i171 := by kernel_rfl
  i173 := by kernel_rfl
  i212 := by kernel_rfl
  i232 := by kernel_rfl
  i233 := by kernel_rfl
  m17 := by kernel_rfl
  m18 := by kernel_rfl
  m19 := by kernel_rfl }
open Go.RowKit Go.Sort Go.Lib in
theorem Tryz.strconv_Itoa (n : Int) (h0 : -9223372036854775808 ≤ n) (h1 : n ≤ 9223372036854775807) (w : World) (htab : Lib.TabIs Tryz.prog w "internal/strconv.uint64pow10" .u64 Lib.pow10Tab) :
    Calls Tryz.prog 18 #[.int .i64 n] w fun e w' => e = .returned (.string ⟨(Lib.itoa n).toArray⟩) ∧ ∃ k os, w' = grow (w.drewN k) os := Any.strconv_Itoa Tryz.laysM171 n h0 h1 w htab
def Tryz.laysC172_ren : Go.Shelf.Ren := ⟨fun | 172 => 27 | 244 => 49 | 245 => 50 | 247 => 78 | 279 => 79 | 280 => 80 | 281 => 81 | 282 => 82 | 287 => 120 | 316 => 121 | 171 => 18 | 205 => 122 | 321 => 146 | 322 => 147 | 243 => 35 | 246 => 60 | 283 => 94 | 284 => 95 | 285 => 96 | 286 => 97 | 129 => 138 | 317 => 137 | 318 => 139 | 319 => 140 | 320 => 141 | 337 => 153 | 338 => 154 | n => n, fun | 9 => 9 | 3 => 3 | 75 => 55 | 76 => 56 | 4 => 4 | 5 => 5 | 167 => 110 | 37 => 72 | 0 => 0 | 85 => 111 | 2 => 2 | 168 => 113 | 53 => 131 | 175 => 152 | 46 => 150 | 210 => 156 | 127 => 101 | 145 => 187 | 143 => 185 | 21 => 21 | 171 => 130 | 173 => 134 | 212 => 180 | 51 => 181 | 20 => 20 | 213 => 182 | 232 => 212 | 233 => 213 | 80 => 79 | n => n, fun | 15 => 0 | 16 => 1 | 17 => 3 | 18 => 7 | 19 => 8 | n => n⟩
theorem Tryz.laysC172 : Go.Proofs.LaysC.n172 Tryz.prog Tryz.laysC172_ren := {
  mixed := by kernel_rfl
  f129 := Tryz.func138.trans (congrArg some (by kernel_rfl))
  f171 := Tryz.func18.trans (congrArg some (by kernel_rfl))
  f172 := Tryz.func27.trans (congrArg some (by kernel_rfl))
  f205 := Tryz.func122.trans (congrArg some (by kernel_rfl))
  f243 := Tryz.func35.trans (congrArg some (by kernel_rfl))
  f244 := Tryz.func49.trans (congrArg some (by kernel_rfl))
  f245 := Tryz.func50.trans (congrArg some (by kernel_rfl))
  f246 := Tryz.func60.trans (congrArg some (by kernel_rfl))
  f247 := Tryz.func78.trans (congrArg some (by kernel_rfl))
  f279 := Tryz.func79.trans (congrArg some (by kernel_rfl))
  f280 := Tryz.func80.trans (congrArg some (by kernel_rfl))
  f281 := Tryz.func81.trans (congrArg some (by kernel_rfl))
  f282 := Tryz.func82.trans (congrArg some (by kernel_rfl))
  f283 := Tryz.func94.trans (congrArg some (by kernel_rfl))
  f284 := Tryz.func95.trans (congrArg some (by kernel_rfl))
  f285 := Tryz.func96.trans (congrArg some (by kernel_rfl))
  f286 := Tryz.func97.trans (congrArg some (by kernel_rfl))
  f287 := Tryz.func120.trans (congrArg some (by kernel_rfl))
  f316 := Tryz.func121.trans (congrArg some (by kernel_rfl))
  f317 := Tryz.func137.trans (congrArg some (by kernel_rfl))
  f318 := Tryz.func139.trans (congrArg some (by kernel_rfl))
  f319 := Tryz.func140.trans (congrArg some (by kernel_rfl))
  f320 := Tryz.func141.trans (congrArg some (by kernel_rfl))
  f321 := Tryz.func146.trans (congrArg some (by kernel_rfl))
  f322 := Tryz.func147.trans (congrArg some (by kernel_rfl))
  f337 := Tryz.func153.trans (congrArg some (by kernel_rfl))
  f338 := Tryz.func154.trans (congrArg some (by kernel_rfl))
  t0 := Tryz.underlying0
  a0 := Tryz.isAgg0
  z0 := Tryz.sizeOf0
  v0 := Tryz.zeroValue0
  t2 := Tryz.underlying2
  a2 := Tryz.isAgg2
  z2 := Tryz.sizeOf2
  v2 := Tryz.zeroValue2
  t3 := Tryz.underlying3
  a3 := Tryz.isAgg3
  z3 := Tryz.sizeOf3
  v3 := Tryz.zeroValue3
  t4 := Tryz.underlying4
  a4 := Tryz.isAgg4
  z4 := Tryz.sizeOf4
  v4 := Tryz.zeroValue4
  t5 := Tryz.underlying5
  a5 := Tryz.isAgg5
  z5 := Tryz.sizeOf5
  v5 := Tryz.zeroValue5
  t9 := Tryz.underlying9
  a9 := Tryz.isAgg9
  z9 := Tryz.sizeOf9
  v9 := Tryz.zeroValue9
  t20 := Tryz.underlying20
  a20 := Tryz.isAgg20
  z20 := Tryz.sizeOf20
  v20 := Tryz.zeroValue20
  t21 := Tryz.underlying21
  a21 := Tryz.isAgg21
  z21 := Tryz.sizeOf21
  v21 := Tryz.zeroValue21
  t37 := Tryz.underlying72
  a37 := Tryz.isAgg72
  z37 := Tryz.sizeOf72
  v37 := Tryz.zeroValue72
  t46 := Tryz.underlying150
  a46 := Tryz.isAgg150
  z46 := Tryz.sizeOf150
  v46 := Tryz.zeroValue150
  t51 := Tryz.underlying181
  a51 := Tryz.isAgg181
  z51 := Tryz.sizeOf181
  v51 := Tryz.zeroValue181
  t53 := Tryz.underlying131
  a53 := Tryz.isAgg131
  z53 := Tryz.sizeOf131
  v53 := Tryz.zeroValue131
  t75 := Tryz.underlying55
  a75 := Tryz.isAgg55
  z75 := Tryz.sizeOf55
  v75 := Tryz.zeroValue55
  t76 := Tryz.underlying56
  a76 := Tryz.isAgg56
  z76 := Tryz.sizeOf56
  v76 := Tryz.zeroValue56
  t85 := Tryz.underlying111
  a85 := Tryz.isAgg111
  z85 := Tryz.sizeOf111
  v85 := Tryz.zeroValue111
  t127 := Tryz.underlying101
  a127 := Tryz.isAgg101
  z127 := Tryz.sizeOf101
  v127 := Tryz.zeroValue101
  t143 := Tryz.underlying185
  a143 := Tryz.isAgg185
  z143 := Tryz.sizeOf185
  v143 := Tryz.zeroValue185
  t145 := Tryz.underlying187
  a145 := Tryz.isAgg187
  z145 := Tryz.sizeOf187
  v145 := Tryz.zeroValue187
  t167 := Tryz.underlying110
  a167 := Tryz.isAgg110
  z167 := Tryz.sizeOf110
  v167 := Tryz.zeroValue110
  t168 := Tryz.underlying113
  a168 := Tryz.isAgg113
  z168 := Tryz.sizeOf113
  v168 := Tryz.zeroValue113
  t171 := Tryz.underlying130
  a171 := Tryz.isAgg130
  z171 := Tryz.sizeOf130
  v171 := Tryz.zeroValue130
  t173 := Tryz.underlying134
  a173 := Tryz.isAgg134
  z173 := Tryz.sizeOf134
  v173 := Tryz.zeroValue134
  t175 := Tryz.underlying152
  a175 := Tryz.isAgg152
  z175 := Tryz.sizeOf152
  v175 := Tryz.zeroValue152
  t210 := Tryz.underlying156
  a210 := Tryz.isAgg156
  z210 := Tryz.sizeOf156
  v210 := Tryz.zeroValue156
  t212 := Tryz.underlying180
  a212 := Tryz.isAgg180
  z212 := Tryz.sizeOf180
  v212 := Tryz.zeroValue180
  t213 := Tryz.underlying182
  a213 := Tryz.isAgg182
  z213 := Tryz.sizeOf182
  t232 := Tryz.underlying212
  a232 := Tryz.isAgg212
  z232 := Tryz.sizeOf212
  v232 := Tryz.zeroValue212
  t233 := Tryz.underlying213
  a233 := Tryz.isAgg213
  z233 := Tryz.sizeOf213
  v233 := Tryz.zeroValue213
  g15 := by kernel_rfl
  g16 := by kernel_rfl
  g17 := by kernel_rfl
  g18 := by kernel_rfl
  g19 := by kernel_rfl
  t80 := Tryz.underlying79
  a80 := Tryz.isAgg79
  z80 := Tryz.sizeOf79
  v80 := Tryz.zeroValue79
  i0 := by kernel_rfl
  i2 := by kernel_rfl
  i3 := by kernel_rfl
  i4 := by kernel_rfl
  i5 := by kernel_rfl
  i9 := by kernel_rfl
  i20 := by kernel_rfl
  i21 := by kernel_rfl
  i37 := by kernel_rfl
  i46 := by kernel_rfl
  i51 := by kernel_rfl
  i53 := by kernel_rfl
  i75 := by kernel_rfl
  i76 := by kernel_rfl
  i80 := by kernel_rfl
  i85 := by kernel_rfl
  i127 := by kernel_rfl
  i143 := by kernel_rfl
  i145 := by kernel_rfl
  i167 := by kernel_rfl
  i168 := by kernel_rfl
  i171 := by kernel_rfl
  i173 := by kernel_rfl
  i175 := by kernel_rfl
  i210 := by kernel_rfl
  i212 := by kernel_rfl
  i232 := by kernel_rfl
  i233 := by kernel_rfl
  m15 := by kernel_rfl
  m16 := by kernel_rfl
  m17 := by kernel_rfl
  m18 := by kernel_rfl
  m19 := by kernel_rfl
  c0 := by kernel_rfl
  c2 := by kernel_rfl
  c3 := by kernel_rfl
  c4 := by kernel_rfl
  c5 := by kernel_rfl
  c9 := by kernel_rfl
  c20 := by kernel_rfl
  c21 := by kernel_rfl
  c37 := by kernel_rfl
  c46 := by kernel_rfl
  c51 := by kernel_rfl
  c53 := by kernel_rfl
  c75 := by kernel_rfl
  c76 := by kernel_rfl
  c80 := by kernel_rfl
  c85 := by kernel_rfl
  c127 := by kernel_rfl
  c143 := by kernel_rfl
  c145 := by kernel_rfl
  c167 := by kernel_rfl
  c168 := by kernel_rfl
  c171 := by kernel_rfl
  c173 := by kernel_rfl
  c175 := by kernel_rfl
  c210 := by kernel_rfl
  c212 := by kernel_rfl
  c213 := by kernel_rfl
  c232 := by kernel_rfl
  c233 := by kernel_rfl }
open Go.RowKit in
theorem Tryz.strconv_Atoi_ok (s : ByteArray) (hmax : s.size ≤ 9223372036854775806) (v : Int) (h : Lib.atoiAll s.data.toList = .ok v) (w : World) :
    Calls Tryz.prog 27 #[.string s] w fun e w' => e = .returned (.tuple #[.int .i64 v, .nilIface]) ∧ (w' = w ∨ ∃ t, w' = Lib.bytesWorld w 5 t) := Any.strconv_Atoi_ok Tryz.laysC172 s hmax v h w
open Go.RowKit in
theorem Tryz.strconv_Atoi_syntax_var (s : ByteArray) (hlim : s.size ≤ 281474976710656) (h : Lib.atoiAll s.data.toList =  Lib.atoiAll []) (tp : TypeId) (p : Value) (w : World) (hvar : w.var? Tryz.prog "strconv.ErrSyntax" = some #[.iface tp p]) :
    Calls Tryz.prog 27 #[.string s] w fun e w' => ∃ N, e = .returned (.tuple #[.int .i64 0, .iface 113 (.pointer (some ⟨N, 0, none⟩))]) ∧ w.heap.size ≤ N ∧ w'.heap[N]? = some (.cells #[.string ⟨#[65, 116, 111, 105]⟩, .string s, .iface tp p] 156 (0, 0)) ∧ Below w.heap.size w w' := Any.strconv_Atoi_syntax_var Tryz.laysC172 s hlim h tp p w hvar
open Go.RowKit in
theorem Tryz.strconv_Atoi_range_var (s : ByteArray) (hlim : s.size ≤ 281474976710656) (h : Lib.atoiAll s.data.toList = .range) (tp : TypeId) (p : Value) (w : World) (hvar : w.var? Tryz.prog "strconv.ErrRange" = some #[.iface tp p]) :
    Calls Tryz.prog 27 #[.string s] w fun e w' => ∃ N, e = .returned (.tuple #[.int .i64 (Lib.atoiSat s.data.toList), .iface 113 (.pointer (some ⟨N, 0, none⟩))]) ∧ w.heap.size ≤ N ∧ w'.heap[N]? = some (.cells #[.string ⟨#[65, 116, 111, 105]⟩, .string s, .iface tp p] 156 (0, 0)) ∧ Below w.heap.size w w' := Any.strconv_Atoi_range_var Tryz.laysC172 s hlim h tp p w hvar
def Tryz.lays143_ren : Go.Shelf.Ren := ⟨fun | 143 => 91 | 219 => 135 | 217 => 145 | 225 => 119 | 224 => 118 | 267 => 152 | 266 => 155 | 314 => 158 | n => n, fun | 9 => 9 | 3 => 3 | 4 => 4 | 5 => 5 | 46 => 150 | 146 => 210 | 51 => 181 | n => n, fun | 1 => 4 | n => n⟩
theorem Tryz.lays143 : Go.Proofs.Lays.n143 Tryz.prog Tryz.lays143_ren := {
  mixed := by kernel_rfl
  f143 := Tryz.func91.trans (congrArg some (by kernel_rfl))
  f217 := Tryz.func145.trans (congrArg some (by kernel_rfl))
  f219 := Tryz.func135.trans (congrArg some (by kernel_rfl))
  f224 := Tryz.func118.trans (congrArg some (by kernel_rfl))
  f225 := Tryz.func119.trans (congrArg some (by kernel_rfl))
  f266 := Tryz.func155.trans (congrArg some (by kernel_rfl))
  f267 := Tryz.func152.trans (congrArg some (by kernel_rfl))
  f314 := Tryz.func158.trans (congrArg some (by kernel_rfl))
  t3 := Tryz.underlying3
  a3 := Tryz.isAgg3
  z3 := Tryz.sizeOf3
  v3 := Tryz.zeroValue3
  t4 := Tryz.underlying4
  a4 := Tryz.isAgg4
  z4 := Tryz.sizeOf4
  v4 := Tryz.zeroValue4
  t5 := Tryz.underlying5
  a5 := Tryz.isAgg5
  z5 := Tryz.sizeOf5
  v5 := Tryz.zeroValue5
  t9 := Tryz.underlying9
  a9 := Tryz.isAgg9
  z9 := Tryz.sizeOf9
  v9 := Tryz.zeroValue9
  t46 := Tryz.underlying150
  a46 := Tryz.isAgg150
  z46 := Tryz.sizeOf150
  v46 := Tryz.zeroValue150
  t51 := Tryz.underlying181
  a51 := Tryz.isAgg181
  z51 := Tryz.sizeOf181
  v51 := Tryz.zeroValue181
  t146 := Tryz.underlying210
  a146 := Tryz.isAgg210
  z146 := Tryz.sizeOf210
  v146 := Tryz.zeroValue210
  g1 := by kernel_rfl }
open Go.RowKit Go.Lib in
theorem Tryz.strings_Index (s sub : ByteArray) (m : Int) (w : World) (hs : s.size < 4294967281) (hm : w.cell? ⟨4, 0, none⟩ = some (.int .i64 m)) :
    Calls Tryz.prog 91 #[.string s, .string sub] w fun e w' => e = .returned (.int .i64 (Lib.index s.data.toList sub.data.toList)) ∧ w' = w := Any.strings_Index Tryz.lays143 s sub m w hs hm
def Tryz.lays144_ren : Go.Shelf.Ren := ⟨fun | 144 => 128 | 143 => 91 | 219 => 135 | 217 => 145 | 225 => 119 | 224 => 118 | 267 => 152 | 266 => 155 | 314 => 158 | n => n, fun | 9 => 9 | 4 => 4 | 3 => 3 | 5 => 5 | 46 => 150 | 146 => 210 | 51 => 181 | n => n, fun | 1 => 4 | n => n⟩
theorem Tryz.lays144 : Go.Proofs.Lays.n144 Tryz.prog Tryz.lays144_ren := {
  mixed := by kernel_rfl
  f143 := Tryz.func91.trans (congrArg some (by kernel_rfl))
  f144 := Tryz.func128.trans (congrArg some (by kernel_rfl))
  f217 := Tryz.func145.trans (congrArg some (by kernel_rfl))
  f219 := Tryz.func135.trans (congrArg some (by kernel_rfl))
  f224 := Tryz.func118.trans (congrArg some (by kernel_rfl))
  f225 := Tryz.func119.trans (congrArg some (by kernel_rfl))
  f266 := Tryz.func155.trans (congrArg some (by kernel_rfl))
  f267 := Tryz.func152.trans (congrArg some (by kernel_rfl))
  f314 := Tryz.func158.trans (congrArg some (by kernel_rfl))
  t3 := Tryz.underlying3
  a3 := Tryz.isAgg3
  z3 := Tryz.sizeOf3
  v3 := Tryz.zeroValue3
  t4 := Tryz.underlying4
  a4 := Tryz.isAgg4
  z4 := Tryz.sizeOf4
  v4 := Tryz.zeroValue4
  t5 := Tryz.underlying5
  a5 := Tryz.isAgg5
  z5 := Tryz.sizeOf5
  v5 := Tryz.zeroValue5
  t9 := Tryz.underlying9
  a9 := Tryz.isAgg9
  z9 := Tryz.sizeOf9
  v9 := Tryz.zeroValue9
  t46 := Tryz.underlying150
  a46 := Tryz.isAgg150
  z46 := Tryz.sizeOf150
  v46 := Tryz.zeroValue150
  t51 := Tryz.underlying181
  a51 := Tryz.isAgg181
  z51 := Tryz.sizeOf181
  v51 := Tryz.zeroValue181
  t146 := Tryz.underlying210
  a146 := Tryz.isAgg210
  z146 := Tryz.sizeOf210
  v146 := Tryz.zeroValue210
  g1 := by kernel_rfl }
open Go.RowKit Go.Lib in
theorem Tryz.strings_Contains (s sub : ByteArray) (m : Int) (w : World) (hs : s.size < 4294967281) (hm : w.cell? ⟨4, 0, none⟩ = some (.int .i64 m)) :
    Calls Tryz.prog 128 #[.string s, .string sub] w fun e w' => e = .returned (.bool (Lib.contains s.data.toList sub.data.toList)) ∧ w' = w := Any.strings_Contains Tryz.lays144 s sub m w hs hm
def Tryz.laysGw15_ren : Go.Shelf.Ren := ⟨fun | 15 => 98 | 20 => 142 | n => n, fun | 9 => 9 | 23 => 137 | 3 => 3 | 4 => 4 | 0 => 0 | 21 => 21 | n => n, fun | n => n⟩
theorem Tryz.laysGw15 : Go.Proofs.LaysGw.n15 Tryz.prog Tryz.laysGw15_ren := {
  mixed := by kernel_rfl
  f15 := Tryz.func98.trans (congrArg some (by kernel_rfl))
  f20 := Tryz.func142.trans (congrArg some (by kernel_rfl))
  t0 := Tryz.underlying0
  a0 := Tryz.isAgg0
  z0 := Tryz.sizeOf0
  v0 := Tryz.zeroValue0
  i0 := by kernel_rfl
  t3 := Tryz.underlying3
  a3 := Tryz.isAgg3
  z3 := Tryz.sizeOf3
  v3 := Tryz.zeroValue3
  i3 := by kernel_rfl
  t4 := Tryz.underlying4
  a4 := Tryz.isAgg4
  z4 := Tryz.sizeOf4
  v4 := Tryz.zeroValue4
  i4 := by kernel_rfl
  t9 := Tryz.underlying9
  a9 := Tryz.isAgg9
  z9 := Tryz.sizeOf9
  v9 := Tryz.zeroValue9
  i9 := by kernel_rfl
  t21 := Tryz.underlying21
  a21 := Tryz.isAgg21
  z21 := Tryz.sizeOf21
  v21 := Tryz.zeroValue21
  i21 := by kernel_rfl
  t23 := Tryz.underlying137
  a23 := Tryz.isAgg137
  z23 := Tryz.sizeOf137
  v23 := Tryz.zeroValue137
  i23 := by kernel_rfl }
def Tryz.lays146_ren : Go.Shelf.Ren := ⟨fun | 146 => 32 | 221 => 56 | 268 => 89 | 138 => 90 | 143 => 91 | 195 => 133 | 197 => 92 | 218 => 134 | 219 => 135 | 260 => 136 | 217 => 145 | 225 => 119 | 224 => 118 | 267 => 152 | 266 => 155 | 314 => 158 | n => n, fun | 9 => 9 | 31 => 38 | 3 => 3 | 4 => 4 | 0 => 0 | 105 => 128 | 21 => 21 | 5 => 5 | 46 => 150 | 119 => 204 | 139 => 207 | 138 => 206 | 146 => 210 | 51 => 181 | n => n, fun | 1 => 4 | 3 => 5 | 4 => 6 | n => n⟩
theorem Tryz.lays146 : Go.Proofs.Lays.n146 Tryz.prog Tryz.lays146_ren := {
  mixed := by kernel_rfl
  f138 := Tryz.func90.trans (congrArg some (by kernel_rfl))
  f143 := Tryz.func91.trans (congrArg some (by kernel_rfl))
  f146 := Tryz.func32.trans (congrArg some (by kernel_rfl))
  f195 := Tryz.func133.trans (congrArg some (by kernel_rfl))
  f197 := Tryz.func92.trans (congrArg some (by kernel_rfl))
  f217 := Tryz.func145.trans (congrArg some (by kernel_rfl))
  f218 := Tryz.func134.trans (congrArg some (by kernel_rfl))
  f219 := Tryz.func135.trans (congrArg some (by kernel_rfl))
  f221 := Tryz.func56.trans (congrArg some (by kernel_rfl))
  f224 := Tryz.func118.trans (congrArg some (by kernel_rfl))
  f225 := Tryz.func119.trans (congrArg some (by kernel_rfl))
  f260 := Tryz.func136.trans (congrArg some (by kernel_rfl))
  f266 := Tryz.func155.trans (congrArg some (by kernel_rfl))
  f267 := Tryz.func152.trans (congrArg some (by kernel_rfl))
  f268 := Tryz.func89.trans (congrArg some (by kernel_rfl))
  f314 := Tryz.func158.trans (congrArg some (by kernel_rfl))
  t0 := Tryz.underlying0
  a0 := Tryz.isAgg0
  z0 := Tryz.sizeOf0
  v0 := Tryz.zeroValue0
  t3 := Tryz.underlying3
  a3 := Tryz.isAgg3
  z3 := Tryz.sizeOf3
  v3 := Tryz.zeroValue3
  t4 := Tryz.underlying4
  a4 := Tryz.isAgg4
  z4 := Tryz.sizeOf4
  v4 := Tryz.zeroValue4
  t5 := Tryz.underlying5
  a5 := Tryz.isAgg5
  z5 := Tryz.sizeOf5
  v5 := Tryz.zeroValue5
  t9 := Tryz.underlying9
  a9 := Tryz.isAgg9
  z9 := Tryz.sizeOf9
  v9 := Tryz.zeroValue9
  t21 := Tryz.underlying21
  a21 := Tryz.isAgg21
  z21 := Tryz.sizeOf21
  v21 := Tryz.zeroValue21
  t31 := Tryz.underlying38
  a31 := Tryz.isAgg38
  z31 := Tryz.sizeOf38
  v31 := Tryz.zeroValue38
  t46 := Tryz.underlying150
  a46 := Tryz.isAgg150
  z46 := Tryz.sizeOf150
  v46 := Tryz.zeroValue150
  t51 := Tryz.underlying181
  a51 := Tryz.isAgg181
  z51 := Tryz.sizeOf181
  v51 := Tryz.zeroValue181
  t105 := Tryz.underlying128
  a105 := Tryz.isAgg128
  z105 := Tryz.sizeOf128
  v105 := Tryz.zeroValue128
  t119 := Tryz.underlying204
  a119 := Tryz.isAgg204
  z119 := Tryz.sizeOf204
  t138 := Tryz.underlying206
  a138 := Tryz.isAgg206
  z138 := Tryz.sizeOf206
  v138 := Tryz.zeroValue206
  t139 := Tryz.underlying207
  a139 := Tryz.isAgg207
  z139 := Tryz.sizeOf207
  v139 := Tryz.zeroValue207
  t146 := Tryz.underlying210
  a146 := Tryz.isAgg210
  z146 := Tryz.sizeOf210
  v146 := Tryz.zeroValue210
  g1 := by kernel_rfl
  g3 := by kernel_rfl
  g4 := by kernel_rfl }
open Go.RowKit Go.Lib in
theorem Tryz.strings_Split (s sep : ByteArray) (m : Int) (w : World) (hs : s.size < 4294967281) (hm : w.cell? ⟨4, 0, none⟩ = some (.int .i64 m)) (h1 : 1 ≤ sep.size) :
    Calls Tryz.prog 32 #[.string s, .string sep] w fun e w' =>
      e = .returned (.slice (some ⟨w.heap.size, 0, none⟩) (Lib.countB s sep + 1) (Lib.countB s sep + 1)) ∧ w' = w.alloc (.cells ((Lib.splitB sep 0 (Lib.countB s sep) s).map Value.string).toArray 9) := Any.strings_Split Tryz.lays146 (by kernel_rfl) s sep m w hs hm h1
def Tryz.lays155_ren : Go.Shelf.Ren := ⟨fun | 155 => 33 | 154 => 57 | 138 => 90 | 165 => 44 | 143 => 91 | 166 => 40 | 197 => 92 | 169 => 42 | 195 => 133 | 218 => 134 | 240 => 66 | 241 => 67 | 219 => 135 | 260 => 136 | 276 => 107 | 277 => 108 | 217 => 145 | 225 => 119 | 224 => 118 | 267 => 152 | 266 => 155 | 314 => 158 | n => n, fun | 9 => 9 | 3 => 3 | 4 => 4 | 72 => 75 | 0 => 0 | 76 => 56 | 105 => 128 | 21 => 21 | 5 => 5 | 70 => 73 | 20 => 20 | 37 => 72 | 75 => 55 | 127 => 101 | 164 => 144 | 46 => 150 | 119 => 204 | 139 => 207 | 138 => 206 | 146 => 210 | 51 => 181 | 80 => 79 | n => n, fun | 1 => 4 | 3 => 5 | 4 => 6 | n => n⟩
theorem Tryz.lays155 : Go.Proofs.Lays.n155 Tryz.prog Tryz.lays155_ren := {
  mixed := by kernel_rfl
  f138 := Tryz.func90.trans (congrArg some (by kernel_rfl))
  f143 := Tryz.func91.trans (congrArg some (by kernel_rfl))
  f154 := Tryz.func57.trans (congrArg some (by kernel_rfl))
  f155 := Tryz.func33.trans (congrArg some (by kernel_rfl))
  f165 := Tryz.func44.trans (congrArg some (by kernel_rfl))
  f166 := Tryz.func40.trans (congrArg some (by kernel_rfl))
  f169 := Tryz.func42.trans (congrArg some (by kernel_rfl))
  f195 := Tryz.func133.trans (congrArg some (by kernel_rfl))
  f197 := Tryz.func92.trans (congrArg some (by kernel_rfl))
  f217 := Tryz.func145.trans (congrArg some (by kernel_rfl))
  f218 := Tryz.func134.trans (congrArg some (by kernel_rfl))
  f219 := Tryz.func135.trans (congrArg some (by kernel_rfl))
  f224 := Tryz.func118.trans (congrArg some (by kernel_rfl))
  f225 := Tryz.func119.trans (congrArg some (by kernel_rfl))
  f240 := Tryz.func66.trans (congrArg some (by kernel_rfl))
  f241 := Tryz.func67.trans (congrArg some (by kernel_rfl))
  f260 := Tryz.func136.trans (congrArg some (by kernel_rfl))
  f266 := Tryz.func155.trans (congrArg some (by kernel_rfl))
  f267 := Tryz.func152.trans (congrArg some (by kernel_rfl))
  f276 := Tryz.func107.trans (congrArg some (by kernel_rfl))
  f277 := Tryz.func108.trans (congrArg some (by kernel_rfl))
  f314 := Tryz.func158.trans (congrArg some (by kernel_rfl))
  t0 := Tryz.underlying0
  a0 := Tryz.isAgg0
  z0 := Tryz.sizeOf0
  v0 := Tryz.zeroValue0
  t3 := Tryz.underlying3
  a3 := Tryz.isAgg3
  z3 := Tryz.sizeOf3
  v3 := Tryz.zeroValue3
  t4 := Tryz.underlying4
  a4 := Tryz.isAgg4
  z4 := Tryz.sizeOf4
  v4 := Tryz.zeroValue4
  t5 := Tryz.underlying5
  a5 := Tryz.isAgg5
  z5 := Tryz.sizeOf5
  v5 := Tryz.zeroValue5
  t9 := Tryz.underlying9
  a9 := Tryz.isAgg9
  z9 := Tryz.sizeOf9
  v9 := Tryz.zeroValue9
  t20 := Tryz.underlying20
  a20 := Tryz.isAgg20
  z20 := Tryz.sizeOf20
  v20 := Tryz.zeroValue20
  t21 := Tryz.underlying21
  a21 := Tryz.isAgg21
  z21 := Tryz.sizeOf21
  v21 := Tryz.zeroValue21
  t37 := Tryz.underlying72
  a37 := Tryz.isAgg72
  z37 := Tryz.sizeOf72
  v37 := Tryz.zeroValue72
  t46 := Tryz.underlying150
  a46 := Tryz.isAgg150
  z46 := Tryz.sizeOf150
  v46 := Tryz.zeroValue150
  t51 := Tryz.underlying181
  a51 := Tryz.isAgg181
  z51 := Tryz.sizeOf181
  v51 := Tryz.zeroValue181
  t70 := Tryz.underlying73
  a70 := Tryz.isAgg73
  z70 := Tryz.sizeOf73
  v70 := Tryz.zeroValue73
  t72 := Tryz.underlying75
  a72 := Tryz.isAgg75
  z72 := Tryz.sizeOf75
  v72 := Tryz.zeroValue75
  t75 := Tryz.underlying55
  a75 := Tryz.isAgg55
  z75 := Tryz.sizeOf55
  v75 := Tryz.zeroValue55
  t76 := Tryz.underlying56
  a76 := Tryz.isAgg56
  z76 := Tryz.sizeOf56
  v76 := Tryz.zeroValue56
  t105 := Tryz.underlying128
  a105 := Tryz.isAgg128
  z105 := Tryz.sizeOf128
  v105 := Tryz.zeroValue128
  t119 := Tryz.underlying204
  a119 := Tryz.isAgg204
  z119 := Tryz.sizeOf204
  t127 := Tryz.underlying101
  a127 := Tryz.isAgg101
  z127 := Tryz.sizeOf101
  v127 := Tryz.zeroValue101
  t138 := Tryz.underlying206
  a138 := Tryz.isAgg206
  z138 := Tryz.sizeOf206
  v138 := Tryz.zeroValue206
  t139 := Tryz.underlying207
  a139 := Tryz.isAgg207
  z139 := Tryz.sizeOf207
  v139 := Tryz.zeroValue207
  t146 := Tryz.underlying210
  a146 := Tryz.isAgg210
  z146 := Tryz.sizeOf210
  v146 := Tryz.zeroValue210
  t164 := Tryz.underlying144
  a164 := Tryz.isAgg144
  z164 := Tryz.sizeOf144
  v164 := Tryz.zeroValue144
  g1 := by kernel_rfl
  g3 := by kernel_rfl
  g4 := by kernel_rfl }
theorem Tryz.Builder_Extra_155 : Builder.Extra Tryz.prog Tryz.lays155_ren := {
  sizeBuilder := by kernel_rfl
  liesBuilder := by kernel_rfl
  t5 := Tryz.underlying5
  a5 := Tryz.isAgg5
  z5 := Tryz.sizeOf5
  v5 := Tryz.zeroValue5
  infoByte := by kernel_rfl
  cellsByte := by kernel_rfl
  sizeByte := by kernel_rfl
  neB5 := by decide }
open Go.RowKit Go.Lib in
theorem Tryz.strings_ReplaceAll (s old new : ByteArray) (m : Int) (w : World) (hs : s.size < 4294967281) (hm : w.cell? ⟨4, 0, none⟩ = some (.int .i64 m)) (h1 : 1 ≤ old.size) (hlen : s.size + Lib.countB s old * new.size ≤ 140737488355328) :
    Calls Tryz.prog 33 #[.string s, .string old, .string new] w fun e w' =>
      e = .returned (.string ⟨(Lib.replaceAll s.data.toList old.data.toList new.data.toList).toArray⟩) ∧ Below w.heap.size w w' := Any.strings_ReplaceAll Tryz.lays155 Tryz.Builder_Extra_155 s old new m w hs hm h1 hlen
def Tryz.lays152_ren : Go.Shelf.Ren := ⟨fun | 152 => 74 | 137 => 116 | 119 => 117 | 224 => 118 | 225 => 119 | 217 => 145 | 266 => 155 | n => n, fun | 9 => 9 | 21 => 21 | 3 => 3 | 4 => 4 | 5 => 5 | 0 => 0 | 46 => 150 | n => n, fun | n => n⟩
theorem Tryz.lays152 : Go.Proofs.Lays.n152 Tryz.prog Tryz.lays152_ren := {
  mixed := by kernel_rfl
  f119 := Tryz.func117.trans (congrArg some (by kernel_rfl))
  f137 := Tryz.func116.trans (congrArg some (by kernel_rfl))
  f152 := Tryz.func74.trans (congrArg some (by kernel_rfl))
  f217 := Tryz.func145.trans (congrArg some (by kernel_rfl))
  f224 := Tryz.func118.trans (congrArg some (by kernel_rfl))
  f225 := Tryz.func119.trans (congrArg some (by kernel_rfl))
  f266 := Tryz.func155.trans (congrArg some (by kernel_rfl))
  t0 := Tryz.underlying0
  a0 := Tryz.isAgg0
  z0 := Tryz.sizeOf0
  v0 := Tryz.zeroValue0
  t3 := Tryz.underlying3
  a3 := Tryz.isAgg3
  z3 := Tryz.sizeOf3
  v3 := Tryz.zeroValue3
  t4 := Tryz.underlying4
  a4 := Tryz.isAgg4
  z4 := Tryz.sizeOf4
  v4 := Tryz.zeroValue4
  t5 := Tryz.underlying5
  a5 := Tryz.isAgg5
  z5 := Tryz.sizeOf5
  v5 := Tryz.zeroValue5
  t9 := Tryz.underlying9
  a9 := Tryz.isAgg9
  z9 := Tryz.sizeOf9
  v9 := Tryz.zeroValue9
  t21 := Tryz.underlying21
  a21 := Tryz.isAgg21
  z21 := Tryz.sizeOf21
  v21 := Tryz.zeroValue21
  t46 := Tryz.underlying150
  a46 := Tryz.isAgg150
  z46 := Tryz.sizeOf150
  v46 := Tryz.zeroValue150 }
open Go.RowKit Go.Lib in
theorem Tryz.strings_IndexRune_ascii (s : ByteArray) (r : Int) (w : World) (h0 : 0 ≤ r) (h1 : r < 128) :
    Calls Tryz.prog 74 #[.string s, .int .i32 r] w fun e w' => e = .returned (.int .i64 (Lib.indexByte s.data.toList r.toNat.toUInt8)) ∧ w' = w := Any.strings_IndexRune_ascii Tryz.lays152 s r w h0 h1
def Tryz.lays226_ren : Go.Shelf.Ren := ⟨fun | 226 => 75 | n => n, fun | 3 => 3 | 4 => 4 | n => n, fun | n => n⟩
theorem Tryz.lays226 : Go.Proofs.Lays.n226 Tryz.prog Tryz.lays226_ren := {
  mixed := by kernel_rfl
  f226 := Tryz.func75.trans (congrArg some (by kernel_rfl))
  t3 := Tryz.underlying3
  a3 := Tryz.isAgg3
  z3 := Tryz.sizeOf3
  v3 := Tryz.zeroValue3
  t4 := Tryz.underlying4
  a4 := Tryz.isAgg4
  z4 := Tryz.sizeOf4
  v4 := Tryz.zeroValue4 }
open Go.RowKit Go.Lib in
theorem Tryz.strings_shouldUseASCIISet (n : Int) (w : World) :
    Calls Tryz.prog 75 #[.int .i64 n] w fun e w' => e = .returned (.bool (decide (8 < n))) ∧ w' = w := Any.strings_shouldUseASCIISet Tryz.lays226 n w
def Tryz.lays153_ren : Go.Shelf.Ren := ⟨fun | 153 => 48 | 152 => 74 | 226 => 75 | 227 => 76 | 228 => 77 | 137 => 116 | 119 => 117 | 224 => 118 | 225 => 119 | 217 => 145 | 266 => 155 | n => n, fun | 9 => 9 | 3 => 3 | 4 => 4 | 5 => 5 | 21 => 21 | 117 => 108 | 116 => 107 | 0 => 0 | 46 => 150 | 124 => 151 | n => n, fun | n => n⟩
theorem Tryz.lays153 : Go.Proofs.Lays.n153 Tryz.prog Tryz.lays153_ren := {
  mixed := by kernel_rfl
  f119 := Tryz.func117.trans (congrArg some (by kernel_rfl))
  f137 := Tryz.func116.trans (congrArg some (by kernel_rfl))
  f152 := Tryz.func74.trans (congrArg some (by kernel_rfl))
  f153 := Tryz.func48.trans (congrArg some (by kernel_rfl))
  f217 := Tryz.func145.trans (congrArg some (by kernel_rfl))
  f224 := Tryz.func118.trans (congrArg some (by kernel_rfl))
  f225 := Tryz.func119.trans (congrArg some (by kernel_rfl))
  f226 := Tryz.func75.trans (congrArg some (by kernel_rfl))
  f227 := Tryz.func76.trans (congrArg some (by kernel_rfl))
  f228 := Tryz.func77.trans (congrArg some (by kernel_rfl))
  f266 := Tryz.func155.trans (congrArg some (by kernel_rfl))
  t0 := Tryz.underlying0
  a0 := Tryz.isAgg0
  z0 := Tryz.sizeOf0
  v0 := Tryz.zeroValue0
  t3 := Tryz.underlying3
  a3 := Tryz.isAgg3
  z3 := Tryz.sizeOf3
  v3 := Tryz.zeroValue3
  t4 := Tryz.underlying4
  a4 := Tryz.isAgg4
  z4 := Tryz.sizeOf4
  v4 := Tryz.zeroValue4
  t5 := Tryz.underlying5
  a5 := Tryz.isAgg5
  z5 := Tryz.sizeOf5
  v5 := Tryz.zeroValue5
  t9 := Tryz.underlying9
  a9 := Tryz.isAgg9
  z9 := Tryz.sizeOf9
  v9 := Tryz.zeroValue9
  t21 := Tryz.underlying21
  a21 := Tryz.isAgg21
  z21 := Tryz.sizeOf21
  v21 := Tryz.zeroValue21
  t46 := Tryz.underlying150
  a46 := Tryz.isAgg150
  z46 := Tryz.sizeOf150
  v46 := Tryz.zeroValue150
  t116 := Tryz.underlying107
  a116 := Tryz.isAgg107
  z116 := Tryz.sizeOf107
  t117 := Tryz.underlying108
  a117 := Tryz.isAgg108
  z117 := Tryz.sizeOf108
  v117 := Tryz.zeroValue108
  t124 := Tryz.underlying151
  a124 := Tryz.isAgg151
  z124 := Tryz.sizeOf151
  v124 := Tryz.zeroValue151 }
open Go.RowKit Go.Lib in
theorem Tryz.strings_IndexAny_long (hv116 : ∀ w, (zeroValue 107).run Tryz.prog w = .ok (.agg (Array.replicate 256 (.bool false))) w) (s chars : ByteArray) (w : World) (h2 : 2 ≤ chars.size) (h8 : 8 < s.size) (hs : s.size < 4294967281) (hcs : chars.size < 4294967281) (hascii : ∀ (j : Nat) b, chars.data.toList[j]? = some b → b.toNat < 128) :
    Calls Tryz.prog 48 #[.string s, .string chars] w fun e w' => e = .returned (.int .i64 (Lib.indexAny s.data.toList chars.data.toList)) ∧ w' = ((w.alloc (.cells (Lib.setCells chars.data.toList) 107)).alloc (.cells (Lib.setCells chars.data.toList) 107)) := Any.strings_IndexAny_long Tryz.lays153 hv116 (by kernel_rfl) s chars w h2 h8 hs hcs hascii
def Tryz.lays150_ren : Go.Shelf.Ren := ⟨fun | 150 => 26 | 153 => 48 | 152 => 74 | 226 => 75 | 227 => 76 | 228 => 77 | 137 => 116 | 119 => 117 | 224 => 118 | 225 => 119 | 217 => 145 | 266 => 155 | n => n, fun | 9 => 9 | 4 => 4 | 3 => 3 | 5 => 5 | 21 => 21 | 117 => 108 | 116 => 107 | 0 => 0 | 46 => 150 | 124 => 151 | n => n, fun | n => n⟩
theorem Tryz.lays150 : Go.Proofs.Lays.n150 Tryz.prog Tryz.lays150_ren := {
  mixed := by kernel_rfl
  f119 := Tryz.func117.trans (congrArg some (by kernel_rfl))
  f137 := Tryz.func116.trans (congrArg some (by kernel_rfl))
  f150 := Tryz.func26.trans (congrArg some (by kernel_rfl))
  f152 := Tryz.func74.trans (congrArg some (by kernel_rfl))
  f153 := Tryz.func48.trans (congrArg some (by kernel_rfl))
  f217 := Tryz.func145.trans (congrArg some (by kernel_rfl))
  f224 := Tryz.func118.trans (congrArg some (by kernel_rfl))
  f225 := Tryz.func119.trans (congrArg some (by kernel_rfl))
  f226 := Tryz.func75.trans (congrArg some (by kernel_rfl))
  f227 := Tryz.func76.trans (congrArg some (by kernel_rfl))
  f228 := Tryz.func77.trans (congrArg some (by kernel_rfl))
  f266 := Tryz.func155.trans (congrArg some (by kernel_rfl))
  t0 := Tryz.underlying0
  a0 := Tryz.isAgg0
  z0 := Tryz.sizeOf0
  v0 := Tryz.zeroValue0
  t3 := Tryz.underlying3
  a3 := Tryz.isAgg3
  z3 := Tryz.sizeOf3
  v3 := Tryz.zeroValue3
  t4 := Tryz.underlying4
  a4 := Tryz.isAgg4
  z4 := Tryz.sizeOf4
  v4 := Tryz.zeroValue4
  t5 := Tryz.underlying5
  a5 := Tryz.isAgg5
  z5 := Tryz.sizeOf5
  v5 := Tryz.zeroValue5
  t9 := Tryz.underlying9
  a9 := Tryz.isAgg9
  z9 := Tryz.sizeOf9
  v9 := Tryz.zeroValue9
  t21 := Tryz.underlying21
  a21 := Tryz.isAgg21
  z21 := Tryz.sizeOf21
  v21 := Tryz.zeroValue21
  t46 := Tryz.underlying150
  a46 := Tryz.isAgg150
  z46 := Tryz.sizeOf150
  v46 := Tryz.zeroValue150
  t116 := Tryz.underlying107
  a116 := Tryz.isAgg107
  z116 := Tryz.sizeOf107
  t117 := Tryz.underlying108
  a117 := Tryz.isAgg108
  z117 := Tryz.sizeOf108
  v117 := Tryz.zeroValue108
  t124 := Tryz.underlying151
  a124 := Tryz.isAgg151
  z124 := Tryz.sizeOf151
  v124 := Tryz.zeroValue151 }
def Tryz.lays105_ren : Go.Shelf.Ren := ⟨fun | 105 => 156 | 212 => 159 | 99 => 160 | 165 => 44 | 166 => 40 | 170 => 157 | 169 => 42 | 263 => 161 | 264 => 162 | 206 => 163 | 240 => 66 | 241 => 67 | 276 => 107 | 277 => 108 | n => n, fun | 9 => 9 | 3 => 3 | 4 => 4 | 20 => 20 | 0 => 0 | 46 => 150 | 109 => 214 | 5 => 5 | 72 => 75 | 76 => 56 | 51 => 181 | 146 => 210 | 53 => 131 | 148 => 217 | 70 => 73 | 37 => 72 | 75 => 55 | 127 => 101 | 164 => 144 | 80 => 79 | n => n, fun | n => n⟩
theorem Tryz.lays105 : Go.Proofs.Lays.n105 Tryz.prog Tryz.lays105_ren := {
  mixed := by kernel_rfl
  f99 := Tryz.func160.trans (congrArg some (by kernel_rfl))
  f105 := Tryz.func156.trans (congrArg some (by kernel_rfl))
  f165 := Tryz.func44.trans (congrArg some (by kernel_rfl))
  f166 := Tryz.func40.trans (congrArg some (by kernel_rfl))
  f169 := Tryz.func42.trans (congrArg some (by kernel_rfl))
  f170 := Tryz.func157.trans (congrArg some (by kernel_rfl))
  f206 := Tryz.func163.trans (congrArg some (by kernel_rfl))
  f212 := Tryz.func159.trans (congrArg some (by kernel_rfl))
  f240 := Tryz.func66.trans (congrArg some (by kernel_rfl))
  f241 := Tryz.func67.trans (congrArg some (by kernel_rfl))
  f263 := Tryz.func161.trans (congrArg some (by kernel_rfl))
  f264 := Tryz.func162.trans (congrArg some (by kernel_rfl))
  f276 := Tryz.func107.trans (congrArg some (by kernel_rfl))
  f277 := Tryz.func108.trans (congrArg some (by kernel_rfl))
  t0 := Tryz.underlying0
  a0 := Tryz.isAgg0
  z0 := Tryz.sizeOf0
  v0 := Tryz.zeroValue0
  t3 := Tryz.underlying3
  a3 := Tryz.isAgg3
  z3 := Tryz.sizeOf3
  v3 := Tryz.zeroValue3
  t4 := Tryz.underlying4
  a4 := Tryz.isAgg4
  z4 := Tryz.sizeOf4
  v4 := Tryz.zeroValue4
  t5 := Tryz.underlying5
  a5 := Tryz.isAgg5
  z5 := Tryz.sizeOf5
  v5 := Tryz.zeroValue5
  t9 := Tryz.underlying9
  a9 := Tryz.isAgg9
  z9 := Tryz.sizeOf9
  v9 := Tryz.zeroValue9
  t20 := Tryz.underlying20
  a20 := Tryz.isAgg20
  z20 := Tryz.sizeOf20
  v20 := Tryz.zeroValue20
  t37 := Tryz.underlying72
  a37 := Tryz.isAgg72
  z37 := Tryz.sizeOf72
  v37 := Tryz.zeroValue72
  t46 := Tryz.underlying150
  a46 := Tryz.isAgg150
  z46 := Tryz.sizeOf150
  v46 := Tryz.zeroValue150
  t51 := Tryz.underlying181
  a51 := Tryz.isAgg181
  z51 := Tryz.sizeOf181
  v51 := Tryz.zeroValue181
  t53 := Tryz.underlying131
  a53 := Tryz.isAgg131
  z53 := Tryz.sizeOf131
  v53 := Tryz.zeroValue131
  t70 := Tryz.underlying73
  a70 := Tryz.isAgg73
  z70 := Tryz.sizeOf73
  v70 := Tryz.zeroValue73
  t72 := Tryz.underlying75
  a72 := Tryz.isAgg75
  z72 := Tryz.sizeOf75
  v72 := Tryz.zeroValue75
  t75 := Tryz.underlying55
  a75 := Tryz.isAgg55
  z75 := Tryz.sizeOf55
  v75 := Tryz.zeroValue55
  t76 := Tryz.underlying56
  a76 := Tryz.isAgg56
  z76 := Tryz.sizeOf56
  v76 := Tryz.zeroValue56
  t109 := Tryz.underlying214
  a109 := Tryz.isAgg214
  z109 := Tryz.sizeOf214
  v109 := Tryz.zeroValue214
  t127 := Tryz.underlying101
  a127 := Tryz.isAgg101
  z127 := Tryz.sizeOf101
  v127 := Tryz.zeroValue101
  t146 := Tryz.underlying210
  a146 := Tryz.isAgg210
  z146 := Tryz.sizeOf210
  v146 := Tryz.zeroValue210
  t148 := Tryz.underlying217
  a148 := Tryz.isAgg217
  z148 := Tryz.sizeOf217
  v148 := Tryz.zeroValue217
  t164 := Tryz.underlying144
  a164 := Tryz.isAgg144
  z164 := Tryz.sizeOf144
  v164 := Tryz.zeroValue144 }
theorem Tryz.Builder_Extra_105 : Builder.Extra Tryz.prog Tryz.lays105_ren := {
  sizeBuilder := by kernel_rfl
  liesBuilder := by kernel_rfl
  t5 := Tryz.underlying5
  a5 := Tryz.isAgg5
  z5 := Tryz.sizeOf5
  v5 := Tryz.zeroValue5
  infoByte := by kernel_rfl
  cellsByte := by kernel_rfl
  sizeByte := by kernel_rfl
  neB5 := by decide }
open Go.RowKit Go.Lib in
theorem Tryz.strings_Repeat (s : ByteArray) (c : Nat) (w : World) (hc : c ≤ 9223372036854775807) (hlen : s.size * c ≤ 140737488355328) :
    Calls Tryz.prog 156 #[.string s, .int .i64 c] w fun e w' => e = .returned (.string ⟨(Lib.repeatL s.data.toList c).toArray⟩) ∧ Below w.heap.size w w' := Any.strings_Repeat Tryz.lays105 Tryz.Builder_Extra_105 s c w hc hlen
open Go.RowKit Go.Lib in
theorem Tryz.strings_IndexFunc_grows (g : Nat) (lb : Array Value) (eg : ∀ args w, (callFunc g args).run Tryz.prog w = .ok (.enter g args) w) (p : Nat → Bool) (s : ByteArray) (w : World) (hp : PredGrows Tryz.prog g lb p w) :
    Calls Tryz.prog 98 #[.string s, .func (.func g) #[] lb] w fun e w' => e = .returned (.int .i64 (Lib.idxFunc p true s)) ∧ Below w.heap.size w w' := Any.strings_IndexFunc_grows Tryz.laysGw15 g lb eg p s w hp
def Tryz.laysNm217_ren : Go.Shelf.Ren := ⟨fun | 17 => 43 | n => n, fun | 24 => 38 | 9 => 9 | 3 => 3 | 4 => 4 | 0 => 0 | n => n, fun | n => n⟩
theorem Tryz.laysNm217 : Go.Proofs.Lays2.n17 Tryz.prog Tryz.laysNm217_ren := {
  mixed := by kernel_rfl
  f17 := Tryz.func43.trans (congrArg some (by kernel_rfl))
  t0 := Tryz.underlying0
  a0 := Tryz.isAgg0
  z0 := Tryz.sizeOf0
  v0 := Tryz.zeroValue0
  t3 := Tryz.underlying3
  a3 := Tryz.isAgg3
  z3 := Tryz.sizeOf3
  v3 := Tryz.zeroValue3
  t4 := Tryz.underlying4
  a4 := Tryz.isAgg4
  z4 := Tryz.sizeOf4
  v4 := Tryz.zeroValue4
  t9 := Tryz.underlying9
  a9 := Tryz.isAgg9
  z9 := Tryz.sizeOf9
  v9 := Tryz.zeroValue9
  t24 := Tryz.underlying38
  a24 := Tryz.isAgg38
  z24 := Tryz.sizeOf38
  v24 := Tryz.zeroValue38 }
open Go.RowKit Go.Lib Go.Sort in
theorem Tryz.slices_Reverse_string_empty (a : Option Addr) (cap : Nat) (w : World) :
    Calls Tryz.prog 43 #[.slice a 0 cap] w fun e w' => e = .returned (.tuple #[]) ∧ w' = w := Any.slices_Reverse_string_empty Tryz.laysNm217 a cap w
open Go.RowKit Go.Lib Go.Sort in
theorem Tryz.slices_Reverse_string_cells (b off n c : Nat) (Sx : Nat → ByteArray) (w : World) (hbig : n ≤ 9223372036854775807) (hc : ∀ i, i < n → w.cell? ⟨b, off + i, none⟩ = some (.string (Sx i))) (hf : ∀ j, j < n → w.frozen? ⟨b, off + j, none⟩ = false) :
    Calls Tryz.prog 43 #[.slice (some ⟨b, off, none⟩) n c] w fun e w' => e = .returned (.tuple #[]) ∧ ∃ q, w' = (w.drewN q).setCells b off ((Lib.strsOf Sx n).reverse.map encStr) := Any.slices_Reverse_string_cells Tryz.laysNm217 b off n c Sx w hbig hc hf
def Tryz.laysT29_ren : Go.Shelf.Ren := ⟨fun | 29 => 154 | n => n, fun | 22 => 131 | 3 => 3 | 4 => 4 | 25 => 150 | 54 => 213 | 0 => 0 | 5 => 5 | n => n, fun | 1 => 8 | n => n⟩
end Go.Proofs

namespace Go.X
open Go Go.Proofs
theorem td1 : TDOK Tryz.prog 1 ⟨.func, 1, 8, [.nilf], none, none, false⟩ := tdok_of (info_of Tryz.type1) rfl ⟨_, _, _, Tryz.underlying1⟩ ⟨rfl, rfl, rfl⟩ rfl (.inl ⟨rfl, rfl⟩) (.inl rfl)
theorem td2 : TDOK Tryz.prog 2 ⟨.int .i64, 1, 8, [.i .i64 0], some (.int .i64), none, false⟩ := tdok_of (info_of Tryz.type2) rfl Tryz.underlying2 ⟨rfl, rfl, rfl⟩ rfl (.inl ⟨rfl, rfl⟩) (.inr ⟨_, rfl, rfl, by decide, rfl⟩)
theorem td3 : TDOK Tryz.prog 3 ⟨.int .i64, 1, 8, [.i .i64 0], some (.int .i64), none, false⟩ := tdok_of (info_of Tryz.type3) rfl Tryz.underlying3 ⟨rfl, rfl, rfl⟩ rfl (.inl ⟨rfl, rfl⟩) (.inr ⟨_, rfl, rfl, by decide, rfl⟩)
theorem td4 : TDOK Tryz.prog 4 ⟨.bool, 1, 1, [.b false], some .bool, none, false⟩ := tdok_of (info_of Tryz.type4) rfl Tryz.underlying4 ⟨rfl, rfl, rfl⟩ rfl (.inl ⟨rfl, rfl⟩) (.inr ⟨_, rfl, rfl, by decide, rfl⟩)
theorem td5 : TDOK Tryz.prog 5 ⟨.int .u8, 1, 1, [.i .u8 0], some (.int .u8), none, false⟩ := tdok_of (info_of Tryz.type5) rfl Tryz.underlying5 ⟨rfl, rfl, rfl⟩ rfl (.inl ⟨rfl, rfl⟩) (.inr ⟨_, rfl, rfl, by decide, rfl⟩)
theorem td6 : TDOK Tryz.prog 6 ⟨.int .u8, 1, 1, [.i .u8 0], some (.int .u8), none, false⟩ := tdok_of (info_of Tryz.type6) rfl Tryz.underlying6 ⟨rfl, rfl, rfl⟩ rfl (.inl ⟨rfl, rfl⟩) (.inr ⟨_, rfl, rfl, by decide, rfl⟩)
theorem td7 : TDOK Tryz.prog 7 ⟨.struct [(0, 2), (1, 3), (2, 4), (3, 6)], 4, 24, [.i .i64 0, .i .i64 0, .b false, .i .u8 0], some (.pair (.int .i64) (.pair (.int .i64) (.pair .bool (.int .u8)))), none, false⟩ := tdok_of (info_of Tryz.type7) rfl ⟨_, Tryz.underlying7, rfl⟩ ⟨rfl, rfl, rfl⟩ rfl (.inl ⟨rfl, rfl⟩) (.inr ⟨_, rfl, rfl, by decide, rfl⟩)
theorem td8 : TDOK Tryz.prog 8 ⟨.struct [(0, 2), (1, 3), (2, 4), (3, 6)], 4, 24, [.i .i64 0, .i .i64 0, .b false, .i .u8 0], some (.pair (.int .i64) (.pair (.int .i64) (.pair .bool (.int .u8)))), none, false⟩ := tdok_of (info_of Tryz.type8) rfl ⟨_, Tryz.underlying8, rfl⟩ ⟨rfl, rfl, rfl⟩ rfl (.inl ⟨rfl, rfl⟩) (.inr ⟨_, rfl, rfl, by decide, rfl⟩)
theorem td9 : TDOK Tryz.prog 9 ⟨.str, 1, 16, [.s ByteArray.empty], some .str, none, false⟩ := tdok_of (info_of Tryz.type9) rfl Tryz.underlying9 ⟨rfl, rfl, rfl⟩ rfl (.inl ⟨rfl, rfl⟩) (.inr ⟨_, rfl, rfl, by decide, rfl⟩)
theorem td10 : TDOK Tryz.prog 10 ⟨.str, 1, 16, [.s ByteArray.empty], some .str, none, false⟩ := tdok_of (info_of Tryz.type10) rfl Tryz.underlying10 ⟨rfl, rfl, rfl⟩ rfl (.inl ⟨rfl, rfl⟩) (.inr ⟨_, rfl, rfl, by decide, rfl⟩)
theorem td11 : TDOK Tryz.prog 11 ⟨.str, 1, 16, [.s ByteArray.empty], some .str, none, false⟩ := tdok_of (info_of Tryz.type11) rfl Tryz.underlying11 ⟨rfl, rfl, rfl⟩ rfl (.inl ⟨rfl, rfl⟩) (.inr ⟨_, rfl, rfl, by decide, rfl⟩)
theorem td12 : TDOK Tryz.prog 12 ⟨.int .u64, 1, 8, [.i .u64 0], some (.int .u64), none, false⟩ := tdok_of (info_of Tryz.type12) rfl Tryz.underlying12 ⟨rfl, rfl, rfl⟩ rfl (.inl ⟨rfl, rfl⟩) (.inr ⟨_, rfl, rfl, by decide, rfl⟩)
theorem td13 : TDOK Tryz.prog 13 ⟨.struct [(0, 9), (1, 12)], 2, 24, [.s ByteArray.empty, .i .u64 0], some (.pair .str (.int .u64)), none, false⟩ := tdok_of (info_of Tryz.type13) rfl ⟨_, Tryz.underlying13, rfl⟩ ⟨rfl, rfl, rfl⟩ rfl (.inl ⟨rfl, rfl⟩) (.inr ⟨_, rfl, rfl, by decide, rfl⟩)
theorem td14 : TDOK Tryz.prog 14 ⟨.struct [(0, 9), (1, 12)], 2, 24, [.s ByteArray.empty, .i .u64 0], some (.pair .str (.int .u64)), none, false⟩ := tdok_of (info_of Tryz.type14) rfl ⟨_, Tryz.underlying14, rfl⟩ ⟨rfl, rfl, rfl⟩ rfl (.inl ⟨rfl, rfl⟩) (.inr ⟨_, rfl, rfl, by decide, rfl⟩)
theorem td15 : TDOK Tryz.prog 15 ⟨.ptr 220, 1, 8, [.nilp], none, none, false⟩ := tdok_of (info_of Tryz.type15) rfl Tryz.underlying15 ⟨rfl, rfl, rfl⟩ rfl (.inl ⟨rfl, rfl⟩) (.inl rfl)
theorem td16 : TDOK Tryz.prog 16 ⟨.ptr 223, 1, 8, [.nilp], none, none, false⟩ := tdok_of (info_of Tryz.type16) rfl Tryz.underlying16 ⟨rfl, rfl, rfl⟩ rfl (.inl ⟨rfl, rfl⟩) (.inl rfl)
theorem td17 : TDOK Tryz.prog 17 ⟨.ptr 230, 1, 8, [.nilp], none, none, false⟩ := tdok_of (info_of Tryz.type17) rfl Tryz.underlying17 ⟨rfl, rfl, rfl⟩ rfl (.inl ⟨rfl, rfl⟩) (.inl rfl)
theorem td18 : TDOK Tryz.prog 18 ⟨.struct [(0, 17)], 1, 8, [.nilp], none, none, false⟩ := tdok_of (info_of Tryz.type18) rfl ⟨_, Tryz.underlying18, rfl⟩ ⟨rfl, rfl, rfl⟩ rfl (.inl ⟨rfl, rfl⟩) (.inl rfl)
theorem td19 : TDOK Tryz.prog 19 ⟨.struct [(0, 17)], 1, 8, [.nilp], none, none, false⟩ := tdok_of (info_of Tryz.type19) rfl ⟨_, Tryz.underlying19, rfl⟩ ⟨rfl, rfl, rfl⟩ rfl (.inl ⟨rfl, rfl⟩) (.inl rfl)
theorem td20 : TDOK Tryz.prog 20 ⟨.iface, 1, 16, [.nili], none, none, false⟩ := tdok_of (info_of Tryz.type20) rfl ⟨_, Tryz.underlying20⟩ ⟨rfl, rfl, rfl⟩ rfl (.inl ⟨rfl, rfl⟩) (.inl rfl)
theorem td21 : TDOK Tryz.prog 21 ⟨.int .i32, 1, 4, [.i .i32 0], some (.int .i32), none, false⟩ := tdok_of (info_of Tryz.type21) rfl Tryz.underlying21 ⟨rfl, rfl, rfl⟩ rfl (.inl ⟨rfl, rfl⟩) (.inr ⟨_, rfl, rfl, by decide, rfl⟩)
theorem td22 : TDOK Tryz.prog 22 ⟨.struct [(0, 9), (1, 3), (2, 3), (3, 3)], 4, 40, [.s ByteArray.empty, .i .i64 0, .i .i64 0, .i .i64 0], some (.pair .str (.pair (.int .i64) (.pair (.int .i64) (.int .i64)))), none, false⟩ := tdok_of (info_of Tryz.type22) rfl ⟨_, Tryz.underlying22, rfl⟩ ⟨rfl, rfl, rfl⟩ rfl (.inl ⟨rfl, rfl⟩) (.inr ⟨_, rfl, rfl, by decide, rfl⟩)
theorem eqs23 : ∀ (x y : EK.ty (.pair .str (.pair (.int .i64) (.pair (.int .i64) (.int .i64))))) (w : World), (Op.equalIn 10000 23 (.agg (EK.vals (.pair .str (.pair (.int .i64) (.pair (.int .i64) (.int .i64)))) x).toArray) (.agg (EK.vals (.pair .str (.pair (.int .i64) (.pair (.int .i64) (.int .i64)))) y).toArray)).run Tryz.prog w = .ok (EK.eqb (.pair .str (.pair (.int .i64) (.pair (.int .i64) (.int .i64)))) x y) w := by
  intro x y w
  rw [run_equalIn_agg w 9999 23 _ _ (by rw [fo Tryz.underlying23]; exact Tryz.underlying23) Tryz.stoodInHeld23, fo Tryz.underlying23]
  simp only [EK.vals, List.cons_append, List.nil_append, EK.eqb]
  have p0 : ∀ (a0 a1 a2 a3 : Value), (Go.part 9 #[a0, a1, a2, a3] 0).run Tryz.prog w = .ok a0 w := fun a0 a1 a2 a3 => part_run td9 [a0, a1, a2, a3] 0
  have p1 : ∀ (a0 a1 a2 a3 : Value), (Go.part 3 #[a0, a1, a2, a3] 1).run Tryz.prog w = .ok a1 w := fun a0 a1 a2 a3 => part_run td3 [a0, a1, a2, a3] 1
  have p2 : ∀ (a0 a1 a2 a3 : Value), (Go.part 3 #[a0, a1, a2, a3] 2).run Tryz.prog w = .ok a2 w := fun a0 a1 a2 a3 => part_run td3 [a0, a1, a2, a3] 2
  have p3 : ∀ (a0 a1 a2 a3 : Value), (Go.part 3 #[a0, a1, a2, a3] 3).run Tryz.prog w = .ok a3 w := fun a0 a1 a2 a3 => part_run td3 [a0, a1, a2, a3] 3
  simp [Op.eqFields, p0, p1, p2, p3, run_equalIn_int w 9998 3 .i64 .i64 _ _ Tryz.underlying3, run_equalIn_string w 9998 9 _ _ Tryz.underlying9, strEq]
  by_cases h0 : x.1.toList = y.1.toList <;> by_cases h1 : x.2.1 = y.2.1 <;> by_cases h2 : x.2.2.1 = y.2.2.1 <;> by_cases h3 : x.2.2.2 = y.2.2.2 <;> simp [h0, h1, h2, h3]

theorem td23 : TDOK Tryz.prog 23 ⟨.struct [(0, 9), (1, 3), (2, 3), (3, 3)], 4, 40, [.s ByteArray.empty, .i .i64 0, .i .i64 0, .i .i64 0], some (.pair .str (.pair (.int .i64) (.pair (.int .i64) (.int .i64)))), none, true⟩ := tdok_of (info_of Tryz.type23) rfl ⟨_, Tryz.underlying23, rfl⟩ ⟨rfl, rfl, rfl⟩ rfl (.inl ⟨rfl, rfl⟩) (.inr ⟨_, rfl, rfl, by decide, rfl⟩) (fun _ k hk => by cases hk; exact ⟨Tryz.eqGuardType23, eqs23⟩)
theorem td24 : TDOK Tryz.prog 24 ⟨.slice 66, 1, 24, [.nils], none, none, false⟩ := tdok_of (info_of Tryz.type24) rfl Tryz.underlying24 ⟨rfl, rfl, rfl⟩ rfl (.inl ⟨rfl, rfl⟩) (.inl rfl)
theorem td25 : TDOK Tryz.prog 25 ⟨.struct [(0, 3), (1, 23), (5, 24), (6, 3)], 7, 80, [.i .i64 0, .s ByteArray.empty, .i .i64 0, .i .i64 0, .i .i64 0, .nils, .i .i64 0], none, none, false⟩ := tdok_of (info_of Tryz.type25) rfl ⟨_, Tryz.underlying25, rfl⟩ ⟨rfl, rfl, rfl⟩ rfl (.inl ⟨rfl, rfl⟩) (.inl rfl)
theorem td26 : TDOK Tryz.prog 26 ⟨.struct [(0, 3), (1, 23), (5, 24), (6, 3)], 7, 80, [.i .i64 0, .s ByteArray.empty, .i .i64 0, .i .i64 0, .i .i64 0, .nils, .i .i64 0], none, none, false⟩ := tdok_of (info_of Tryz.type26) rfl ⟨_, Tryz.underlying26, rfl⟩ ⟨rfl, rfl, rfl⟩ rfl (.inl ⟨rfl, rfl⟩) (.inl rfl)
theorem td27 : TDOK Tryz.prog 27 ⟨.func, 1, 8, [.nilf], none, none, false⟩ := tdok_of (info_of Tryz.type27) rfl ⟨_, _, _, Tryz.underlying27⟩ ⟨rfl, rfl, rfl⟩ rfl (.inl ⟨rfl, rfl⟩) (.inl rfl)
theorem td28 : TDOK Tryz.prog 28 ⟨.func, 1, 8, [.nilf], none, none, false⟩ := tdok_of (info_of Tryz.type28) rfl ⟨_, _, _, Tryz.underlying28⟩ ⟨rfl, rfl, rfl⟩ rfl (.inl ⟨rfl, rfl⟩) (.inl rfl)
theorem td29 : TDOK Tryz.prog 29 ⟨.struct [(0, 3), (1, 23), (5, 24), (6, 3)], 7, 80, [.i .i64 0, .s ByteArray.empty, .i .i64 0, .i .i64 0, .i .i64 0, .nils, .i .i64 0], none, none, false⟩ := tdok_of (info_of Tryz.type29) rfl ⟨_, Tryz.underlying29, rfl⟩ ⟨rfl, rfl, rfl⟩ rfl (.inl ⟨rfl, rfl⟩) (.inl rfl)
theorem td30 : TDOK Tryz.prog 30 ⟨.func, 1, 8, [.nilf], none, none, false⟩ := tdok_of (info_of Tryz.type30) rfl ⟨_, _, _, Tryz.underlying30⟩ ⟨rfl, rfl, rfl⟩ rfl (.inl ⟨rfl, rfl⟩) (.inl rfl)
theorem td31 : TDOK Tryz.prog 31 ⟨.func, 1, 8, [.nilf], none, none, false⟩ := tdok_of (info_of Tryz.type31) rfl ⟨_, _, _, Tryz.underlying31⟩ ⟨rfl, rfl, rfl⟩ rfl (.inl ⟨rfl, rfl⟩) (.inl rfl)
theorem td32 : TDOK Tryz.prog 32 ⟨.func, 1, 8, [.nilf], none, none, false⟩ := tdok_of (info_of Tryz.type32) rfl ⟨_, _, _, Tryz.underlying32⟩ ⟨rfl, rfl, rfl⟩ rfl (.inl ⟨rfl, rfl⟩) (.inl rfl)
theorem td33 : TDOK Tryz.prog 33 ⟨.int .i64, 1, 8, [.i .i64 0], some (.int .i64), none, false⟩ := tdok_of (info_of Tryz.type33) rfl Tryz.underlying33 ⟨rfl, rfl, rfl⟩ rfl (.inl ⟨rfl, rfl⟩) (.inr ⟨_, rfl, rfl, by decide, rfl⟩)
theorem td35 : TDOK Tryz.prog 35 ⟨.func, 1, 8, [.nilf], none, none, false⟩ := tdok_of (info_of Tryz.type35) rfl ⟨_, _, _, Tryz.underlying35⟩ ⟨rfl, rfl, rfl⟩ rfl (.inl ⟨rfl, rfl⟩) (.inl rfl)
theorem td36 : TDOK Tryz.prog 36 ⟨.func, 1, 8, [.nilf], none, none, false⟩ := tdok_of (info_of Tryz.type36) rfl ⟨_, _, _, Tryz.underlying36⟩ ⟨rfl, rfl, rfl⟩ rfl (.inl ⟨rfl, rfl⟩) (.inl rfl)
theorem td37 : TDOK Tryz.prog 37 ⟨.func, 1, 8, [.nilf], none, none, false⟩ := tdok_of (info_of Tryz.type37) rfl ⟨_, _, _, Tryz.underlying37⟩ ⟨rfl, rfl, rfl⟩ rfl (.inl ⟨rfl, rfl⟩) (.inl rfl)
theorem td38 : TDOK Tryz.prog 38 ⟨.slice 9, 1, 24, [.nils], none, none, false⟩ := tdok_of (info_of Tryz.type38) rfl Tryz.underlying38 ⟨rfl, rfl, rfl⟩ rfl (.inl ⟨rfl, rfl⟩) (.inl rfl)
theorem td39 : TDOK Tryz.prog 39 ⟨.func, 1, 8, [.nilf], none, none, false⟩ := tdok_of (info_of Tryz.type39) rfl ⟨_, _, _, Tryz.underlying39⟩ ⟨rfl, rfl, rfl⟩ rfl (.inl ⟨rfl, rfl⟩) (.inl rfl)
theorem td40 : TDOK Tryz.prog 40 ⟨.func, 1, 8, [.nilf], none, none, false⟩ := tdok_of (info_of Tryz.type40) rfl ⟨_, _, _, Tryz.underlying40⟩ ⟨rfl, rfl, rfl⟩ rfl (.inl ⟨rfl, rfl⟩) (.inl rfl)
theorem td41 : TDOK Tryz.prog 41 ⟨.func, 1, 8, [.nilf], none, none, false⟩ := tdok_of (info_of Tryz.type41) rfl ⟨_, _, _, Tryz.underlying41⟩ ⟨rfl, rfl, rfl⟩ rfl (.inl ⟨rfl, rfl⟩) (.inl rfl)
theorem td42 : TDOK Tryz.prog 42 ⟨.func, 1, 8, [.nilf], none, none, false⟩ := tdok_of (info_of Tryz.type42) rfl ⟨_, _, _, Tryz.underlying42⟩ ⟨rfl, rfl, rfl⟩ rfl (.inl ⟨rfl, rfl⟩) (.inl rfl)
theorem td43 : TDOK Tryz.prog 43 ⟨.func, 1, 8, [.nilf], none, none, false⟩ := tdok_of (info_of Tryz.type43) rfl ⟨_, _, _, Tryz.underlying43⟩ ⟨rfl, rfl, rfl⟩ rfl (.inl ⟨rfl, rfl⟩) (.inl rfl)
theorem td45 : TDOK Tryz.prog 45 ⟨.func, 1, 8, [.nilf], none, none, false⟩ := tdok_of (info_of Tryz.type45) rfl ⟨_, _, _, Tryz.underlying45⟩ ⟨rfl, rfl, rfl⟩ rfl (.inl ⟨rfl, rfl⟩) (.inl rfl)
theorem td46 : TDOK Tryz.prog 46 ⟨.func, 1, 8, [.nilf], none, none, false⟩ := tdok_of (info_of Tryz.type46) rfl ⟨_, _, _, Tryz.underlying46⟩ ⟨rfl, rfl, rfl⟩ rfl (.inl ⟨rfl, rfl⟩) (.inl rfl)
theorem td47 : TDOK Tryz.prog 47 ⟨.map 9 3, 1, 8, [.any], none, none, false⟩ := tdok_of (info_of Tryz.type47) rfl Tryz.underlying47 ⟨rfl, rfl, rfl⟩ rfl (.inl ⟨rfl, rfl⟩) (.inl rfl)
theorem td48 : TDOK Tryz.prog 48 ⟨.func, 1, 8, [.nilf], none, none, false⟩ := tdok_of (info_of Tryz.type48) rfl ⟨_, _, _, Tryz.underlying48⟩ ⟨rfl, rfl, rfl⟩ rfl (.inl ⟨rfl, rfl⟩) (.inl rfl)
theorem td49 : TDOK Tryz.prog 49 ⟨.func, 1, 8, [.nilf], none, none, false⟩ := tdok_of (info_of Tryz.type49) rfl ⟨_, _, _, Tryz.underlying49⟩ ⟨rfl, rfl, rfl⟩ rfl (.inl ⟨rfl, rfl⟩) (.inl rfl)
theorem td51 : TDOK Tryz.prog 51 ⟨.func, 1, 8, [.nilf], none, none, false⟩ := tdok_of (info_of Tryz.type51) rfl ⟨_, _, _, Tryz.underlying51⟩ ⟨rfl, rfl, rfl⟩ rfl (.inl ⟨rfl, rfl⟩) (.inl rfl)
theorem td52 : TDOK Tryz.prog 52 ⟨.func, 1, 8, [.nilf], none, none, false⟩ := tdok_of (info_of Tryz.type52) rfl ⟨_, _, _, Tryz.underlying52⟩ ⟨rfl, rfl, rfl⟩ rfl (.inl ⟨rfl, rfl⟩) (.inl rfl)
theorem td54 : TDOK Tryz.prog 54 ⟨.iface, 1, 16, [.nili], none, none, false⟩ := tdok_of (info_of Tryz.type54) rfl ⟨_, Tryz.underlying54⟩ ⟨rfl, rfl, rfl⟩ rfl (.inl ⟨rfl, rfl⟩) (.inl rfl)
theorem td55 : TDOK Tryz.prog 55 ⟨.iface, 1, 16, [.nili], none, none, false⟩ := tdok_of (info_of Tryz.type55) rfl ⟨_, Tryz.underlying55⟩ ⟨rfl, rfl, rfl⟩ rfl (.inl ⟨rfl, rfl⟩) (.inl rfl)
theorem td57 : TDOK Tryz.prog 57 ⟨.func, 1, 8, [.nilf], none, none, false⟩ := tdok_of (info_of Tryz.type57) rfl ⟨_, _, _, Tryz.underlying57⟩ ⟨rfl, rfl, rfl⟩ rfl (.inl ⟨rfl, rfl⟩) (.inl rfl)
theorem td59 : TDOK Tryz.prog 59 ⟨.func, 1, 8, [.nilf], none, none, false⟩ := tdok_of (info_of Tryz.type59) rfl ⟨_, _, _, Tryz.underlying59⟩ ⟨rfl, rfl, rfl⟩ rfl (.inl ⟨rfl, rfl⟩) (.inl rfl)
theorem td60 : TDOK Tryz.prog 60 ⟨.func, 1, 8, [.nilf], none, none, false⟩ := tdok_of (info_of Tryz.type60) rfl ⟨_, _, _, Tryz.underlying60⟩ ⟨rfl, rfl, rfl⟩ rfl (.inl ⟨rfl, rfl⟩) (.inl rfl)
theorem td61 : TDOK Tryz.prog 61 ⟨.func, 1, 8, [.nilf], none, none, false⟩ := tdok_of (info_of Tryz.type61) rfl ⟨_, _, _, Tryz.underlying61⟩ ⟨rfl, rfl, rfl⟩ rfl (.inl ⟨rfl, rfl⟩) (.inl rfl)
theorem td62 : TDOK Tryz.prog 62 ⟨.func, 1, 8, [.nilf], none, none, false⟩ := tdok_of (info_of Tryz.type62) rfl ⟨_, _, _, Tryz.underlying62⟩ ⟨rfl, rfl, rfl⟩ rfl (.inl ⟨rfl, rfl⟩) (.inl rfl)
theorem td63 : TDOK Tryz.prog 63 ⟨.func, 1, 8, [.nilf], none, none, false⟩ := tdok_of (info_of Tryz.type63) rfl ⟨_, _, _, Tryz.underlying63⟩ ⟨rfl, rfl, rfl⟩ rfl (.inl ⟨rfl, rfl⟩) (.inl rfl)
theorem td64 : TDOK Tryz.prog 64 ⟨.func, 1, 8, [.nilf], none, none, false⟩ := tdok_of (info_of Tryz.type64) rfl ⟨_, _, _, Tryz.underlying64⟩ ⟨rfl, rfl, rfl⟩ rfl (.inl ⟨rfl, rfl⟩) (.inl rfl)
theorem td65 : TDOK Tryz.prog 65 ⟨.struct [(0, 3), (1, 3)], 2, 16, [.i .i64 0, .i .i64 0], some (.pair (.int .i64) (.int .i64)), none, false⟩ := tdok_of (info_of Tryz.type65) rfl ⟨_, Tryz.underlying65, rfl⟩ ⟨rfl, rfl, rfl⟩ rfl (.inl ⟨rfl, rfl⟩) (.inr ⟨_, rfl, rfl, by decide, rfl⟩)
theorem eqs66 : ∀ (x y : EK.ty (.pair (.int .i64) (.int .i64))) (w : World), (Op.equalIn 10000 66 (.agg (EK.vals (.pair (.int .i64) (.int .i64)) x).toArray) (.agg (EK.vals (.pair (.int .i64) (.int .i64)) y).toArray)).run Tryz.prog w = .ok (EK.eqb (.pair (.int .i64) (.int .i64)) x y) w := by
  intro x y w
  rw [run_equalIn_agg w 9999 66 _ _ (by rw [fo Tryz.underlying66]; exact Tryz.underlying66) Tryz.stoodInHeld66, fo Tryz.underlying66]
  simp only [EK.vals, List.cons_append, List.nil_append, EK.eqb]
  have p0 : ∀ (a0 a1 : Value), (Go.part 3 #[a0, a1] 0).run Tryz.prog w = .ok a0 w := fun a0 a1 => part_run td3 [a0, a1] 0
  have p1 : ∀ (a0 a1 : Value), (Go.part 3 #[a0, a1] 1).run Tryz.prog w = .ok a1 w := fun a0 a1 => part_run td3 [a0, a1] 1
  simp [Op.eqFields, p0, p1, run_equalIn_int w 9998 3 .i64 .i64 _ _ Tryz.underlying3]
  by_cases h1 : x.1 = y.1 <;> by_cases h2 : x.2 = y.2 <;> simp [h1, h2]

theorem td66 : TDOK Tryz.prog 66 ⟨.struct [(0, 3), (1, 3)], 2, 16, [.i .i64 0, .i .i64 0], some (.pair (.int .i64) (.int .i64)), none, true⟩ := tdok_of (info_of Tryz.type66) rfl ⟨_, Tryz.underlying66, rfl⟩ ⟨rfl, rfl, rfl⟩ rfl (.inl ⟨rfl, rfl⟩) (.inr ⟨_, rfl, rfl, by decide, rfl⟩) (fun _ k hk => by cases hk; exact ⟨Tryz.eqGuardType66, eqs66⟩)
theorem td67 : TDOK Tryz.prog 67 ⟨.func, 1, 8, [.nilf], none, none, false⟩ := tdok_of (info_of Tryz.type67) rfl ⟨_, _, _, Tryz.underlying67⟩ ⟨rfl, rfl, rfl⟩ rfl (.inl ⟨rfl, rfl⟩) (.inl rfl)
theorem td68 : TDOK Tryz.prog 68 ⟨.func, 1, 8, [.nilf], none, none, false⟩ := tdok_of (info_of Tryz.type68) rfl ⟨_, _, _, Tryz.underlying68⟩ ⟨rfl, rfl, rfl⟩ rfl (.inl ⟨rfl, rfl⟩) (.inl rfl)
theorem td69 : TDOK Tryz.prog 69 ⟨.func, 1, 8, [.nilf], none, none, false⟩ := tdok_of (info_of Tryz.type69) rfl ⟨_, _, _, Tryz.underlying69⟩ ⟨rfl, rfl, rfl⟩ rfl (.inl ⟨rfl, rfl⟩) (.inl rfl)
theorem td70 : TDOK Tryz.prog 70 ⟨.func, 1, 8, [.nilf], none, none, false⟩ := tdok_of (info_of Tryz.type70) rfl ⟨_, _, _, Tryz.underlying70⟩ ⟨rfl, rfl, rfl⟩ rfl (.inl ⟨rfl, rfl⟩) (.inl rfl)
theorem td71 : TDOK Tryz.prog 71 ⟨.func, 1, 8, [.nilf], none, none, false⟩ := tdok_of (info_of Tryz.type71) rfl ⟨_, _, _, Tryz.underlying71⟩ ⟨rfl, rfl, rfl⟩ rfl (.inl ⟨rfl, rfl⟩) (.inl rfl)
theorem td72 : TDOK Tryz.prog 72 ⟨.slice 5, 1, 24, [.nils], none, none, false⟩ := tdok_of (info_of Tryz.type72) rfl Tryz.underlying72 ⟨rfl, rfl, rfl⟩ rfl (.inl ⟨rfl, rfl⟩) (.inl rfl)
theorem td73 : TDOK Tryz.prog 73 ⟨.ptr 75, 1, 8, [.nilp], none, none, false⟩ := tdok_of (info_of Tryz.type73) rfl Tryz.underlying73 ⟨rfl, rfl, rfl⟩ rfl (.inl ⟨rfl, rfl⟩) (.inl rfl)
theorem td74 : TDOK Tryz.prog 74 ⟨.struct [(0, 73), (1, 72)], 2, 32, [.nilp, .nils], none, none, false⟩ := tdok_of (info_of Tryz.type74) rfl ⟨_, Tryz.underlying74, rfl⟩ ⟨rfl, rfl, rfl⟩ rfl (.inl ⟨rfl, rfl⟩) (.inl rfl)
theorem td75 : TDOK Tryz.prog 75 ⟨.struct [(0, 73), (1, 72)], 2, 32, [.nilp, .nils], none, none, false⟩ := tdok_of (info_of Tryz.type75) rfl ⟨_, Tryz.underlying75, rfl⟩ ⟨rfl, rfl, rfl⟩ rfl (.inl ⟨rfl, rfl⟩) (.inl rfl)
theorem td76 : TDOK Tryz.prog 76 ⟨.func, 1, 8, [.nilf], none, none, false⟩ := tdok_of (info_of Tryz.type76) rfl ⟨_, _, _, Tryz.underlying76⟩ ⟨rfl, rfl, rfl⟩ rfl (.inl ⟨rfl, rfl⟩) (.inl rfl)
theorem td77 : TDOK Tryz.prog 77 ⟨.func, 1, 8, [.nilf], none, none, false⟩ := tdok_of (info_of Tryz.type77) rfl ⟨_, _, _, Tryz.underlying77⟩ ⟨rfl, rfl, rfl⟩ rfl (.inl ⟨rfl, rfl⟩) (.inl rfl)
theorem td78 : TDOK Tryz.prog 78 ⟨.func, 1, 8, [.nilf], none, none, false⟩ := tdok_of (info_of Tryz.type78) rfl ⟨_, _, _, Tryz.underlying78⟩ ⟨rfl, rfl, rfl⟩ rfl (.inl ⟨rfl, rfl⟩) (.inl rfl)
theorem td79 : TDOK Tryz.prog 79 ⟨.func, 1, 8, [.nilf], none, none, false⟩ := tdok_of (info_of Tryz.type79) rfl ⟨_, _, _, Tryz.underlying79⟩ ⟨rfl, rfl, rfl⟩ rfl (.inl ⟨rfl, rfl⟩) (.inl rfl)
theorem td80 : TDOK Tryz.prog 80 ⟨.func, 1, 8, [.nilf], none, none, false⟩ := tdok_of (info_of Tryz.type80) rfl ⟨_, _, _, Tryz.underlying80⟩ ⟨rfl, rfl, rfl⟩ rfl (.inl ⟨rfl, rfl⟩) (.inl rfl)
theorem td81 : TDOK Tryz.prog 81 ⟨.func, 1, 8, [.nilf], none, none, false⟩ := tdok_of (info_of Tryz.type81) rfl ⟨_, _, _, Tryz.underlying81⟩ ⟨rfl, rfl, rfl⟩ rfl (.inl ⟨rfl, rfl⟩) (.inl rfl)
theorem td82 : TDOK Tryz.prog 82 ⟨.func, 1, 8, [.nilf], none, none, false⟩ := tdok_of (info_of Tryz.type82) rfl ⟨_, _, _, Tryz.underlying82⟩ ⟨rfl, rfl, rfl⟩ rfl (.inl ⟨rfl, rfl⟩) (.inl rfl)
theorem td83 : TDOK Tryz.prog 83 ⟨.func, 1, 8, [.nilf], none, none, false⟩ := tdok_of (info_of Tryz.type83) rfl ⟨_, _, _, Tryz.underlying83⟩ ⟨rfl, rfl, rfl⟩ rfl (.inl ⟨rfl, rfl⟩) (.inl rfl)
theorem td84 : TDOK Tryz.prog 84 ⟨.func, 1, 8, [.nilf], none, none, false⟩ := tdok_of (info_of Tryz.type84) rfl ⟨_, _, _, Tryz.underlying84⟩ ⟨rfl, rfl, rfl⟩ rfl (.inl ⟨rfl, rfl⟩) (.inl rfl)
theorem td86 : TDOK Tryz.prog 86 ⟨.func, 1, 8, [.nilf], none, none, false⟩ := tdok_of (info_of Tryz.type86) rfl ⟨_, _, _, Tryz.underlying86⟩ ⟨rfl, rfl, rfl⟩ rfl (.inl ⟨rfl, rfl⟩) (.inl rfl)
theorem td87 : TDOK Tryz.prog 87 ⟨.func, 1, 8, [.nilf], none, none, false⟩ := tdok_of (info_of Tryz.type87) rfl ⟨_, _, _, Tryz.underlying87⟩ ⟨rfl, rfl, rfl⟩ rfl (.inl ⟨rfl, rfl⟩) (.inl rfl)
theorem td89 : TDOK Tryz.prog 89 ⟨.func, 1, 8, [.nilf], none, none, false⟩ := tdok_of (info_of Tryz.type89) rfl ⟨_, _, _, Tryz.underlying89⟩ ⟨rfl, rfl, rfl⟩ rfl (.inl ⟨rfl, rfl⟩) (.inl rfl)
theorem td90 : TDOK Tryz.prog 90 ⟨.func, 1, 8, [.nilf], none, none, false⟩ := tdok_of (info_of Tryz.type90) rfl ⟨_, _, _, Tryz.underlying90⟩ ⟨rfl, rfl, rfl⟩ rfl (.inl ⟨rfl, rfl⟩) (.inl rfl)
theorem td91 : TDOK Tryz.prog 91 ⟨.func, 1, 8, [.nilf], none, none, false⟩ := tdok_of (info_of Tryz.type91) rfl ⟨_, _, _, Tryz.underlying91⟩ ⟨rfl, rfl, rfl⟩ rfl (.inl ⟨rfl, rfl⟩) (.inl rfl)
theorem td92 : TDOK Tryz.prog 92 ⟨.func, 1, 8, [.nilf], none, none, false⟩ := tdok_of (info_of Tryz.type92) rfl ⟨_, _, _, Tryz.underlying92⟩ ⟨rfl, rfl, rfl⟩ rfl (.inl ⟨rfl, rfl⟩) (.inl rfl)
theorem td93 : TDOK Tryz.prog 93 ⟨.arr 2 3, 2, 16, [.i .i64 0, .i .i64 0], some (.pair (.int .i64) (.int .i64)), none, false⟩ := tdok_of (info_of Tryz.type93) rfl Tryz.underlying93 ⟨rfl, rfl, rfl⟩ rfl (.inl ⟨rfl, rfl⟩) (.inr ⟨_, rfl, rfl, by decide, rfl⟩)
theorem td94 : TDOK Tryz.prog 94 ⟨.func, 1, 8, [.nilf], none, none, false⟩ := tdok_of (info_of Tryz.type94) rfl ⟨_, _, _, Tryz.underlying94⟩ ⟨rfl, rfl, rfl⟩ rfl (.inl ⟨rfl, rfl⟩) (.inl rfl)
theorem td95 : TDOK Tryz.prog 95 ⟨.func, 1, 8, [.nilf], none, none, false⟩ := tdok_of (info_of Tryz.type95) rfl ⟨_, _, _, Tryz.underlying95⟩ ⟨rfl, rfl, rfl⟩ rfl (.inl ⟨rfl, rfl⟩) (.inl rfl)
set_option maxRecDepth 20000 in
theorem td96 : TDOK Tryz.prog 96 ⟨.arr 256 3, 256, 2048, [], none, some ((.int .i64), 256), false⟩ := tdok_of (info_of Tryz.type96) rfl Tryz.underlying96 ⟨rfl, rfl, rfl⟩ rfl (.inr ⟨_, _, rfl, rfl, by decide, by decide⟩) (.inl rfl)
theorem td97 : TDOK Tryz.prog 97 ⟨.func, 1, 8, [.nilf], none, none, false⟩ := tdok_of (info_of Tryz.type97) rfl ⟨_, _, _, Tryz.underlying97⟩ ⟨rfl, rfl, rfl⟩ rfl (.inl ⟨rfl, rfl⟩) (.inl rfl)
theorem td98 : TDOK Tryz.prog 98 ⟨.func, 1, 8, [.nilf], none, none, false⟩ := tdok_of (info_of Tryz.type98) rfl ⟨_, _, _, Tryz.underlying98⟩ ⟨rfl, rfl, rfl⟩ rfl (.inl ⟨rfl, rfl⟩) (.inl rfl)
theorem td99 : TDOK Tryz.prog 99 ⟨.func, 1, 8, [.nilf], none, none, false⟩ := tdok_of (info_of Tryz.type99) rfl ⟨_, _, _, Tryz.underlying99⟩ ⟨rfl, rfl, rfl⟩ rfl (.inl ⟨rfl, rfl⟩) (.inl rfl)
theorem td100 : TDOK Tryz.prog 100 ⟨.func, 1, 8, [.nilf], none, none, false⟩ := tdok_of (info_of Tryz.type100) rfl ⟨_, _, _, Tryz.underlying100⟩ ⟨rfl, rfl, rfl⟩ rfl (.inl ⟨rfl, rfl⟩) (.inl rfl)
theorem td101 : TDOK Tryz.prog 101 ⟨.ptr 5, 1, 8, [.nilp], none, none, false⟩ := tdok_of (info_of Tryz.type101) rfl Tryz.underlying101 ⟨rfl, rfl, rfl⟩ rfl (.inl ⟨rfl, rfl⟩) (.inl rfl)
theorem td102 : TDOK Tryz.prog 102 ⟨.slice 3, 1, 24, [.nils], none, none, false⟩ := tdok_of (info_of Tryz.type102) rfl Tryz.underlying102 ⟨rfl, rfl, rfl⟩ rfl (.inl ⟨rfl, rfl⟩) (.inl rfl)
theorem td103 : TDOK Tryz.prog 103 ⟨.func, 1, 8, [.nilf], none, none, false⟩ := tdok_of (info_of Tryz.type103) rfl ⟨_, _, _, Tryz.underlying103⟩ ⟨rfl, rfl, rfl⟩ rfl (.inl ⟨rfl, rfl⟩) (.inl rfl)
theorem td104 : TDOK Tryz.prog 104 ⟨.func, 1, 8, [.nilf], none, none, false⟩ := tdok_of (info_of Tryz.type104) rfl ⟨_, _, _, Tryz.underlying104⟩ ⟨rfl, rfl, rfl⟩ rfl (.inl ⟨rfl, rfl⟩) (.inl rfl)
theorem td105 : TDOK Tryz.prog 105 ⟨.func, 1, 8, [.nilf], none, none, false⟩ := tdok_of (info_of Tryz.type105) rfl ⟨_, _, _, Tryz.underlying105⟩ ⟨rfl, rfl, rfl⟩ rfl (.inl ⟨rfl, rfl⟩) (.inl rfl)
set_option maxRecDepth 20000 in
theorem td106 : TDOK Tryz.prog 106 ⟨.arr 256 4, 256, 256, [], none, some (.bool, 256), false⟩ := tdok_of (info_of Tryz.type106) rfl Tryz.underlying106 ⟨rfl, rfl, rfl⟩ rfl (.inr ⟨_, _, rfl, rfl, by decide, by decide⟩) (.inl rfl)
set_option maxRecDepth 20000 in
theorem td107 : TDOK Tryz.prog 107 ⟨.arr 256 4, 256, 256, [], none, some (.bool, 256), false⟩ := tdok_of (info_of Tryz.type107) rfl Tryz.underlying107 ⟨rfl, rfl, rfl⟩ rfl (.inr ⟨_, _, rfl, rfl, by decide, by decide⟩) (.inl rfl)
theorem td109 : TDOK Tryz.prog 109 ⟨.func, 1, 8, [.nilf], none, none, false⟩ := tdok_of (info_of Tryz.type109) rfl ⟨_, _, _, Tryz.underlying109⟩ ⟨rfl, rfl, rfl⟩ rfl (.inl ⟨rfl, rfl⟩) (.inl rfl)
theorem td110 : TDOK Tryz.prog 110 ⟨.int .i64, 1, 8, [.i .i64 0], some (.int .i64), none, false⟩ := tdok_of (info_of Tryz.type110) rfl Tryz.underlying110 ⟨rfl, rfl, rfl⟩ rfl (.inl ⟨rfl, rfl⟩) (.inr ⟨_, rfl, rfl, by decide, rfl⟩)
theorem td112 : TDOK Tryz.prog 112 ⟨.func, 1, 8, [.nilf], none, none, false⟩ := tdok_of (info_of Tryz.type112) rfl ⟨_, _, _, Tryz.underlying112⟩ ⟨rfl, rfl, rfl⟩ rfl (.inl ⟨rfl, rfl⟩) (.inl rfl)
theorem td113 : TDOK Tryz.prog 113 ⟨.ptr 156, 1, 8, [.nilp], none, none, false⟩ := tdok_of (info_of Tryz.type113) rfl Tryz.underlying113 ⟨rfl, rfl, rfl⟩ rfl (.inl ⟨rfl, rfl⟩) (.inl rfl)
theorem td114 : TDOK Tryz.prog 114 ⟨.func, 1, 8, [.nilf], none, none, false⟩ := tdok_of (info_of Tryz.type114) rfl ⟨_, _, _, Tryz.underlying114⟩ ⟨rfl, rfl, rfl⟩ rfl (.inl ⟨rfl, rfl⟩) (.inl rfl)
theorem td115 : TDOK Tryz.prog 115 ⟨.func, 1, 8, [.nilf], none, none, false⟩ := tdok_of (info_of Tryz.type115) rfl ⟨_, _, _, Tryz.underlying115⟩ ⟨rfl, rfl, rfl⟩ rfl (.inl ⟨rfl, rfl⟩) (.inl rfl)
theorem td117 : TDOK Tryz.prog 117 ⟨.func, 1, 8, [.nilf], none, none, false⟩ := tdok_of (info_of Tryz.type117) rfl ⟨_, _, _, Tryz.underlying117⟩ ⟨rfl, rfl, rfl⟩ rfl (.inl ⟨rfl, rfl⟩) (.inl rfl)
theorem td118 : TDOK Tryz.prog 118 ⟨.func, 1, 8, [.nilf], none, none, false⟩ := tdok_of (info_of Tryz.type118) rfl ⟨_, _, _, Tryz.underlying118⟩ ⟨rfl, rfl, rfl⟩ rfl (.inl ⟨rfl, rfl⟩) (.inl rfl)
theorem td119 : TDOK Tryz.prog 119 ⟨.struct [], 0, 0, [], none, none, false⟩ := tdok_of (info_of Tryz.type119) rfl ⟨_, Tryz.underlying119, rfl⟩ ⟨rfl, rfl, rfl⟩ rfl (.inl ⟨rfl, rfl⟩) (.inl rfl)
theorem td120 : TDOK Tryz.prog 120 ⟨.struct [], 0, 0, [], none, none, false⟩ := tdok_of (info_of Tryz.type120) rfl ⟨_, Tryz.underlying120, rfl⟩ ⟨rfl, rfl, rfl⟩ rfl (.inl ⟨rfl, rfl⟩) (.inl rfl)
theorem td122 : TDOK Tryz.prog 122 ⟨.func, 1, 8, [.nilf], none, none, false⟩ := tdok_of (info_of Tryz.type122) rfl ⟨_, _, _, Tryz.underlying122⟩ ⟨rfl, rfl, rfl⟩ rfl (.inl ⟨rfl, rfl⟩) (.inl rfl)
theorem td123 : TDOK Tryz.prog 123 ⟨.int .i64, 1, 8, [.i .i64 0], some (.int .i64), none, false⟩ := tdok_of (info_of Tryz.type123) rfl Tryz.underlying123 ⟨rfl, rfl, rfl⟩ rfl (.inl ⟨rfl, rfl⟩) (.inr ⟨_, rfl, rfl, by decide, rfl⟩)
theorem td124 : TDOK Tryz.prog 124 ⟨.func, 1, 8, [.nilf], none, none, false⟩ := tdok_of (info_of Tryz.type124) rfl ⟨_, _, _, Tryz.underlying124⟩ ⟨rfl, rfl, rfl⟩ rfl (.inl ⟨rfl, rfl⟩) (.inl rfl)
theorem td125 : TDOK Tryz.prog 125 ⟨.ptr 123, 1, 8, [.nilp], none, none, false⟩ := tdok_of (info_of Tryz.type125) rfl Tryz.underlying125 ⟨rfl, rfl, rfl⟩ rfl (.inl ⟨rfl, rfl⟩) (.inl rfl)
theorem td126 : TDOK Tryz.prog 126 ⟨.func, 1, 8, [.nilf], none, none, false⟩ := tdok_of (info_of Tryz.type126) rfl ⟨_, _, _, Tryz.underlying126⟩ ⟨rfl, rfl, rfl⟩ rfl (.inl ⟨rfl, rfl⟩) (.inl rfl)
theorem td127 : TDOK Tryz.prog 127 ⟨.func, 1, 8, [.nilf], none, none, false⟩ := tdok_of (info_of Tryz.type127) rfl ⟨_, _, _, Tryz.underlying127⟩ ⟨rfl, rfl, rfl⟩ rfl (.inl ⟨rfl, rfl⟩) (.inl rfl)
theorem td129 : TDOK Tryz.prog 129 ⟨.func, 1, 8, [.nilf], none, none, false⟩ := tdok_of (info_of Tryz.type129) rfl ⟨_, _, _, Tryz.underlying129⟩ ⟨rfl, rfl, rfl⟩ rfl (.inl ⟨rfl, rfl⟩) (.inl rfl)
set_option maxRecDepth 20000 in
theorem td130 : TDOK Tryz.prog 130 ⟨.arr 24 5, 24, 24, [], none, some ((.int .u8), 24), false⟩ := tdok_of (info_of Tryz.type130) rfl Tryz.underlying130 ⟨rfl, rfl, rfl⟩ rfl (.inr ⟨_, _, rfl, rfl, by decide, by decide⟩) (.inl rfl)
theorem td131 : TDOK Tryz.prog 131 ⟨.int .u64, 1, 8, [.i .u64 0], some (.int .u64), none, false⟩ := tdok_of (info_of Tryz.type131) rfl Tryz.underlying131 ⟨rfl, rfl, rfl⟩ rfl (.inl ⟨rfl, rfl⟩) (.inr ⟨_, rfl, rfl, by decide, rfl⟩)
theorem td132 : TDOK Tryz.prog 132 ⟨.func, 1, 8, [.nilf], none, none, false⟩ := tdok_of (info_of Tryz.type132) rfl ⟨_, _, _, Tryz.underlying132⟩ ⟨rfl, rfl, rfl⟩ rfl (.inl ⟨rfl, rfl⟩) (.inl rfl)
theorem td133 : TDOK Tryz.prog 133 ⟨.func, 1, 8, [.nilf], none, none, false⟩ := tdok_of (info_of Tryz.type133) rfl ⟨_, _, _, Tryz.underlying133⟩ ⟨rfl, rfl, rfl⟩ rfl (.inl ⟨rfl, rfl⟩) (.inl rfl)
theorem td135 : TDOK Tryz.prog 135 ⟨.func, 1, 8, [.nilf], none, none, false⟩ := tdok_of (info_of Tryz.type135) rfl ⟨_, _, _, Tryz.underlying135⟩ ⟨rfl, rfl, rfl⟩ rfl (.inl ⟨rfl, rfl⟩) (.inl rfl)
theorem td136 : TDOK Tryz.prog 136 ⟨.func, 1, 8, [.nilf], none, none, false⟩ := tdok_of (info_of Tryz.type136) rfl ⟨_, _, _, Tryz.underlying136⟩ ⟨rfl, rfl, rfl⟩ rfl (.inl ⟨rfl, rfl⟩) (.inl rfl)
theorem td137 : TDOK Tryz.prog 137 ⟨.func, 1, 8, [.nilf], none, none, false⟩ := tdok_of (info_of Tryz.type137) rfl ⟨_, _, _, Tryz.underlying137⟩ ⟨rfl, rfl, rfl⟩ rfl (.inl ⟨rfl, rfl⟩) (.inl rfl)
theorem td138 : TDOK Tryz.prog 138 ⟨.struct [(0, 3), (1, 3)], 2, 16, [.i .i64 0, .i .i64 0], some (.pair (.int .i64) (.int .i64)), none, false⟩ := tdok_of (info_of Tryz.type138) rfl ⟨_, Tryz.underlying138, rfl⟩ ⟨rfl, rfl, rfl⟩ rfl (.inl ⟨rfl, rfl⟩) (.inr ⟨_, rfl, rfl, by decide, rfl⟩)
theorem eqs139 : ∀ (x y : EK.ty (.pair (.int .i64) (.int .i64))) (w : World), (Op.equalIn 10000 139 (.agg (EK.vals (.pair (.int .i64) (.int .i64)) x).toArray) (.agg (EK.vals (.pair (.int .i64) (.int .i64)) y).toArray)).run Tryz.prog w = .ok (EK.eqb (.pair (.int .i64) (.int .i64)) x y) w := by
  intro x y w
  rw [run_equalIn_agg w 9999 139 _ _ (by rw [fo Tryz.underlying139]; exact Tryz.underlying139) Tryz.stoodInHeld139, fo Tryz.underlying139]
  simp only [EK.vals, List.cons_append, List.nil_append, EK.eqb]
  have p0 : ∀ (a0 a1 : Value), (Go.part 3 #[a0, a1] 0).run Tryz.prog w = .ok a0 w := fun a0 a1 => part_run td3 [a0, a1] 0
  have p1 : ∀ (a0 a1 : Value), (Go.part 3 #[a0, a1] 1).run Tryz.prog w = .ok a1 w := fun a0 a1 => part_run td3 [a0, a1] 1
  simp [Op.eqFields, p0, p1, run_equalIn_int w 9998 3 .i64 .i64 _ _ Tryz.underlying3]
  by_cases h1 : x.1 = y.1 <;> by_cases h2 : x.2 = y.2 <;> simp [h1, h2]

theorem td139 : TDOK Tryz.prog 139 ⟨.struct [(0, 3), (1, 3)], 2, 16, [.i .i64 0, .i .i64 0], some (.pair (.int .i64) (.int .i64)), none, true⟩ := tdok_of (info_of Tryz.type139) rfl ⟨_, Tryz.underlying139, rfl⟩ ⟨rfl, rfl, rfl⟩ rfl (.inl ⟨rfl, rfl⟩) (.inr ⟨_, rfl, rfl, by decide, rfl⟩) (fun _ k hk => by cases hk; exact ⟨Tryz.eqGuardType139, eqs139⟩)
theorem td141 : TDOK Tryz.prog 141 ⟨.func, 1, 8, [.nilf], none, none, false⟩ := tdok_of (info_of Tryz.type141) rfl ⟨_, _, _, Tryz.underlying141⟩ ⟨rfl, rfl, rfl⟩ rfl (.inl ⟨rfl, rfl⟩) (.inl rfl)
theorem td142 : TDOK Tryz.prog 142 ⟨.func, 1, 8, [.nilf], none, none, false⟩ := tdok_of (info_of Tryz.type142) rfl ⟨_, _, _, Tryz.underlying142⟩ ⟨rfl, rfl, rfl⟩ rfl (.inl ⟨rfl, rfl⟩) (.inl rfl)
theorem td143 : TDOK Tryz.prog 143 ⟨.arr 4 142, 4, 32, [.nilf, .nilf, .nilf, .nilf], none, none, false⟩ := tdok_of (info_of Tryz.type143) rfl Tryz.underlying143 ⟨rfl, rfl, rfl⟩ rfl (.inl ⟨rfl, rfl⟩) (.inl rfl)
theorem td145 : TDOK Tryz.prog 145 ⟨.func, 1, 8, [.nilf], none, none, false⟩ := tdok_of (info_of Tryz.type145) rfl ⟨_, _, _, Tryz.underlying145⟩ ⟨rfl, rfl, rfl⟩ rfl (.inl ⟨rfl, rfl⟩) (.inl rfl)
theorem td146 : TDOK Tryz.prog 146 ⟨.func, 1, 8, [.nilf], none, none, false⟩ := tdok_of (info_of Tryz.type146) rfl ⟨_, _, _, Tryz.underlying146⟩ ⟨rfl, rfl, rfl⟩ rfl (.inl ⟨rfl, rfl⟩) (.inl rfl)
theorem td147 : TDOK Tryz.prog 147 ⟨.func, 1, 8, [.nilf], none, none, false⟩ := tdok_of (info_of Tryz.type147) rfl ⟨_, _, _, Tryz.underlying147⟩ ⟨rfl, rfl, rfl⟩ rfl (.inl ⟨rfl, rfl⟩) (.inl rfl)
theorem td148 : TDOK Tryz.prog 148 ⟨.func, 1, 8, [.nilf], none, none, false⟩ := tdok_of (info_of Tryz.type148) rfl ⟨_, _, _, Tryz.underlying148⟩ ⟨rfl, rfl, rfl⟩ rfl (.inl ⟨rfl, rfl⟩) (.inl rfl)
theorem td149 : TDOK Tryz.prog 149 ⟨.func, 1, 8, [.nilf], none, none, false⟩ := tdok_of (info_of Tryz.type149) rfl ⟨_, _, _, Tryz.underlying149⟩ ⟨rfl, rfl, rfl⟩ rfl (.inl ⟨rfl, rfl⟩) (.inl rfl)
theorem td150 : TDOK Tryz.prog 150 ⟨.int .u64, 1, 8, [.i .u64 0], some (.int .u64), none, false⟩ := tdok_of (info_of Tryz.type150) rfl Tryz.underlying150 ⟨rfl, rfl, rfl⟩ rfl (.inl ⟨rfl, rfl⟩) (.inr ⟨_, rfl, rfl, by decide, rfl⟩)
theorem td151 : TDOK Tryz.prog 151 ⟨.ptr 107, 1, 8, [.nilp], none, none, false⟩ := tdok_of (info_of Tryz.type151) rfl Tryz.underlying151 ⟨rfl, rfl, rfl⟩ rfl (.inl ⟨rfl, rfl⟩) (.inl rfl)
theorem td153 : TDOK Tryz.prog 153 ⟨.func, 1, 8, [.nilf], none, none, false⟩ := tdok_of (info_of Tryz.type153) rfl ⟨_, _, _, Tryz.underlying153⟩ ⟨rfl, rfl, rfl⟩ rfl (.inl ⟨rfl, rfl⟩) (.inl rfl)
theorem td154 : TDOK Tryz.prog 154 ⟨.func, 1, 8, [.nilf], none, none, false⟩ := tdok_of (info_of Tryz.type154) rfl ⟨_, _, _, Tryz.underlying154⟩ ⟨rfl, rfl, rfl⟩ rfl (.inl ⟨rfl, rfl⟩) (.inl rfl)
theorem td155 : TDOK Tryz.prog 155 ⟨.struct [(0, 9), (1, 9), (2, 55)], 3, 48, [.s ByteArray.empty, .s ByteArray.empty, .nili], none, none, false⟩ := tdok_of (info_of Tryz.type155) rfl ⟨_, Tryz.underlying155, rfl⟩ ⟨rfl, rfl, rfl⟩ rfl (.inl ⟨rfl, rfl⟩) (.inl rfl)
theorem td156 : TDOK Tryz.prog 156 ⟨.struct [(0, 9), (1, 9), (2, 55)], 3, 48, [.s ByteArray.empty, .s ByteArray.empty, .nili], none, none, false⟩ := tdok_of (info_of Tryz.type156) rfl ⟨_, Tryz.underlying156, rfl⟩ ⟨rfl, rfl, rfl⟩ rfl (.inl ⟨rfl, rfl⟩) (.inl rfl)
theorem td157 : TDOK Tryz.prog 157 ⟨.func, 1, 8, [.nilf], none, none, false⟩ := tdok_of (info_of Tryz.type157) rfl ⟨_, _, _, Tryz.underlying157⟩ ⟨rfl, rfl, rfl⟩ rfl (.inl ⟨rfl, rfl⟩) (.inl rfl)
theorem td158 : TDOK Tryz.prog 158 ⟨.struct [(0, 9), (1, 55)], 2, 32, [.s ByteArray.empty, .nili], none, none, false⟩ := tdok_of (info_of Tryz.type158) rfl ⟨_, Tryz.underlying158, rfl⟩ ⟨rfl, rfl, rfl⟩ rfl (.inl ⟨rfl, rfl⟩) (.inl rfl)
theorem td159 : TDOK Tryz.prog 159 ⟨.struct [(0, 9), (1, 55)], 2, 32, [.s ByteArray.empty, .nili], none, none, false⟩ := tdok_of (info_of Tryz.type159) rfl ⟨_, Tryz.underlying159, rfl⟩ ⟨rfl, rfl, rfl⟩ rfl (.inl ⟨rfl, rfl⟩) (.inl rfl)
theorem td160 : TDOK Tryz.prog 160 ⟨.func, 1, 8, [.nilf], none, none, false⟩ := tdok_of (info_of Tryz.type160) rfl ⟨_, _, _, Tryz.underlying160⟩ ⟨rfl, rfl, rfl⟩ rfl (.inl ⟨rfl, rfl⟩) (.inl rfl)
theorem td161 : TDOK Tryz.prog 161 ⟨.iface, 1, 16, [.nili], none, none, false⟩ := tdok_of (info_of Tryz.type161) rfl ⟨_, Tryz.underlying161⟩ ⟨rfl, rfl, rfl⟩ rfl (.inl ⟨rfl, rfl⟩) (.inl rfl)
theorem td162 : TDOK Tryz.prog 162 ⟨.iface, 1, 16, [.nili], none, none, false⟩ := tdok_of (info_of Tryz.type162) rfl ⟨_, Tryz.underlying162⟩ ⟨rfl, rfl, rfl⟩ rfl (.inl ⟨rfl, rfl⟩) (.inl rfl)
theorem td163 : TDOK Tryz.prog 163 ⟨.func, 1, 8, [.nilf], none, none, false⟩ := tdok_of (info_of Tryz.type163) rfl ⟨_, _, _, Tryz.underlying163⟩ ⟨rfl, rfl, rfl⟩ rfl (.inl ⟨rfl, rfl⟩) (.inl rfl)
theorem td164 : TDOK Tryz.prog 164 ⟨.func, 1, 8, [.nilf], none, none, false⟩ := tdok_of (info_of Tryz.type164) rfl ⟨_, _, _, Tryz.underlying164⟩ ⟨rfl, rfl, rfl⟩ rfl (.inl ⟨rfl, rfl⟩) (.inl rfl)
theorem td165 : TDOK Tryz.prog 165 ⟨.func, 1, 8, [.nilf], none, none, false⟩ := tdok_of (info_of Tryz.type165) rfl ⟨_, _, _, Tryz.underlying165⟩ ⟨rfl, rfl, rfl⟩ rfl (.inl ⟨rfl, rfl⟩) (.inl rfl)
theorem td166 : TDOK Tryz.prog 166 ⟨.struct [(0, 3), (1, 55)], 2, 24, [.i .i64 0, .nili], none, none, false⟩ := tdok_of (info_of Tryz.type166) rfl ⟨_, Tryz.underlying166, rfl⟩ ⟨rfl, rfl, rfl⟩ rfl (.inl ⟨rfl, rfl⟩) (.inl rfl)
theorem td167 : TDOK Tryz.prog 167 ⟨.struct [(0, 3), (1, 55)], 2, 24, [.i .i64 0, .nili], none, none, false⟩ := tdok_of (info_of Tryz.type167) rfl ⟨_, Tryz.underlying167, rfl⟩ ⟨rfl, rfl, rfl⟩ rfl (.inl ⟨rfl, rfl⟩) (.inl rfl)
theorem td168 : TDOK Tryz.prog 168 ⟨.func, 1, 8, [.nilf], none, none, false⟩ := tdok_of (info_of Tryz.type168) rfl ⟨_, _, _, Tryz.underlying168⟩ ⟨rfl, rfl, rfl⟩ rfl (.inl ⟨rfl, rfl⟩) (.inl rfl)
theorem td169 : TDOK Tryz.prog 169 ⟨.int .u64, 1, 8, [.i .u64 0], some (.int .u64), none, false⟩ := tdok_of (info_of Tryz.type169) rfl Tryz.underlying169 ⟨rfl, rfl, rfl⟩ rfl (.inl ⟨rfl, rfl⟩) (.inr ⟨_, rfl, rfl, by decide, rfl⟩)
theorem td170 : TDOK Tryz.prog 170 ⟨.struct [(0, 17), (1, 144), (2, 169)], 3, 24, [.nilp, .nilp, .i .u64 0], none, none, false⟩ := tdok_of (info_of Tryz.type170) rfl ⟨_, Tryz.underlying170, rfl⟩ ⟨rfl, rfl, rfl⟩ rfl (.inl ⟨rfl, rfl⟩) (.inl rfl)
theorem td171 : TDOK Tryz.prog 171 ⟨.struct [(0, 17), (1, 144), (2, 169)], 3, 24, [.nilp, .nilp, .i .u64 0], none, none, false⟩ := tdok_of (info_of Tryz.type171) rfl ⟨_, Tryz.underlying171, rfl⟩ ⟨rfl, rfl, rfl⟩ rfl (.inl ⟨rfl, rfl⟩) (.inl rfl)
theorem td172 : TDOK Tryz.prog 172 ⟨.func, 1, 8, [.nilf], none, none, false⟩ := tdok_of (info_of Tryz.type172) rfl ⟨_, _, _, Tryz.underlying172⟩ ⟨rfl, rfl, rfl⟩ rfl (.inl ⟨rfl, rfl⟩) (.inl rfl)
theorem td173 : TDOK Tryz.prog 173 ⟨.func, 1, 8, [.nilf], none, none, false⟩ := tdok_of (info_of Tryz.type173) rfl ⟨_, _, _, Tryz.underlying173⟩ ⟨rfl, rfl, rfl⟩ rfl (.inl ⟨rfl, rfl⟩) (.inl rfl)
theorem td174 : TDOK Tryz.prog 174 ⟨.int .u8, 1, 1, [.i .u8 0], some (.int .u8), none, false⟩ := tdok_of (info_of Tryz.type174) rfl Tryz.underlying174 ⟨rfl, rfl, rfl⟩ rfl (.inl ⟨rfl, rfl⟩) (.inr ⟨_, rfl, rfl, by decide, rfl⟩)
theorem td175 : TDOK Tryz.prog 175 ⟨.func, 1, 8, [.nilf], none, none, false⟩ := tdok_of (info_of Tryz.type175) rfl ⟨_, _, _, Tryz.underlying175⟩ ⟨rfl, rfl, rfl⟩ rfl (.inl ⟨rfl, rfl⟩) (.inl rfl)
theorem td176 : TDOK Tryz.prog 176 ⟨.func, 1, 8, [.nilf], none, none, false⟩ := tdok_of (info_of Tryz.type176) rfl ⟨_, _, _, Tryz.underlying176⟩ ⟨rfl, rfl, rfl⟩ rfl (.inl ⟨rfl, rfl⟩) (.inl rfl)
theorem td177 : TDOK Tryz.prog 177 ⟨.func, 1, 8, [.nilf], none, none, false⟩ := tdok_of (info_of Tryz.type177) rfl ⟨_, _, _, Tryz.underlying177⟩ ⟨rfl, rfl, rfl⟩ rfl (.inl ⟨rfl, rfl⟩) (.inl rfl)
theorem td178 : TDOK Tryz.prog 178 ⟨.func, 1, 8, [.nilf], none, none, false⟩ := tdok_of (info_of Tryz.type178) rfl ⟨_, _, _, Tryz.underlying178⟩ ⟨rfl, rfl, rfl⟩ rfl (.inl ⟨rfl, rfl⟩) (.inl rfl)
theorem td179 : TDOK Tryz.prog 179 ⟨.func, 1, 8, [.nilf], none, none, false⟩ := tdok_of (info_of Tryz.type179) rfl ⟨_, _, _, Tryz.underlying179⟩ ⟨rfl, rfl, rfl⟩ rfl (.inl ⟨rfl, rfl⟩) (.inl rfl)
set_option maxRecDepth 20000 in
theorem td180 : TDOK Tryz.prog 180 ⟨.arr 20 131, 20, 160, [], none, some ((.int .u64), 20), false⟩ := tdok_of (info_of Tryz.type180) rfl Tryz.underlying180 ⟨rfl, rfl, rfl⟩ rfl (.inr ⟨_, _, rfl, rfl, by decide, by decide⟩) (.inl rfl)
theorem td181 : TDOK Tryz.prog 181 ⟨.int .u32, 1, 4, [.i .u32 0], some (.int .u32), none, false⟩ := tdok_of (info_of Tryz.type181) rfl Tryz.underlying181 ⟨rfl, rfl, rfl⟩ rfl (.inl ⟨rfl, rfl⟩) (.inr ⟨_, rfl, rfl, by decide, rfl⟩)
set_option maxRecDepth 20000 in
theorem td182 : TDOK Tryz.prog 182 ⟨.arr 65 5, 65, 65, [], none, some ((.int .u8), 65), false⟩ := tdok_of (info_of Tryz.type182) rfl Tryz.underlying182 ⟨rfl, rfl, rfl⟩ rfl (.inr ⟨_, _, rfl, rfl, by decide, by decide⟩) (.inl rfl)
theorem td183 : TDOK Tryz.prog 183 ⟨.func, 1, 8, [.nilf], none, none, false⟩ := tdok_of (info_of Tryz.type183) rfl ⟨_, _, _, Tryz.underlying183⟩ ⟨rfl, rfl, rfl⟩ rfl (.inl ⟨rfl, rfl⟩) (.inl rfl)
theorem td184 : TDOK Tryz.prog 184 ⟨.func, 1, 8, [.nilf], none, none, false⟩ := tdok_of (info_of Tryz.type184) rfl ⟨_, _, _, Tryz.underlying184⟩ ⟨rfl, rfl, rfl⟩ rfl (.inl ⟨rfl, rfl⟩) (.inl rfl)
theorem td185 : TDOK Tryz.prog 185 ⟨.ptr 187, 1, 8, [.nilp], none, none, false⟩ := tdok_of (info_of Tryz.type185) rfl Tryz.underlying185 ⟨rfl, rfl, rfl⟩ rfl (.inl ⟨rfl, rfl⟩) (.inl rfl)
theorem td186 : TDOK Tryz.prog 186 ⟨.struct [(0, 9)], 1, 16, [.s ByteArray.empty], some .str, none, false⟩ := tdok_of (info_of Tryz.type186) rfl ⟨_, Tryz.underlying186, rfl⟩ ⟨rfl, rfl, rfl⟩ rfl (.inl ⟨rfl, rfl⟩) (.inr ⟨_, rfl, rfl, by decide, rfl⟩)
theorem td187 : TDOK Tryz.prog 187 ⟨.struct [(0, 9)], 1, 16, [.s ByteArray.empty], some .str, none, false⟩ := tdok_of (info_of Tryz.type187) rfl ⟨_, Tryz.underlying187, rfl⟩ ⟨rfl, rfl, rfl⟩ rfl (.inl ⟨rfl, rfl⟩) (.inr ⟨_, rfl, rfl, by decide, rfl⟩)
theorem td188 : TDOK Tryz.prog 188 ⟨.struct [(0, 17)], 1, 8, [.nilp], none, none, false⟩ := tdok_of (info_of Tryz.type188) rfl ⟨_, Tryz.underlying188, rfl⟩ ⟨rfl, rfl, rfl⟩ rfl (.inl ⟨rfl, rfl⟩) (.inl rfl)
theorem td189 : TDOK Tryz.prog 189 ⟨.struct [(0, 17)], 1, 8, [.nilp], none, none, false⟩ := tdok_of (info_of Tryz.type189) rfl ⟨_, Tryz.underlying189, rfl⟩ ⟨rfl, rfl, rfl⟩ rfl (.inl ⟨rfl, rfl⟩) (.inl rfl)
theorem td190 : TDOK Tryz.prog 190 ⟨.ptr 234, 1, 8, [.nilp], none, none, false⟩ := tdok_of (info_of Tryz.type190) rfl Tryz.underlying190 ⟨rfl, rfl, rfl⟩ rfl (.inl ⟨rfl, rfl⟩) (.inl rfl)
theorem td191 : TDOK Tryz.prog 191 ⟨.iface, 1, 16, [.nili], none, none, false⟩ := tdok_of (info_of Tryz.type191) rfl ⟨_, Tryz.underlying191⟩ ⟨rfl, rfl, rfl⟩ rfl (.inl ⟨rfl, rfl⟩) (.inl rfl)
theorem td193 : TDOK Tryz.prog 193 ⟨.func, 1, 8, [.nilf], none, none, false⟩ := tdok_of (info_of Tryz.type193) rfl ⟨_, _, _, Tryz.underlying193⟩ ⟨rfl, rfl, rfl⟩ rfl (.inl ⟨rfl, rfl⟩) (.inl rfl)
theorem td194 : TDOK Tryz.prog 194 ⟨.iface, 1, 16, [.nili], none, none, false⟩ := tdok_of (info_of Tryz.type194) rfl ⟨_, Tryz.underlying194⟩ ⟨rfl, rfl, rfl⟩ rfl (.inl ⟨rfl, rfl⟩) (.inl rfl)
theorem td195 : TDOK Tryz.prog 195 ⟨.func, 1, 8, [.nilf], none, none, false⟩ := tdok_of (info_of Tryz.type195) rfl ⟨_, _, _, Tryz.underlying195⟩ ⟨rfl, rfl, rfl⟩ rfl (.inl ⟨rfl, rfl⟩) (.inl rfl)
theorem td196 : TDOK Tryz.prog 196 ⟨.iface, 1, 16, [.nili], none, none, false⟩ := tdok_of (info_of Tryz.type196) rfl ⟨_, Tryz.underlying196⟩ ⟨rfl, rfl, rfl⟩ rfl (.inl ⟨rfl, rfl⟩) (.inl rfl)
theorem td197 : TDOK Tryz.prog 197 ⟨.slice 55, 1, 24, [.nils], none, none, false⟩ := tdok_of (info_of Tryz.type197) rfl Tryz.underlying197 ⟨rfl, rfl, rfl⟩ rfl (.inl ⟨rfl, rfl⟩) (.inl rfl)
theorem td198 : TDOK Tryz.prog 198 ⟨.func, 1, 8, [.nilf], none, none, false⟩ := tdok_of (info_of Tryz.type198) rfl ⟨_, _, _, Tryz.underlying198⟩ ⟨rfl, rfl, rfl⟩ rfl (.inl ⟨rfl, rfl⟩) (.inl rfl)
theorem td199 : TDOK Tryz.prog 199 ⟨.func, 1, 8, [.nilf], none, none, false⟩ := tdok_of (info_of Tryz.type199) rfl ⟨_, _, _, Tryz.underlying199⟩ ⟨rfl, rfl, rfl⟩ rfl (.inl ⟨rfl, rfl⟩) (.inl rfl)
theorem td200 : TDOK Tryz.prog 200 ⟨.func, 1, 8, [.nilf], none, none, false⟩ := tdok_of (info_of Tryz.type200) rfl ⟨_, _, _, Tryz.underlying200⟩ ⟨rfl, rfl, rfl⟩ rfl (.inl ⟨rfl, rfl⟩) (.inl rfl)
theorem td201 : TDOK Tryz.prog 201 ⟨.iface, 1, 16, [.nili], none, none, false⟩ := tdok_of (info_of Tryz.type201) rfl ⟨_, Tryz.underlying201⟩ ⟨rfl, rfl, rfl⟩ rfl (.inl ⟨rfl, rfl⟩) (.inl rfl)
theorem td203 : TDOK Tryz.prog 203 ⟨.func, 1, 8, [.nilf], none, none, false⟩ := tdok_of (info_of Tryz.type203) rfl ⟨_, _, _, Tryz.underlying203⟩ ⟨rfl, rfl, rfl⟩ rfl (.inl ⟨rfl, rfl⟩) (.inl rfl)
set_option maxRecDepth 20000 in
theorem td204 : TDOK Tryz.prog 204 ⟨.arr 256 5, 256, 256, [], none, some ((.int .u8), 256), false⟩ := tdok_of (info_of Tryz.type204) rfl Tryz.underlying204 ⟨rfl, rfl, rfl⟩ rfl (.inr ⟨_, _, rfl, rfl, by decide, by decide⟩) (.inl rfl)
theorem td205 : TDOK Tryz.prog 205 ⟨.struct [(0, 5), (1, 5)], 2, 2, [.i .u8 0, .i .u8 0], some (.pair (.int .u8) (.int .u8)), none, false⟩ := tdok_of (info_of Tryz.type205) rfl ⟨_, Tryz.underlying205, rfl⟩ ⟨rfl, rfl, rfl⟩ rfl (.inl ⟨rfl, rfl⟩) (.inr ⟨_, rfl, rfl, by decide, rfl⟩)
theorem td206 : TDOK Tryz.prog 206 ⟨.struct [(0, 5), (1, 5)], 2, 2, [.i .u8 0, .i .u8 0], some (.pair (.int .u8) (.int .u8)), none, false⟩ := tdok_of (info_of Tryz.type206) rfl ⟨_, Tryz.underlying206, rfl⟩ ⟨rfl, rfl, rfl⟩ rfl (.inl ⟨rfl, rfl⟩) (.inr ⟨_, rfl, rfl, by decide, rfl⟩)
theorem td207 : TDOK Tryz.prog 207 ⟨.arr 16 206, 32, 32, [.i .u8 0, .i .u8 0, .i .u8 0, .i .u8 0, .i .u8 0, .i .u8 0, .i .u8 0, .i .u8 0, .i .u8 0, .i .u8 0, .i .u8 0, .i .u8 0, .i .u8 0, .i .u8 0, .i .u8 0, .i .u8 0, .i .u8 0, .i .u8 0, .i .u8 0, .i .u8 0, .i .u8 0, .i .u8 0, .i .u8 0, .i .u8 0, .i .u8 0, .i .u8 0, .i .u8 0, .i .u8 0, .i .u8 0, .i .u8 0, .i .u8 0, .i .u8 0], some (.pair (.pair (.int .u8) (.int .u8)) (.pair (.pair (.int .u8) (.int .u8)) (.pair (.pair (.int .u8) (.int .u8)) (.pair (.pair (.int .u8) (.int .u8)) (.pair (.pair (.int .u8) (.int .u8)) (.pair (.pair (.int .u8) (.int .u8)) (.pair (.pair (.int .u8) (.int .u8)) (.pair (.pair (.int .u8) (.int .u8)) (.pair (.pair (.int .u8) (.int .u8)) (.pair (.pair (.int .u8) (.int .u8)) (.pair (.pair (.int .u8) (.int .u8)) (.pair (.pair (.int .u8) (.int .u8)) (.pair (.pair (.int .u8) (.int .u8)) (.pair (.pair (.int .u8) (.int .u8)) (.pair (.pair (.int .u8) (.int .u8)) (.pair (.int .u8) (.int .u8))))))))))))))))), none, false⟩ := tdok_of (info_of Tryz.type207) rfl Tryz.underlying207 ⟨rfl, rfl, rfl⟩ rfl (.inl ⟨rfl, rfl⟩) (.inr ⟨_, rfl, rfl, by decide, rfl⟩)
theorem td208 : TDOK Tryz.prog 208 ⟨.func, 1, 8, [.nilf], none, none, false⟩ := tdok_of (info_of Tryz.type208) rfl ⟨_, _, _, Tryz.underlying208⟩ ⟨rfl, rfl, rfl⟩ rfl (.inl ⟨rfl, rfl⟩) (.inl rfl)
theorem td209 : TDOK Tryz.prog 209 ⟨.func, 1, 8, [.nilf], none, none, false⟩ := tdok_of (info_of Tryz.type209) rfl ⟨_, _, _, Tryz.underlying209⟩ ⟨rfl, rfl, rfl⟩ rfl (.inl ⟨rfl, rfl⟩) (.inl rfl)
theorem td211 : TDOK Tryz.prog 211 ⟨.func, 1, 8, [.nilf], none, none, false⟩ := tdok_of (info_of Tryz.type211) rfl ⟨_, _, _, Tryz.underlying211⟩ ⟨rfl, rfl, rfl⟩ rfl (.inl ⟨rfl, rfl⟩) (.inl rfl)
set_option maxRecDepth 20000 in
theorem td212 : TDOK Tryz.prog 212 ⟨.arr 32 5, 32, 32, [], none, some ((.int .u8), 32), false⟩ := tdok_of (info_of Tryz.type212) rfl Tryz.underlying212 ⟨rfl, rfl, rfl⟩ rfl (.inr ⟨_, _, rfl, rfl, by decide, by decide⟩) (.inl rfl)
set_option maxRecDepth 20000 in
theorem td213 : TDOK Tryz.prog 213 ⟨.arr 64 5, 64, 64, [], none, some ((.int .u8), 64), false⟩ := tdok_of (info_of Tryz.type213) rfl Tryz.underlying213 ⟨rfl, rfl, rfl⟩ rfl (.inr ⟨_, _, rfl, rfl, by decide, by decide⟩) (.inl rfl)
theorem td215 : TDOK Tryz.prog 215 ⟨.func, 1, 8, [.nilf], none, none, false⟩ := tdok_of (info_of Tryz.type215) rfl ⟨_, _, _, Tryz.underlying215⟩ ⟨rfl, rfl, rfl⟩ rfl (.inl ⟨rfl, rfl⟩) (.inl rfl)
theorem td216 : TDOK Tryz.prog 216 ⟨.func, 1, 8, [.nilf], none, none, false⟩ := tdok_of (info_of Tryz.type216) rfl ⟨_, _, _, Tryz.underlying216⟩ ⟨rfl, rfl, rfl⟩ rfl (.inl ⟨rfl, rfl⟩) (.inl rfl)
theorem td218 : TDOK Tryz.prog 218 ⟨.func, 1, 8, [.nilf], none, none, false⟩ := tdok_of (info_of Tryz.type218) rfl ⟨_, _, _, Tryz.underlying218⟩ ⟨rfl, rfl, rfl⟩ rfl (.inl ⟨rfl, rfl⟩) (.inl rfl)
theorem td219 : TDOK Tryz.prog 219 ⟨.struct [(0, 17), (1, 17), (2, 17), (3, 9)], 4, 40, [.nilp, .nilp, .nilp, .s ByteArray.empty], none, none, false⟩ := tdok_of (info_of Tryz.type219) rfl ⟨_, Tryz.underlying219, rfl⟩ ⟨rfl, rfl, rfl⟩ rfl (.inl ⟨rfl, rfl⟩) (.inl rfl)
theorem td220 : TDOK Tryz.prog 220 ⟨.struct [(0, 17), (1, 17), (2, 17), (3, 9)], 4, 40, [.nilp, .nilp, .nilp, .s ByteArray.empty], none, none, false⟩ := tdok_of (info_of Tryz.type220) rfl ⟨_, Tryz.underlying220, rfl⟩ ⟨rfl, rfl, rfl⟩ rfl (.inl ⟨rfl, rfl⟩) (.inl rfl)
theorem td221 : TDOK Tryz.prog 221 ⟨.arr 0 16, 0, 0, [], none, none, false⟩ := tdok_of (info_of Tryz.type221) rfl Tryz.underlying221 ⟨rfl, rfl, rfl⟩ rfl (.inl ⟨rfl, rfl⟩) (.inl rfl)
theorem td222 : TDOK Tryz.prog 222 ⟨.struct [(0, 221)], 0, 0, [], none, none, false⟩ := tdok_of (info_of Tryz.type222) rfl ⟨_, Tryz.underlying222, rfl⟩ ⟨rfl, rfl, rfl⟩ rfl (.inl ⟨rfl, rfl⟩) (.inl rfl)
theorem td223 : TDOK Tryz.prog 223 ⟨.struct [(0, 221)], 0, 0, [], none, none, false⟩ := tdok_of (info_of Tryz.type223) rfl ⟨_, Tryz.underlying223, rfl⟩ ⟨rfl, rfl, rfl⟩ rfl (.inl ⟨rfl, rfl⟩) (.inl rfl)
theorem td224 : TDOK Tryz.prog 224 ⟨.func, 1, 8, [.nilf], none, none, false⟩ := tdok_of (info_of Tryz.type224) rfl ⟨_, _, _, Tryz.underlying224⟩ ⟨rfl, rfl, rfl⟩ rfl (.inl ⟨rfl, rfl⟩) (.inl rfl)
theorem td225 : TDOK Tryz.prog 225 ⟨.int .u8, 1, 1, [.i .u8 0], some (.int .u8), none, false⟩ := tdok_of (info_of Tryz.type225) rfl Tryz.underlying225 ⟨rfl, rfl, rfl⟩ rfl (.inl ⟨rfl, rfl⟩) (.inr ⟨_, rfl, rfl, by decide, rfl⟩)
theorem td226 : TDOK Tryz.prog 226 ⟨.func, 1, 8, [.nilf], none, none, false⟩ := tdok_of (info_of Tryz.type226) rfl ⟨_, _, _, Tryz.underlying226⟩ ⟨rfl, rfl, rfl⟩ rfl (.inl ⟨rfl, rfl⟩) (.inl rfl)
theorem td227 : TDOK Tryz.prog 227 ⟨.int .i32, 1, 4, [.i .i32 0], some (.int .i32), none, false⟩ := tdok_of (info_of Tryz.type227) rfl Tryz.underlying227 ⟨rfl, rfl, rfl⟩ rfl (.inl ⟨rfl, rfl⟩) (.inr ⟨_, rfl, rfl, by decide, rfl⟩)
theorem td228 : TDOK Tryz.prog 228 ⟨.int .i32, 1, 4, [.i .i32 0], some (.int .i32), none, false⟩ := tdok_of (info_of Tryz.type228) rfl Tryz.underlying228 ⟨rfl, rfl, rfl⟩ rfl (.inl ⟨rfl, rfl⟩) (.inr ⟨_, rfl, rfl, by decide, rfl⟩)
theorem td229 : TDOK Tryz.prog 229 ⟨.struct [(0, 12), (1, 12), (2, 181), (3, 225), (4, 5), (5, 5), (6, 174), (7, 226), (8, 101), (9, 227), (10, 228)], 11, 48, [.i .u64 0, .i .u64 0, .i .u32 0, .i .u8 0, .i .u8 0, .i .u8 0, .i .u8 0, .nilf, .nilp, .i .i32 0, .i .i32 0], none, none, false⟩ := tdok_of (info_of Tryz.type229) rfl ⟨_, Tryz.underlying229, rfl⟩ ⟨rfl, rfl, rfl⟩ rfl (.inl ⟨rfl, rfl⟩) (.inl rfl)
theorem td230 : TDOK Tryz.prog 230 ⟨.struct [(0, 12), (1, 12), (2, 181), (3, 225), (4, 5), (5, 5), (6, 174), (7, 226), (8, 101), (9, 227), (10, 228)], 11, 48, [.i .u64 0, .i .u64 0, .i .u32 0, .i .u8 0, .i .u8 0, .i .u8 0, .i .u8 0, .nilf, .nilp, .i .i32 0, .i .i32 0], none, none, false⟩ := tdok_of (info_of Tryz.type230) rfl ⟨_, Tryz.underlying230, rfl⟩ ⟨rfl, rfl, rfl⟩ rfl (.inl ⟨rfl, rfl⟩) (.inl rfl)
theorem td231 : TDOK Tryz.prog 231 ⟨.func, 1, 8, [.nilf], none, none, false⟩ := tdok_of (info_of Tryz.type231) rfl ⟨_, _, _, Tryz.underlying231⟩ ⟨rfl, rfl, rfl⟩ rfl (.inl ⟨rfl, rfl⟩) (.inl rfl)
theorem td232 : TDOK Tryz.prog 232 ⟨.func, 1, 8, [.nilf], none, none, false⟩ := tdok_of (info_of Tryz.type232) rfl ⟨_, _, _, Tryz.underlying232⟩ ⟨rfl, rfl, rfl⟩ rfl (.inl ⟨rfl, rfl⟩) (.inl rfl)
theorem td233 : TDOK Tryz.prog 233 ⟨.struct [(0, 9), (1, 174)], 2, 24, [.s ByteArray.empty, .i .u8 0], some (.pair .str (.int .u8)), none, false⟩ := tdok_of (info_of Tryz.type233) rfl ⟨_, Tryz.underlying233, rfl⟩ ⟨rfl, rfl, rfl⟩ rfl (.inl ⟨rfl, rfl⟩) (.inr ⟨_, rfl, rfl, by decide, rfl⟩)
theorem td234 : TDOK Tryz.prog 234 ⟨.struct [(0, 9), (1, 174)], 2, 24, [.s ByteArray.empty, .i .u8 0], some (.pair .str (.int .u8)), none, false⟩ := tdok_of (info_of Tryz.type234) rfl ⟨_, Tryz.underlying234, rfl⟩ ⟨rfl, rfl, rfl⟩ rfl (.inl ⟨rfl, rfl⟩) (.inr ⟨_, rfl, rfl, by decide, rfl⟩)
theorem td235 : TDOK Tryz.prog 235 ⟨.ptr 239, 1, 8, [.nilp], none, none, false⟩ := tdok_of (info_of Tryz.type235) rfl Tryz.underlying235 ⟨rfl, rfl, rfl⟩ rfl (.inl ⟨rfl, rfl⟩) (.inl rfl)
theorem td236 : TDOK Tryz.prog 236 ⟨.func, 1, 8, [.nilf], none, none, false⟩ := tdok_of (info_of Tryz.type236) rfl ⟨_, _, _, Tryz.underlying236⟩ ⟨rfl, rfl, rfl⟩ rfl (.inl ⟨rfl, rfl⟩) (.inl rfl)
theorem td237 : TDOK Tryz.prog 237 ⟨.int .u16, 1, 2, [.i .u16 0], some (.int .u16), none, false⟩ := tdok_of (info_of Tryz.type237) rfl Tryz.underlying237 ⟨rfl, rfl, rfl⟩ rfl (.inl ⟨rfl, rfl⟩) (.inr ⟨_, rfl, rfl, by decide, rfl⟩)
theorem td238 : TDOK Tryz.prog 238 ⟨.struct [(0, 227), (1, 237), (2, 237), (3, 181), (4, 181)], 5, 16, [.i .i32 0, .i .u16 0, .i .u16 0, .i .u32 0, .i .u32 0], some (.pair (.int .i32) (.pair (.int .u16) (.pair (.int .u16) (.pair (.int .u32) (.int .u32))))), none, false⟩ := tdok_of (info_of Tryz.type238) rfl ⟨_, Tryz.underlying238, rfl⟩ ⟨rfl, rfl, rfl⟩ rfl (.inl ⟨rfl, rfl⟩) (.inr ⟨_, rfl, rfl, by decide, rfl⟩)
theorem td239 : TDOK Tryz.prog 239 ⟨.struct [(0, 227), (1, 237), (2, 237), (3, 181), (4, 181)], 5, 16, [.i .i32 0, .i .u16 0, .i .u16 0, .i .u32 0, .i .u32 0], some (.pair (.int .i32) (.pair (.int .u16) (.pair (.int .u16) (.pair (.int .u32) (.int .u32))))), none, false⟩ := tdok_of (info_of Tryz.type239) rfl ⟨_, Tryz.underlying239, rfl⟩ ⟨rfl, rfl, rfl⟩ rfl (.inl ⟨rfl, rfl⟩) (.inr ⟨_, rfl, rfl, by decide, rfl⟩)
theorem td240 : TDOK Tryz.prog 240 ⟨.slice 243, 1, 24, [.nils], none, none, false⟩ := tdok_of (info_of Tryz.type240) rfl Tryz.underlying240 ⟨rfl, rfl, rfl⟩ rfl (.inl ⟨rfl, rfl⟩) (.inl rfl)
theorem td241 : TDOK Tryz.prog 241 ⟨.int .i32, 1, 4, [.i .i32 0], some (.int .i32), none, false⟩ := tdok_of (info_of Tryz.type241) rfl Tryz.underlying241 ⟨rfl, rfl, rfl⟩ rfl (.inl ⟨rfl, rfl⟩) (.inr ⟨_, rfl, rfl, by decide, rfl⟩)
theorem td242 : TDOK Tryz.prog 242 ⟨.struct [(0, 227), (1, 228), (2, 241), (3, 241)], 4, 16, [.i .i32 0, .i .i32 0, .i .i32 0, .i .i32 0], some (.pair (.int .i32) (.pair (.int .i32) (.pair (.int .i32) (.int .i32)))), none, false⟩ := tdok_of (info_of Tryz.type242) rfl ⟨_, Tryz.underlying242, rfl⟩ ⟨rfl, rfl, rfl⟩ rfl (.inl ⟨rfl, rfl⟩) (.inr ⟨_, rfl, rfl, by decide, rfl⟩)
theorem td243 : TDOK Tryz.prog 243 ⟨.struct [(0, 227), (1, 228), (2, 241), (3, 241)], 4, 16, [.i .i32 0, .i .i32 0, .i .i32 0, .i .i32 0], some (.pair (.int .i32) (.pair (.int .i32) (.pair (.int .i32) (.int .i32)))), none, false⟩ := tdok_of (info_of Tryz.type243) rfl ⟨_, Tryz.underlying243, rfl⟩ ⟨rfl, rfl, rfl⟩ rfl (.inl ⟨rfl, rfl⟩) (.inr ⟨_, rfl, rfl, by decide, rfl⟩)
theorem td244 : TDOK Tryz.prog 244 ⟨.ptr 55, 1, 8, [.nilp], none, none, false⟩ := tdok_of (info_of Tryz.type244) rfl Tryz.underlying244 ⟨rfl, rfl, rfl⟩ rfl (.inl ⟨rfl, rfl⟩) (.inl rfl)
def tds : List (Nat × TD) := [
  (1, ⟨.func, 1, 8, [.nilf], none, none, false⟩),
  (2, ⟨.int .i64, 1, 8, [.i .i64 0], some (.int .i64), none, false⟩),
  (3, ⟨.int .i64, 1, 8, [.i .i64 0], some (.int .i64), none, false⟩),
  (4, ⟨.bool, 1, 1, [.b false], some .bool, none, false⟩),
  (5, ⟨.int .u8, 1, 1, [.i .u8 0], some (.int .u8), none, false⟩),
  (6, ⟨.int .u8, 1, 1, [.i .u8 0], some (.int .u8), none, false⟩),
  (7, ⟨.struct [(0, 2), (1, 3), (2, 4), (3, 6)], 4, 24, [.i .i64 0, .i .i64 0, .b false, .i .u8 0], some (.pair (.int .i64) (.pair (.int .i64) (.pair .bool (.int .u8)))), none, false⟩),
  (8, ⟨.struct [(0, 2), (1, 3), (2, 4), (3, 6)], 4, 24, [.i .i64 0, .i .i64 0, .b false, .i .u8 0], some (.pair (.int .i64) (.pair (.int .i64) (.pair .bool (.int .u8)))), none, false⟩),
  (9, ⟨.str, 1, 16, [.s ByteArray.empty], some .str, none, false⟩),
  (10, ⟨.str, 1, 16, [.s ByteArray.empty], some .str, none, false⟩),
  (11, ⟨.str, 1, 16, [.s ByteArray.empty], some .str, none, false⟩),
  (12, ⟨.int .u64, 1, 8, [.i .u64 0], some (.int .u64), none, false⟩),
  (13, ⟨.struct [(0, 9), (1, 12)], 2, 24, [.s ByteArray.empty, .i .u64 0], some (.pair .str (.int .u64)), none, false⟩),
  (14, ⟨.struct [(0, 9), (1, 12)], 2, 24, [.s ByteArray.empty, .i .u64 0], some (.pair .str (.int .u64)), none, false⟩),
  (15, ⟨.ptr 220, 1, 8, [.nilp], none, none, false⟩),
  (16, ⟨.ptr 223, 1, 8, [.nilp], none, none, false⟩),
  (17, ⟨.ptr 230, 1, 8, [.nilp], none, none, false⟩),
  (18, ⟨.struct [(0, 17)], 1, 8, [.nilp], none, none, false⟩),
  (19, ⟨.struct [(0, 17)], 1, 8, [.nilp], none, none, false⟩),
  (20, ⟨.iface, 1, 16, [.nili], none, none, false⟩),
  (21, ⟨.int .i32, 1, 4, [.i .i32 0], some (.int .i32), none, false⟩),
  (22, ⟨.struct [(0, 9), (1, 3), (2, 3), (3, 3)], 4, 40, [.s ByteArray.empty, .i .i64 0, .i .i64 0, .i .i64 0], some (.pair .str (.pair (.int .i64) (.pair (.int .i64) (.int .i64)))), none, false⟩),
  (23, ⟨.struct [(0, 9), (1, 3), (2, 3), (3, 3)], 4, 40, [.s ByteArray.empty, .i .i64 0, .i .i64 0, .i .i64 0], some (.pair .str (.pair (.int .i64) (.pair (.int .i64) (.int .i64)))), none, true⟩),
  (24, ⟨.slice 66, 1, 24, [.nils], none, none, false⟩),
  (25, ⟨.struct [(0, 3), (1, 23), (5, 24), (6, 3)], 7, 80, [.i .i64 0, .s ByteArray.empty, .i .i64 0, .i .i64 0, .i .i64 0, .nils, .i .i64 0], none, none, false⟩),
  (26, ⟨.struct [(0, 3), (1, 23), (5, 24), (6, 3)], 7, 80, [.i .i64 0, .s ByteArray.empty, .i .i64 0, .i .i64 0, .i .i64 0, .nils, .i .i64 0], none, none, false⟩),
  (27, ⟨.func, 1, 8, [.nilf], none, none, false⟩),
  (28, ⟨.func, 1, 8, [.nilf], none, none, false⟩),
  (29, ⟨.struct [(0, 3), (1, 23), (5, 24), (6, 3)], 7, 80, [.i .i64 0, .s ByteArray.empty, .i .i64 0, .i .i64 0, .i .i64 0, .nils, .i .i64 0], none, none, false⟩),
  (30, ⟨.func, 1, 8, [.nilf], none, none, false⟩),
  (31, ⟨.func, 1, 8, [.nilf], none, none, false⟩),
  (32, ⟨.func, 1, 8, [.nilf], none, none, false⟩),
  (33, ⟨.int .i64, 1, 8, [.i .i64 0], some (.int .i64), none, false⟩),
  (35, ⟨.func, 1, 8, [.nilf], none, none, false⟩),
  (36, ⟨.func, 1, 8, [.nilf], none, none, false⟩),
  (37, ⟨.func, 1, 8, [.nilf], none, none, false⟩),
  (38, ⟨.slice 9, 1, 24, [.nils], none, none, false⟩),
  (39, ⟨.func, 1, 8, [.nilf], none, none, false⟩),
  (40, ⟨.func, 1, 8, [.nilf], none, none, false⟩),
  (41, ⟨.func, 1, 8, [.nilf], none, none, false⟩),
  (42, ⟨.func, 1, 8, [.nilf], none, none, false⟩),
  (43, ⟨.func, 1, 8, [.nilf], none, none, false⟩),
  (45, ⟨.func, 1, 8, [.nilf], none, none, false⟩),
  (46, ⟨.func, 1, 8, [.nilf], none, none, false⟩),
  (47, ⟨.map 9 3, 1, 8, [.any], none, none, false⟩),
  (48, ⟨.func, 1, 8, [.nilf], none, none, false⟩),
  (49, ⟨.func, 1, 8, [.nilf], none, none, false⟩),
  (51, ⟨.func, 1, 8, [.nilf], none, none, false⟩),
  (52, ⟨.func, 1, 8, [.nilf], none, none, false⟩),
  (54, ⟨.iface, 1, 16, [.nili], none, none, false⟩),
  (55, ⟨.iface, 1, 16, [.nili], none, none, false⟩),
  (57, ⟨.func, 1, 8, [.nilf], none, none, false⟩),
  (59, ⟨.func, 1, 8, [.nilf], none, none, false⟩),
  (60, ⟨.func, 1, 8, [.nilf], none, none, false⟩),
  (61, ⟨.func, 1, 8, [.nilf], none, none, false⟩),
  (62, ⟨.func, 1, 8, [.nilf], none, none, false⟩),
  (63, ⟨.func, 1, 8, [.nilf], none, none, false⟩),
  (64, ⟨.func, 1, 8, [.nilf], none, none, false⟩),
  (65, ⟨.struct [(0, 3), (1, 3)], 2, 16, [.i .i64 0, .i .i64 0], some (.pair (.int .i64) (.int .i64)), none, false⟩),
  (66, ⟨.struct [(0, 3), (1, 3)], 2, 16, [.i .i64 0, .i .i64 0], some (.pair (.int .i64) (.int .i64)), none, true⟩),
  (67, ⟨.func, 1, 8, [.nilf], none, none, false⟩),
  (68, ⟨.func, 1, 8, [.nilf], none, none, false⟩),
  (69, ⟨.func, 1, 8, [.nilf], none, none, false⟩),
  (70, ⟨.func, 1, 8, [.nilf], none, none, false⟩),
  (71, ⟨.func, 1, 8, [.nilf], none, none, false⟩),
  (72, ⟨.slice 5, 1, 24, [.nils], none, none, false⟩),
  (73, ⟨.ptr 75, 1, 8, [.nilp], none, none, false⟩),
  (74, ⟨.struct [(0, 73), (1, 72)], 2, 32, [.nilp, .nils], none, none, false⟩),
  (75, ⟨.struct [(0, 73), (1, 72)], 2, 32, [.nilp, .nils], none, none, false⟩),
  (76, ⟨.func, 1, 8, [.nilf], none, none, false⟩),
  (77, ⟨.func, 1, 8, [.nilf], none, none, false⟩),
  (78, ⟨.func, 1, 8, [.nilf], none, none, false⟩),
  (79, ⟨.func, 1, 8, [.nilf], none, none, false⟩),
  (80, ⟨.func, 1, 8, [.nilf], none, none, false⟩),
  (81, ⟨.func, 1, 8, [.nilf], none, none, false⟩),
  (82, ⟨.func, 1, 8, [.nilf], none, none, false⟩),
  (83, ⟨.func, 1, 8, [.nilf], none, none, false⟩),
  (84, ⟨.func, 1, 8, [.nilf], none, none, false⟩),
  (86, ⟨.func, 1, 8, [.nilf], none, none, false⟩),
  (87, ⟨.func, 1, 8, [.nilf], none, none, false⟩),
  (89, ⟨.func, 1, 8, [.nilf], none, none, false⟩),
  (90, ⟨.func, 1, 8, [.nilf], none, none, false⟩),
  (91, ⟨.func, 1, 8, [.nilf], none, none, false⟩),
  (92, ⟨.func, 1, 8, [.nilf], none, none, false⟩),
  (93, ⟨.arr 2 3, 2, 16, [.i .i64 0, .i .i64 0], some (.pair (.int .i64) (.int .i64)), none, false⟩),
  (94, ⟨.func, 1, 8, [.nilf], none, none, false⟩),
  (95, ⟨.func, 1, 8, [.nilf], none, none, false⟩),
  (96, ⟨.arr 256 3, 256, 2048, [], none, some ((.int .i64), 256), false⟩),
  (97, ⟨.func, 1, 8, [.nilf], none, none, false⟩),
  (98, ⟨.func, 1, 8, [.nilf], none, none, false⟩),
  (99, ⟨.func, 1, 8, [.nilf], none, none, false⟩),
  (100, ⟨.func, 1, 8, [.nilf], none, none, false⟩),
  (101, ⟨.ptr 5, 1, 8, [.nilp], none, none, false⟩),
  (102, ⟨.slice 3, 1, 24, [.nils], none, none, false⟩),
  (103, ⟨.func, 1, 8, [.nilf], none, none, false⟩),
  (104, ⟨.func, 1, 8, [.nilf], none, none, false⟩),
  (105, ⟨.func, 1, 8, [.nilf], none, none, false⟩),
  (106, ⟨.arr 256 4, 256, 256, [], none, some (.bool, 256), false⟩),
  (107, ⟨.arr 256 4, 256, 256, [], none, some (.bool, 256), false⟩),
  (109, ⟨.func, 1, 8, [.nilf], none, none, false⟩),
  (110, ⟨.int .i64, 1, 8, [.i .i64 0], some (.int .i64), none, false⟩),
  (112, ⟨.func, 1, 8, [.nilf], none, none, false⟩),
  (113, ⟨.ptr 156, 1, 8, [.nilp], none, none, false⟩),
  (114, ⟨.func, 1, 8, [.nilf], none, none, false⟩),
  (115, ⟨.func, 1, 8, [.nilf], none, none, false⟩),
  (117, ⟨.func, 1, 8, [.nilf], none, none, false⟩),
  (118, ⟨.func, 1, 8, [.nilf], none, none, false⟩),
  (119, ⟨.struct [], 0, 0, [], none, none, false⟩),
  (120, ⟨.struct [], 0, 0, [], none, none, false⟩),
  (122, ⟨.func, 1, 8, [.nilf], none, none, false⟩),
  (123, ⟨.int .i64, 1, 8, [.i .i64 0], some (.int .i64), none, false⟩),
  (124, ⟨.func, 1, 8, [.nilf], none, none, false⟩),
  (125, ⟨.ptr 123, 1, 8, [.nilp], none, none, false⟩),
  (126, ⟨.func, 1, 8, [.nilf], none, none, false⟩),
  (127, ⟨.func, 1, 8, [.nilf], none, none, false⟩),
  (129, ⟨.func, 1, 8, [.nilf], none, none, false⟩),
  (130, ⟨.arr 24 5, 24, 24, [], none, some ((.int .u8), 24), false⟩),
  (131, ⟨.int .u64, 1, 8, [.i .u64 0], some (.int .u64), none, false⟩),
  (132, ⟨.func, 1, 8, [.nilf], none, none, false⟩),
  (133, ⟨.func, 1, 8, [.nilf], none, none, false⟩),
  (135, ⟨.func, 1, 8, [.nilf], none, none, false⟩),
  (136, ⟨.func, 1, 8, [.nilf], none, none, false⟩),
  (137, ⟨.func, 1, 8, [.nilf], none, none, false⟩),
  (138, ⟨.struct [(0, 3), (1, 3)], 2, 16, [.i .i64 0, .i .i64 0], some (.pair (.int .i64) (.int .i64)), none, false⟩),
  (139, ⟨.struct [(0, 3), (1, 3)], 2, 16, [.i .i64 0, .i .i64 0], some (.pair (.int .i64) (.int .i64)), none, true⟩),
  (141, ⟨.func, 1, 8, [.nilf], none, none, false⟩),
  (142, ⟨.func, 1, 8, [.nilf], none, none, false⟩),
  (143, ⟨.arr 4 142, 4, 32, [.nilf, .nilf, .nilf, .nilf], none, none, false⟩),
  (145, ⟨.func, 1, 8, [.nilf], none, none, false⟩),
  (146, ⟨.func, 1, 8, [.nilf], none, none, false⟩),
  (147, ⟨.func, 1, 8, [.nilf], none, none, false⟩),
  (148, ⟨.func, 1, 8, [.nilf], none, none, false⟩),
  (149, ⟨.func, 1, 8, [.nilf], none, none, false⟩),
  (150, ⟨.int .u64, 1, 8, [.i .u64 0], some (.int .u64), none, false⟩),
  (151, ⟨.ptr 107, 1, 8, [.nilp], none, none, false⟩),
  (153, ⟨.func, 1, 8, [.nilf], none, none, false⟩),
  (154, ⟨.func, 1, 8, [.nilf], none, none, false⟩),
  (155, ⟨.struct [(0, 9), (1, 9), (2, 55)], 3, 48, [.s ByteArray.empty, .s ByteArray.empty, .nili], none, none, false⟩),
  (156, ⟨.struct [(0, 9), (1, 9), (2, 55)], 3, 48, [.s ByteArray.empty, .s ByteArray.empty, .nili], none, none, false⟩),
  (157, ⟨.func, 1, 8, [.nilf], none, none, false⟩),
  (158, ⟨.struct [(0, 9), (1, 55)], 2, 32, [.s ByteArray.empty, .nili], none, none, false⟩),
  (159, ⟨.struct [(0, 9), (1, 55)], 2, 32, [.s ByteArray.empty, .nili], none, none, false⟩),
  (160, ⟨.func, 1, 8, [.nilf], none, none, false⟩),
  (161, ⟨.iface, 1, 16, [.nili], none, none, false⟩),
  (162, ⟨.iface, 1, 16, [.nili], none, none, false⟩),
  (163, ⟨.func, 1, 8, [.nilf], none, none, false⟩),
  (164, ⟨.func, 1, 8, [.nilf], none, none, false⟩),
  (165, ⟨.func, 1, 8, [.nilf], none, none, false⟩),
  (166, ⟨.struct [(0, 3), (1, 55)], 2, 24, [.i .i64 0, .nili], none, none, false⟩),
  (167, ⟨.struct [(0, 3), (1, 55)], 2, 24, [.i .i64 0, .nili], none, none, false⟩),
  (168, ⟨.func, 1, 8, [.nilf], none, none, false⟩),
  (169, ⟨.int .u64, 1, 8, [.i .u64 0], some (.int .u64), none, false⟩),
  (170, ⟨.struct [(0, 17), (1, 144), (2, 169)], 3, 24, [.nilp, .nilp, .i .u64 0], none, none, false⟩),
  (171, ⟨.struct [(0, 17), (1, 144), (2, 169)], 3, 24, [.nilp, .nilp, .i .u64 0], none, none, false⟩),
  (172, ⟨.func, 1, 8, [.nilf], none, none, false⟩),
  (173, ⟨.func, 1, 8, [.nilf], none, none, false⟩),
  (174, ⟨.int .u8, 1, 1, [.i .u8 0], some (.int .u8), none, false⟩),
  (175, ⟨.func, 1, 8, [.nilf], none, none, false⟩),
  (176, ⟨.func, 1, 8, [.nilf], none, none, false⟩),
  (177, ⟨.func, 1, 8, [.nilf], none, none, false⟩),
  (178, ⟨.func, 1, 8, [.nilf], none, none, false⟩),
  (179, ⟨.func, 1, 8, [.nilf], none, none, false⟩),
  (180, ⟨.arr 20 131, 20, 160, [], none, some ((.int .u64), 20), false⟩),
  (181, ⟨.int .u32, 1, 4, [.i .u32 0], some (.int .u32), none, false⟩),
  (182, ⟨.arr 65 5, 65, 65, [], none, some ((.int .u8), 65), false⟩),
  (183, ⟨.func, 1, 8, [.nilf], none, none, false⟩),
  (184, ⟨.func, 1, 8, [.nilf], none, none, false⟩),
  (185, ⟨.ptr 187, 1, 8, [.nilp], none, none, false⟩),
  (186, ⟨.struct [(0, 9)], 1, 16, [.s ByteArray.empty], some .str, none, false⟩),
  (187, ⟨.struct [(0, 9)], 1, 16, [.s ByteArray.empty], some .str, none, false⟩),
  (188, ⟨.struct [(0, 17)], 1, 8, [.nilp], none, none, false⟩),
  (189, ⟨.struct [(0, 17)], 1, 8, [.nilp], none, none, false⟩),
  (190, ⟨.ptr 234, 1, 8, [.nilp], none, none, false⟩),
  (191, ⟨.iface, 1, 16, [.nili], none, none, false⟩),
  (193, ⟨.func, 1, 8, [.nilf], none, none, false⟩),
  (194, ⟨.iface, 1, 16, [.nili], none, none, false⟩),
  (195, ⟨.func, 1, 8, [.nilf], none, none, false⟩),
  (196, ⟨.iface, 1, 16, [.nili], none, none, false⟩),
  (197, ⟨.slice 55, 1, 24, [.nils], none, none, false⟩),
  (198, ⟨.func, 1, 8, [.nilf], none, none, false⟩),
  (199, ⟨.func, 1, 8, [.nilf], none, none, false⟩),
  (200, ⟨.func, 1, 8, [.nilf], none, none, false⟩),
  (201, ⟨.iface, 1, 16, [.nili], none, none, false⟩),
  (203, ⟨.func, 1, 8, [.nilf], none, none, false⟩),
  (204, ⟨.arr 256 5, 256, 256, [], none, some ((.int .u8), 256), false⟩),
  (205, ⟨.struct [(0, 5), (1, 5)], 2, 2, [.i .u8 0, .i .u8 0], some (.pair (.int .u8) (.int .u8)), none, false⟩),
  (206, ⟨.struct [(0, 5), (1, 5)], 2, 2, [.i .u8 0, .i .u8 0], some (.pair (.int .u8) (.int .u8)), none, false⟩),
  (207, ⟨.arr 16 206, 32, 32, [.i .u8 0, .i .u8 0, .i .u8 0, .i .u8 0, .i .u8 0, .i .u8 0, .i .u8 0, .i .u8 0, .i .u8 0, .i .u8 0, .i .u8 0, .i .u8 0, .i .u8 0, .i .u8 0, .i .u8 0, .i .u8 0, .i .u8 0, .i .u8 0, .i .u8 0, .i .u8 0, .i .u8 0, .i .u8 0, .i .u8 0, .i .u8 0, .i .u8 0, .i .u8 0, .i .u8 0, .i .u8 0, .i .u8 0, .i .u8 0, .i .u8 0, .i .u8 0], some (.pair (.pair (.int .u8) (.int .u8)) (.pair (.pair (.int .u8) (.int .u8)) (.pair (.pair (.int .u8) (.int .u8)) (.pair (.pair (.int .u8) (.int .u8)) (.pair (.pair (.int .u8) (.int .u8)) (.pair (.pair (.int .u8) (.int .u8)) (.pair (.pair (.int .u8) (.int .u8)) (.pair (.pair (.int .u8) (.int .u8)) (.pair (.pair (.int .u8) (.int .u8)) (.pair (.pair (.int .u8) (.int .u8)) (.pair (.pair (.int .u8) (.int .u8)) (.pair (.pair (.int .u8) (.int .u8)) (.pair (.pair (.int .u8) (.int .u8)) (.pair (.pair (.int .u8) (.int .u8)) (.pair (.pair (.int .u8) (.int .u8)) (.pair (.int .u8) (.int .u8))))))))))))))))), none, false⟩),
  (208, ⟨.func, 1, 8, [.nilf], none, none, false⟩),
  (209, ⟨.func, 1, 8, [.nilf], none, none, false⟩),
  (211, ⟨.func, 1, 8, [.nilf], none, none, false⟩),
  (212, ⟨.arr 32 5, 32, 32, [], none, some ((.int .u8), 32), false⟩),
  (213, ⟨.arr 64 5, 64, 64, [], none, some ((.int .u8), 64), false⟩),
  (215, ⟨.func, 1, 8, [.nilf], none, none, false⟩),
  (216, ⟨.func, 1, 8, [.nilf], none, none, false⟩),
  (218, ⟨.func, 1, 8, [.nilf], none, none, false⟩),
  (219, ⟨.struct [(0, 17), (1, 17), (2, 17), (3, 9)], 4, 40, [.nilp, .nilp, .nilp, .s ByteArray.empty], none, none, false⟩),
  (220, ⟨.struct [(0, 17), (1, 17), (2, 17), (3, 9)], 4, 40, [.nilp, .nilp, .nilp, .s ByteArray.empty], none, none, false⟩),
  (221, ⟨.arr 0 16, 0, 0, [], none, none, false⟩),
  (222, ⟨.struct [(0, 221)], 0, 0, [], none, none, false⟩),
  (223, ⟨.struct [(0, 221)], 0, 0, [], none, none, false⟩),
  (224, ⟨.func, 1, 8, [.nilf], none, none, false⟩),
  (225, ⟨.int .u8, 1, 1, [.i .u8 0], some (.int .u8), none, false⟩),
  (226, ⟨.func, 1, 8, [.nilf], none, none, false⟩),
  (227, ⟨.int .i32, 1, 4, [.i .i32 0], some (.int .i32), none, false⟩),
  (228, ⟨.int .i32, 1, 4, [.i .i32 0], some (.int .i32), none, false⟩),
  (229, ⟨.struct [(0, 12), (1, 12), (2, 181), (3, 225), (4, 5), (5, 5), (6, 174), (7, 226), (8, 101), (9, 227), (10, 228)], 11, 48, [.i .u64 0, .i .u64 0, .i .u32 0, .i .u8 0, .i .u8 0, .i .u8 0, .i .u8 0, .nilf, .nilp, .i .i32 0, .i .i32 0], none, none, false⟩),
  (230, ⟨.struct [(0, 12), (1, 12), (2, 181), (3, 225), (4, 5), (5, 5), (6, 174), (7, 226), (8, 101), (9, 227), (10, 228)], 11, 48, [.i .u64 0, .i .u64 0, .i .u32 0, .i .u8 0, .i .u8 0, .i .u8 0, .i .u8 0, .nilf, .nilp, .i .i32 0, .i .i32 0], none, none, false⟩),
  (231, ⟨.func, 1, 8, [.nilf], none, none, false⟩),
  (232, ⟨.func, 1, 8, [.nilf], none, none, false⟩),
  (233, ⟨.struct [(0, 9), (1, 174)], 2, 24, [.s ByteArray.empty, .i .u8 0], some (.pair .str (.int .u8)), none, false⟩),
  (234, ⟨.struct [(0, 9), (1, 174)], 2, 24, [.s ByteArray.empty, .i .u8 0], some (.pair .str (.int .u8)), none, false⟩),
  (235, ⟨.ptr 239, 1, 8, [.nilp], none, none, false⟩),
  (236, ⟨.func, 1, 8, [.nilf], none, none, false⟩),
  (237, ⟨.int .u16, 1, 2, [.i .u16 0], some (.int .u16), none, false⟩),
  (238, ⟨.struct [(0, 227), (1, 237), (2, 237), (3, 181), (4, 181)], 5, 16, [.i .i32 0, .i .u16 0, .i .u16 0, .i .u32 0, .i .u32 0], some (.pair (.int .i32) (.pair (.int .u16) (.pair (.int .u16) (.pair (.int .u32) (.int .u32))))), none, false⟩),
  (239, ⟨.struct [(0, 227), (1, 237), (2, 237), (3, 181), (4, 181)], 5, 16, [.i .i32 0, .i .u16 0, .i .u16 0, .i .u32 0, .i .u32 0], some (.pair (.int .i32) (.pair (.int .u16) (.pair (.int .u16) (.pair (.int .u32) (.int .u32))))), none, false⟩),
  (240, ⟨.slice 243, 1, 24, [.nils], none, none, false⟩),
  (241, ⟨.int .i32, 1, 4, [.i .i32 0], some (.int .i32), none, false⟩),
  (242, ⟨.struct [(0, 227), (1, 228), (2, 241), (3, 241)], 4, 16, [.i .i32 0, .i .i32 0, .i .i32 0, .i .i32 0], some (.pair (.int .i32) (.pair (.int .i32) (.pair (.int .i32) (.int .i32)))), none, false⟩),
  (243, ⟨.struct [(0, 227), (1, 228), (2, 241), (3, 241)], 4, 16, [.i .i32 0, .i .i32 0, .i .i32 0, .i .i32 0], some (.pair (.int .i32) (.pair (.int .i32) (.pair (.int .i32) (.int .i32)))), none, false⟩),
  (244, ⟨.ptr 55, 1, 8, [.nilp], none, none, false⟩)]
abbrev TT : TypeId → Option TD := tabT tds
theorem tabT_nil {P : Program} : TTOK P (tabT []) := fun t d h => by cases h
theorem tabT_cons {P : Program} {n : Nat} {d : TD} {l : List (Nat × TD)} (h : TDOK P n d) (hl : TTOK P (tabT l)) : TTOK P (tabT ((n, d) :: l)) := by
  intro t d' h'
  simp only [tabT] at h'
  split at h'
  · rename_i hb
    cases h'
    have := Nat.eq_of_beq_eq_true hb
    subst this; exact h
  · exact hl t d' h'
set_option maxRecDepth 20000 in
theorem tt_ok : TTOK Tryz.prog TT := tabT_cons td1
  (tabT_cons td2
  (tabT_cons td3
  (tabT_cons td4
  (tabT_cons td5
  (tabT_cons td6
  (tabT_cons td7
  (tabT_cons td8
  (tabT_cons td9
  (tabT_cons td10
  (tabT_cons td11
  (tabT_cons td12
  (tabT_cons td13
  (tabT_cons td14
  (tabT_cons td15
  (tabT_cons td16
  (tabT_cons td17
  (tabT_cons td18
  (tabT_cons td19
  (tabT_cons td20
  (tabT_cons td21
  (tabT_cons td22
  (tabT_cons td23
  (tabT_cons td24
  (tabT_cons td25
  (tabT_cons td26
  (tabT_cons td27
  (tabT_cons td28
  (tabT_cons td29
  (tabT_cons td30
  (tabT_cons td31
  (tabT_cons td32
  (tabT_cons td33
  (tabT_cons td35
  (tabT_cons td36
  (tabT_cons td37
  (tabT_cons td38
  (tabT_cons td39
  (tabT_cons td40
  (tabT_cons td41
  (tabT_cons td42
  (tabT_cons td43
  (tabT_cons td45
  (tabT_cons td46
  (tabT_cons td47
  (tabT_cons td48
  (tabT_cons td49
  (tabT_cons td51
  (tabT_cons td52
  (tabT_cons td54
  (tabT_cons td55
  (tabT_cons td57
  (tabT_cons td59
  (tabT_cons td60
  (tabT_cons td61
  (tabT_cons td62
  (tabT_cons td63
  (tabT_cons td64
  (tabT_cons td65
  (tabT_cons td66
  (tabT_cons td67
  (tabT_cons td68
  (tabT_cons td69
  (tabT_cons td70
  (tabT_cons td71
  (tabT_cons td72
  (tabT_cons td73
  (tabT_cons td74
  (tabT_cons td75
  (tabT_cons td76
  (tabT_cons td77
  (tabT_cons td78
  (tabT_cons td79
  (tabT_cons td80
  (tabT_cons td81
  (tabT_cons td82
  (tabT_cons td83
  (tabT_cons td84
  (tabT_cons td86
  (tabT_cons td87
  (tabT_cons td89
  (tabT_cons td90
  (tabT_cons td91
  (tabT_cons td92
  (tabT_cons td93
  (tabT_cons td94
  (tabT_cons td95
  (tabT_cons td96
  (tabT_cons td97
  (tabT_cons td98
  (tabT_cons td99
  (tabT_cons td100
  (tabT_cons td101
  (tabT_cons td102
  (tabT_cons td103
  (tabT_cons td104
  (tabT_cons td105
  (tabT_cons td106
  (tabT_cons td107
  (tabT_cons td109
  (tabT_cons td110
  (tabT_cons td112
  (tabT_cons td113
  (tabT_cons td114
  (tabT_cons td115
  (tabT_cons td117
  (tabT_cons td118
  (tabT_cons td119
  (tabT_cons td120
  (tabT_cons td122
  (tabT_cons td123
  (tabT_cons td124
  (tabT_cons td125
  (tabT_cons td126
  (tabT_cons td127
  (tabT_cons td129
  (tabT_cons td130
  (tabT_cons td131
  (tabT_cons td132
  (tabT_cons td133
  (tabT_cons td135
  (tabT_cons td136
  (tabT_cons td137
  (tabT_cons td138
  (tabT_cons td139
  (tabT_cons td141
  (tabT_cons td142
  (tabT_cons td143
  (tabT_cons td145
  (tabT_cons td146
  (tabT_cons td147
  (tabT_cons td148
  (tabT_cons td149
  (tabT_cons td150
  (tabT_cons td151
  (tabT_cons td153
  (tabT_cons td154
  (tabT_cons td155
  (tabT_cons td156
  (tabT_cons td157
  (tabT_cons td158
  (tabT_cons td159
  (tabT_cons td160
  (tabT_cons td161
  (tabT_cons td162
  (tabT_cons td163
  (tabT_cons td164
  (tabT_cons td165
  (tabT_cons td166
  (tabT_cons td167
  (tabT_cons td168
  (tabT_cons td169
  (tabT_cons td170
  (tabT_cons td171
  (tabT_cons td172
  (tabT_cons td173
  (tabT_cons td174
  (tabT_cons td175
  (tabT_cons td176
  (tabT_cons td177
  (tabT_cons td178
  (tabT_cons td179
  (tabT_cons td180
  (tabT_cons td181
  (tabT_cons td182
  (tabT_cons td183
  (tabT_cons td184
  (tabT_cons td185
  (tabT_cons td186
  (tabT_cons td187
  (tabT_cons td188
  (tabT_cons td189
  (tabT_cons td190
  (tabT_cons td191
  (tabT_cons td193
  (tabT_cons td194
  (tabT_cons td195
  (tabT_cons td196
  (tabT_cons td197
  (tabT_cons td198
  (tabT_cons td199
  (tabT_cons td200
  (tabT_cons td201
  (tabT_cons td203
  (tabT_cons td204
  (tabT_cons td205
  (tabT_cons td206
  (tabT_cons td207
  (tabT_cons td208
  (tabT_cons td209
  (tabT_cons td211
  (tabT_cons td212
  (tabT_cons td213
  (tabT_cons td215
  (tabT_cons td216
  (tabT_cons td218
  (tabT_cons td219
  (tabT_cons td220
  (tabT_cons td221
  (tabT_cons td222
  (tabT_cons td223
  (tabT_cons td224
  (tabT_cons td225
  (tabT_cons td226
  (tabT_cons td227
  (tabT_cons td228
  (tabT_cons td229
  (tabT_cons td230
  (tabT_cons td231
  (tabT_cons td232
  (tabT_cons td233
  (tabT_cons td234
  (tabT_cons td235
  (tabT_cons td236
  (tabT_cons td237
  (tabT_cons td238
  (tabT_cons td239
  (tabT_cons td240
  (tabT_cons td241
  (tabT_cons td242
  (tabT_cons td243
  (tabT_cons td244 tabT_nil)))))))))))))))))))))))))))))))))))))))))))))))))))))))))))))))))))))))))))))))))))))))))))))))))))))))))))))))))))))))))))))))))))))))))))))))))))))))))))))))))))))))))))))))))))))))))))))))))))))))))))))))))))))))))))))
structure Globs (w : World) : Prop where
  mlen : ∃ m, w.cell? ⟨4, 0, none⟩ = some (.int .i64 m)
  pow : Lib.TabIs Tryz.prog w "internal/strconv.uint64pow10" .u64 Lib.pow10Tab
  syn : ∃ tp p, w.var? Tryz.prog "strconv.ErrSyntax" = some #[.iface tp p]
  rng : ∃ tp p, w.var? Tryz.prog "strconv.ErrRange" = some #[.iface tp p]
  ety : w.cell? ⟨2, 0, none⟩ = some (.iface 189 (.agg #[.pointer (some ⟨9, 55, none⟩)]))
theorem gn_pow : Tryz.prog.globalNamed "internal/strconv.uint64pow10" = some 3 := by kernel_rfl
theorem gn_syn : Tryz.prog.globalNamed "strconv.ErrSyntax" = some 0 := by kernel_rfl
theorem gn_rng : Tryz.prog.globalNamed "strconv.ErrRange" = some 1 := by kernel_rfl
theorem var_same {w w' : World} {n : String} {g : Nat} (hn : Tryz.prog.globalNamed n = some g) (h : w'.heap[g]? = w.heap[g]?) : w'.var? Tryz.prog n = w.var? Tryz.prog n := by
  unfold World.var?
  rw [hn]
  simp only [Option.bind_some, h]
theorem Globs.same {w w' : World} (h : Globs w) (hb : ∀ k, k < 9 → w'.heap[k]? = w.heap[k]?) : Globs w' := by
  obtain ⟨h1, h2, h3, h4, h5⟩ := h
  refine ⟨?_, ?_, ?_, ?_, ?_⟩
  · obtain ⟨m, hm⟩ := h1; exact ⟨m, (World.cell?_of_block (hb _ (by decide))).trans hm⟩
  · unfold Lib.TabIs at h2 ⊢; rw [var_same gn_pow (hb _ (by decide))]; exact h2
  · obtain ⟨a, b, h⟩ := h3; exact ⟨a, b, (var_same gn_syn (hb _ (by decide))).trans h⟩
  · obtain ⟨a, b, h⟩ := h4; exact ⟨a, b, (var_same gn_rng (hb _ (by decide))).trans h⟩
  · exact (World.cell?_of_block (hb _ (by decide))).trans h5
structure Hyp (G : Nat → World → Prop) : Prop where
  seat : Seat Tryz.prog G TT
  tab : ∀ g0 w, G g0 w → TabAt (Tryz.laysT29_ren.g 1) Lib.deBruijn64tab w
  glob : ∀ g0 w, G g0 w → Globs w
end Go.X

namespace Go.X
open Go Go.Proofs Go.RowKit

set_option maxHeartbeats 1000000 in
theorem told_id (v0 : Int) (v1 : ByteArray) (v2 v3 v4 v6 : Int) (a : Option Addr) (n cap : Nat) (w : World) : Calls Tryz.prog 14 #[.agg #[.int .i64 v0, .string v1, .int .i64 v2, .int .i64 v3, .int .i64 v4, .slice a n cap, .int .i64 v6]] w fun e w' => e = .returned (.agg #[.int .i64 v0, .string v1, .int .i64 v2, .int .i64 v3, .int .i64 v4, .slice a n cap, .int .i64 v6]) ∧ Below w.heap.size w w' := by
  go_enter Tryz.func14, Tryz.ntmps14
  go_wp2
  refine bodyPost_ret (results_cell_row (P := Tryz.prog) rfl _ _ _ _ _ _ _ rfl (heap_alloc2_new _ _ _) Tryz.underlying26 rfl (by kernel_rfl)) rfl ?_
  exact ⟨rfl, ((Below.refl _ _).alloc (Nat.le_refl _) _).alloc (by simp) _⟩
theorem put_below {B b : Nat} {w w' : World} {o : Obj} (h : Below B w w') (hb : B ≤ b) : Below B w (w'.putObj b o) :=
  h.trans ⟨rfl, rfl, rfl, by simp [World.putObj], fun k hk => World.putObj_heap_other (by omega)⟩
def plainEs : Array MapEntry := #[⟨.string tUcci, .int .i64 1, 0⟩, ⟨.string tReady, .int .i64 2, 1⟩, ⟨.string tProbe, .int .i64 6, 2⟩, ⟨.string tStop, .int .i64 7, 3⟩, ⟨.string tQuit, .int .i64 8, 4⟩]
set_option maxHeartbeats 4000000 in
set_option maxRecDepth 100000 in
theorem plain_law : MapLaw Tryz.prog 21 plainEs 5 := by
  intro w
  have hmm := @run_makeMap Tryz.prog
  obtain ⟨w0, hw0⟩ : ∃ x, w.alloc (.map #[] 0) = x := ⟨_, rfl⟩
  have hb0 : w0.heap[w.heap.size]? = some (.map #[] 0) := by rw [← hw0]; exact heap_alloc_new _ _
  have hB0 : Below w.heap.size w w0 := by rw [← hw0]; exact (Below.refl _ _).alloc (Nat.le_refl _) _
  obtain ⟨w1, hr1, hb1, hB1⟩ : ∃ x, (Instr.mapUpdate 47 (.map (some w.heap.size)) (.string ⟨#[117, 99, 99, 105]⟩) (.int .i64 1)).run Tryz.prog w0 = .ok () x ∧ x.heap[w.heap.size]? = some (.map #[⟨.string ⟨#[117, 99, 99, 105]⟩, .int .i64 1, 0⟩] 1) ∧ Below w.heap.size w x :=
    ⟨_, run_mapPut w0 Tryz.underlying47 Tryz.underlying9 hb0 (by kernel_rfl), World.putObj_heap_same (lt_of_heap hb0), put_below hB0 (Nat.le_refl _)⟩
  obtain ⟨w2, hr2, hb2, hB2⟩ : ∃ x, (Instr.mapUpdate 47 (.map (some w.heap.size)) (.string ⟨#[105, 115, 114, 101, 97, 100, 121]⟩) (.int .i64 2)).run Tryz.prog w1 = .ok () x ∧ x.heap[w.heap.size]? = some (.map #[⟨.string ⟨#[117, 99, 99, 105]⟩, .int .i64 1, 0⟩, ⟨.string ⟨#[105, 115, 114, 101, 97, 100, 121]⟩, .int .i64 2, 1⟩] 2) ∧ Below w.heap.size w x :=
    ⟨_, run_mapPut w1 Tryz.underlying47 Tryz.underlying9 hb1 (by kernel_rfl), World.putObj_heap_same (lt_of_heap hb1), put_below hB1 (Nat.le_refl _)⟩
  obtain ⟨w3, hr3, hb3, hB3⟩ : ∃ x, (Instr.mapUpdate 47 (.map (some w.heap.size)) (.string ⟨#[112, 114, 111, 98, 101]⟩) (.int .i64 6)).run Tryz.prog w2 = .ok () x ∧ x.heap[w.heap.size]? = some (.map #[⟨.string ⟨#[117, 99, 99, 105]⟩, .int .i64 1, 0⟩, ⟨.string ⟨#[105, 115, 114, 101, 97, 100, 121]⟩, .int .i64 2, 1⟩, ⟨.string ⟨#[112, 114, 111, 98, 101]⟩, .int .i64 6, 2⟩] 3) ∧ Below w.heap.size w x :=
    ⟨_, run_mapPut w2 Tryz.underlying47 Tryz.underlying9 hb2 (by kernel_rfl), World.putObj_heap_same (lt_of_heap hb2), put_below hB2 (Nat.le_refl _)⟩
  obtain ⟨w4, hr4, hb4, hB4⟩ : ∃ x, (Instr.mapUpdate 47 (.map (some w.heap.size)) (.string ⟨#[115, 116, 111, 112]⟩) (.int .i64 7)).run Tryz.prog w3 = .ok () x ∧ x.heap[w.heap.size]? = some (.map #[⟨.string ⟨#[117, 99, 99, 105]⟩, .int .i64 1, 0⟩, ⟨.string ⟨#[105, 115, 114, 101, 97, 100, 121]⟩, .int .i64 2, 1⟩, ⟨.string ⟨#[112, 114, 111, 98, 101]⟩, .int .i64 6, 2⟩, ⟨.string ⟨#[115, 116, 111, 112]⟩, .int .i64 7, 3⟩] 4) ∧ Below w.heap.size w x :=
    ⟨_, run_mapPut w3 Tryz.underlying47 Tryz.underlying9 hb3 (by kernel_rfl), World.putObj_heap_same (lt_of_heap hb3), put_below hB3 (Nat.le_refl _)⟩
  obtain ⟨w5, hr5, hb5, hB5⟩ : ∃ x, (Instr.mapUpdate 47 (.map (some w.heap.size)) (.string ⟨#[113, 117, 105, 116]⟩) (.int .i64 8)).run Tryz.prog w4 = .ok () x ∧ x.heap[w.heap.size]? = some (.map #[⟨.string ⟨#[117, 99, 99, 105]⟩, .int .i64 1, 0⟩, ⟨.string ⟨#[105, 115, 114, 101, 97, 100, 121]⟩, .int .i64 2, 1⟩, ⟨.string ⟨#[112, 114, 111, 98, 101]⟩, .int .i64 6, 2⟩, ⟨.string ⟨#[115, 116, 111, 112]⟩, .int .i64 7, 3⟩, ⟨.string ⟨#[113, 117, 105, 116]⟩, .int .i64 8, 4⟩] 5) ∧ Below w.heap.size w x :=
    ⟨_, run_mapPut w4 Tryz.underlying47 Tryz.underlying9 hb4 (by kernel_rfl), World.putObj_heap_same (lt_of_heap hb4), put_below hB4 (Nat.le_refl _)⟩
  go_enter Tryz.func21, Tryz.ntmps21
  go_wp2
  go_ret
  exact ⟨_, rfl, Nat.le_refl _, hb5, hB5⟩
theorem str_beq (a b : ByteArray) : (a == b) = strEq a b := by
  rw [Bool.eq_iff_iff, MapKept.bytes_beq, strEq_iff]
theorem plain_look (s : ByteArray) : LookLaw Tryz.prog 47 plainEs 5 s (plainK s) (plainK s != 0) := by
  refine look_law Tryz.underlying47 Tryz.underlying9 (fun w => by kernel_rfl) ?_
  unfold plainK
  simp only [plainEs, Instr.findNow, Instr.sameNow, str_beq]
  cases strEq s tUcci
  · cases strEq s tReady
    · cases strEq s tProbe
      · cases strEq s tStop
        · cases strEq s tQuit
          · exact ⟨_, rfl, rfl, rfl⟩
          · exact ⟨_, rfl, rfl, rfl⟩
        · exact ⟨_, rfl, rfl, rfl⟩
      · exact ⟨_, rfl, rfl, rfl⟩
    · exact ⟨_, rfl, rfl, rfl⟩
  · exact ⟨_, rfl, rfl, rfl⟩
abbrev cTold : Con := cIdC
section
variable {G : Nat → World → Prop}
theorem okTold (_ : Hyp G) : ConOK Tryz.prog G 14 cTold := con_id Tryz.func14 rfl rfl told_id
end
end Go.X

namespace Go.X
open Go Go.Proofs Go.RowKit

set_option maxHeartbeats 4000000 in
set_option maxRecDepth 100000 in
theorem cc_fresh (b : Nat) (w : World) (h0 : w.cell? ⟨b, 0, none⟩ = some (.pointer none)) (hsh : w.shape? b = some (75, 2)) (hfz : w.frozen? ⟨b, 0, none⟩ = false) :
    Calls Tryz.prog 66 #[.pointer (some ⟨b, 0, none⟩)] w fun e w' => e = .returned (.tuple #[]) ∧ w' = w.setCell ⟨b, 0, none⟩ (.pointer (some ⟨b, 0, none⟩)) := by
  go_enter Tryz.func66, Tryz.ntmps66
  go_wp2
  rw [Lib.run_to_unsafe w ⟨b, 0, none⟩ Tryz.underlying73 Tryz.underlying144 (info_of Tryz.type75) (by decide) hsh (Nat.zero_lt_succ 1)]
  simp only [Result.andThen]
  rw [Oper.upon_value]
  go_wp2
  rw [run_callFunc_extern Tryz.func107 (by kernel_rfl) (by kernel_rfl) (by kernel_rfl) (e := Extern.AbiNoEscape.same) (by kernel_rfl)]
  rw [Lib.run_noEscape]
  simp only [Result.andThen]
  rw [Oper.upon_value]
  go_wp2
  rw [Lib.run_from_unsafe w ⟨b, 0, none⟩ Tryz.underlying144 Tryz.underlying73 (info_of Tryz.type75) hsh (by kernel_rfl)]
  simp only [Result.andThen]
  rw [Oper.upon_value]
  go_wp2
  go_end0
  exact ⟨rfl, rfl⟩
set_option maxHeartbeats 4000000 in
set_option maxRecDepth 100000 in
theorem cc_used (b : Nat) (w : World) (h0 : w.cell? ⟨b, 0, none⟩ = some (.pointer (some ⟨b, 0, none⟩))) :
    Calls Tryz.prog 66 #[.pointer (some ⟨b, 0, none⟩)] w fun e w' => e = .returned (.tuple #[]) ∧ w' = w := by
  go_enter Tryz.func66, Tryz.ntmps66
  go_wp2
  rw [Lib.run_neq_ptr_same w _ Tryz.underlying73 (info_of Tryz.type75)]
  go_wp2
  go_end0
  exact ⟨rfl, rfl⟩
theorem setCell_self {b : Nat} {p v : Value} {T : TypeId} {w : World} (hb : w.heap[b]? = some (.cells #[p, v] T (0, 0))) : w.setCell ⟨b, 0, none⟩ p = w := by
  obtain ⟨heap, tape, drawn, os, output⟩ := w
  have hb' : heap[b]? = some (.cells #[p, v] T (0, 0)) := hb
  unfold World.setCell
  congr 1
  apply Array.ext_getElem?
  intro k
  rw [Array.getElem?_modify]
  by_cases hk : b = k
  · subst hk
    rw [if_pos rfl]
    show Option.map _ heap[b]? = heap[b]?
    rw [hb']; rfl
  · rw [if_neg hk]
theorem cc_law : CcLaw Tryz.prog 66 75 := by
  intro b p v w hb hp
  have c0 : w.cell? ⟨b, 0, none⟩ = some p := by rw [Lib.cell_of_heap hb]; rfl
  have hfz : w.frozen? ⟨b, 0, none⟩ = false := Lib.frozen_of_heap hb 0
  have hst : p.oneCell' = true → (storeCells ⟨b, 0, none⟩ [.pointer (some ⟨b, 0, none⟩)]).run Tryz.prog w = .ok () (w.setCell ⟨b, 0, none⟩ (.pointer (some ⟨b, 0, none⟩))) := fun _ => by
    have := run_storeCells_cells (P := Tryz.prog) b 0 [.pointer (some ⟨b, 0, none⟩)] 0 w (fun j hj => by
      obtain rfl : j = 0 := by simpa using hj
      rw [show (0 + 0 + 0 : Nat) = 0 from rfl, c0]; rfl) (fun j hj => by
      obtain rfl : j = 0 := by simpa using hj
      exact hfz) (fun v hv => by rcases List.mem_singleton.1 hv with rfl; rfl)
    exact this
  rcases hp with rfl | rfl
  · refine (cc_fresh b w c0 (by simp [World.shape?, hb]) hfz).mono ?_
    rintro e w' ⟨rfl, rfl⟩
    exact ⟨rfl, hst rfl⟩
  · refine (cc_used b w c0).mono ?_
    rintro e w' ⟨rfl, rfl⟩
    refine ⟨rfl, ?_⟩
    rw [hst rfl]
    rw [setCell_self hb]
set_option maxHeartbeats 4000000 in
set_option maxRecDepth 100000 in
theorem len_law : LenLaw Tryz.prog 157 75 := by
  intro b p ao n cap w hb
  have c1 : w.cell? ⟨b, 1, none⟩ = some (.slice ao n cap) := by rw [Lib.cell_of_heap hb]; rfl
  go_enter Tryz.func157, Tryz.ntmps157
  go_wp2
  go_ret
  exact ⟨rfl, rfl⟩
end Go.X

namespace Go.X
open Go Go.Proofs Go.RowKit
theorem drew_by {w : World} {r : Option Nat} : w.grownBy w.drew r := ⟨rfl, rfl, rfl, Nat.le_refl _, fun _ _ _ => rfl⟩
theorem freeze_by {w : World} {g n : Nat} : w.grownBy (w.drew.freeze ⟨g, 0, none⟩ n) (some g) := by
  unfold World.freeze
  split
  · exact drew_by
  · refine ⟨rfl, rfl, rfl, ?_, fun k hk hne => ?_⟩
    · show w.heap.size ≤ (Array.modify w.heap g _).size
      rw [Array.size_modify]; exact Nat.le_refl _
    · show (Array.modify w.heap g _)[k]? = w.heap[k]?
      rw [Array.getElem?_modify, if_neg (fun h => hne (by rw [h]))]
theorem view_by {w : World} {r : Option Nat} {o : Obj} : w.grownBy (w.drew.alloc o) r := ⟨rfl, rfl, rfl, by simp, fun k hk _ => heap_alloc_old w.drew _ hk⟩
set_option maxHeartbeats 4000000 in
set_option maxRecDepth 100000 in
theorem str_row (b g cap : Nat) (p : Value) (cur : Array Value) (l : List UInt8) (w : World) (h0 : l ≠ []) (hb : w.heap[b]? = some (.cells #[p, .slice (some ⟨g, 0, none⟩) l.length cap] 75 (0, 0))) (hg : w.heap[g]? = some (.cells cur 5 (0, 0))) (hnc : l.length ≤ cap) (hcm : cap ≤ maxLen) (hcs : cur.size = cap)
    (hcell : ∀ j x, l[j]? = some x → w.cell? ((⟨g, 0, none⟩ : Addr).add j) = some (.int .u8 x.toNat)) :
    Calls Tryz.prog 42 #[.pointer (some ⟨b, 0, none⟩)] w fun e w' => e = .returned (.string ⟨l.toArray⟩) ∧ w.grownBy w' (some g) := by
  have hl0 : l.length ≠ 0 := by simpa using h0
  have c1 : w.drew.cell? ⟨b, 1, none⟩ = some (.slice (some ⟨g, 0, none⟩) l.length cap) := by
    have : w.drew.heap[b]? = some (.cells #[p, .slice (some ⟨g, 0, none⟩) l.length cap] 75 (0, 0)) := hb
    rw [Lib.cell_of_heap this]; rfl
  have hSD : (Builtin.unsafeSliceData_ #[72] 101 #[.slice (some ⟨g, 0, none⟩) l.length cap]).run Tryz.prog w.drew = .ok (.pointer (some ⟨g, 0, none⟩)) w.drew :=
    Lib.run_unsafeSliceData_row _ _ _ _ _ _ (by omega)
  have hUS : (Builtin.unsafeString_ #[101, 3] 9 #[.pointer (some ⟨g, 0, none⟩), .int .i64 l.length]).run Tryz.prog w.drew = .ok (.string ⟨l.toArray⟩) (w.drew.freeze ⟨g, 0, none⟩ l.length) :=
    Lib.run_unsafeString_row w.drew 101 3 9 5 Tryz.underlying101 (by kernel_rfl) g cur.size (by have hg' : w.drew.heap[g]? = some (.cells cur 5 (0, 0)) := hg; simp [World.shape?, hg']) l h0 (by omega) (by unfold maxLen at hcm; omega) (fun j x hx => hcell j x hx)
  have mixed : Tryz.prog.follows .mixedOrders = true := by kernel_rfl
  go_enter Tryz.func42, Tryz.ntmps42
  go_wp2
  go_region_o
  all_goals (go_wp2; go_ret; exact ⟨rfl, freeze_by⟩)
set_option maxHeartbeats 4000000 in
set_option maxRecDepth 100000 in
theorem str_nil (b : Nat) (p : Value) (w : World) (hb : w.heap[b]? = some (.cells #[p, .slice none 0 0] 75 (0, 0))) :
    Calls Tryz.prog 42 #[.pointer (some ⟨b, 0, none⟩)] w fun e w' => e = .returned (.string ⟨#[]⟩) ∧ w.grownBy w' none := by
  have hUS : ∀ (W : World) (q : Option Addr), (Builtin.unsafeString_ #[101, 3] 9 #[.pointer q, .int .i64 0]).run Tryz.prog W = .ok (.string .empty) W := fun W q => Lib.run_unsafeString_none W _ _ _ q
  have c1 : w.drew.cell? ⟨b, 1, none⟩ = some (.slice none 0 0) := by
    have : w.drew.heap[b]? = some (.cells #[p, .slice none 0 0] 75 (0, 0)) := hb
    rw [Lib.cell_of_heap this]; rfl
  have hSD : (Builtin.unsafeSliceData_ #[72] 101 #[.slice none 0 0]).run Tryz.prog w.drew = .ok (.pointer none) w.drew := rfl
  have mixed : Tryz.prog.follows .mixedOrders = true := by kernel_rfl
  go_enter Tryz.func42, Tryz.ntmps42
  go_wp2
  go_region_o
  all_goals (go_wp2; go_ret; exact ⟨rfl, drew_by⟩)
set_option maxHeartbeats 4000000 in
set_option maxRecDepth 100000 in
theorem str_noroom (b g : Nat) (p : Value) (cur : Array Value) (w : World) (hb : w.heap[b]? = some (.cells #[p, .slice (some ⟨g, 0, none⟩) 0 0] 75 (0, 0))) (hg : w.heap[g]? = some (.cells cur 5 (0, 0))) :
    Calls Tryz.prog 42 #[.pointer (some ⟨b, 0, none⟩)] w fun e w' => e = .returned (.string ⟨#[]⟩) ∧ w.grownBy w' (some g) := by
  have hUS : ∀ (W : World) (q : Option Addr), (Builtin.unsafeString_ #[101, 3] 9 #[.pointer q, .int .i64 0]).run Tryz.prog W = .ok (.string .empty) W := fun W q => Lib.run_unsafeString_none W _ _ _ q
  have hlt := lt_of_heap hb
  have c1 : w.drew.cell? ⟨b, 1, none⟩ = some (.slice (some ⟨g, 0, none⟩) 0 0) := by
    have : w.drew.heap[b]? = some (.cells #[p, .slice (some ⟨g, 0, none⟩) 0 0] 75 (0, 0)) := hb
    rw [Lib.cell_of_heap this]; rfl
  have hSD : (Builtin.unsafeSliceData_ #[72] 101 #[.slice (some ⟨g, 0, none⟩) 0 0]).run Tryz.prog w.drew = .ok (.pointer (some ⟨w.drew.heap.size, 0, none⟩)) (w.drew.alloc (.view ⟨g, 0, none⟩ 5)) :=
    Lib.run_unsafeSliceData_zero w.drew _ _ 5 Tryz.underlying101 ⟨g, 0, none⟩ 0 (5, cur.size) (by have hg' : w.drew.heap[g]? = some (.cells cur 5 (0, 0)) := hg; simp [World.shape?, hg'])
  have c2 : (w.drew.alloc (.view ⟨g, 0, none⟩ 5)).cell? ⟨b, 1, none⟩ = some (.slice (some ⟨g, 0, none⟩) 0 0) := by
    have : (w.drew.alloc (.view ⟨g, 0, none⟩ 5)).heap[b]? = _ := (heap_alloc_old w.drew _ hlt).trans hb
    rw [Lib.cell_of_heap this]; rfl
  have c3 : (w.alloc (.view ⟨g, 0, none⟩ 5)).drew.cell? ⟨b, 1, none⟩ = some (.slice (some ⟨g, 0, none⟩) 0 0) := c2
  have c0 : w.cell? ⟨b, 1, none⟩ = some (.slice (some ⟨g, 0, none⟩) 0 0) := c1
  have mixed : Tryz.prog.follows .mixedOrders = true := by kernel_rfl
  go_enter Tryz.func42, Tryz.ntmps42
  go_wp2
  go_region_o
  all_goals (go_wp2; go_ret; exact ⟨rfl, view_by⟩)
set_option maxHeartbeats 4000000 in
set_option maxRecDepth 100000 in
theorem str_room (b g cap : Nat) (p : Value) (w : World) (hc0 : cap ≠ 0) (hb : w.heap[b]? = some (.cells #[p, .slice (some ⟨g, 0, none⟩) 0 cap] 75 (0, 0))) :
    Calls Tryz.prog 42 #[.pointer (some ⟨b, 0, none⟩)] w fun e w' => e = .returned (.string ⟨#[]⟩) ∧ w.grownBy w' (some g) := by
  have hUS : ∀ (W : World) (q : Option Addr), (Builtin.unsafeString_ #[101, 3] 9 #[.pointer q, .int .i64 0]).run Tryz.prog W = .ok (.string .empty) W := fun W q => Lib.run_unsafeString_none W _ _ _ q
  have c1 : w.drew.cell? ⟨b, 1, none⟩ = some (.slice (some ⟨g, 0, none⟩) 0 cap) := by
    have : w.drew.heap[b]? = some (.cells #[p, .slice (some ⟨g, 0, none⟩) 0 cap] 75 (0, 0)) := hb
    rw [Lib.cell_of_heap this]; rfl
  have hSD : (Builtin.unsafeSliceData_ #[72] 101 #[.slice (some ⟨g, 0, none⟩) 0 cap]).run Tryz.prog w.drew = .ok (.pointer (some ⟨g, 0, none⟩)) w.drew :=
    Lib.run_unsafeSliceData_row _ _ _ _ _ _ hc0
  clear hc0
  have mixed : Tryz.prog.follows .mixedOrders = true := by kernel_rfl
  go_enter Tryz.func42, Tryz.ntmps42
  go_wp2
  go_region_o
  all_goals (go_wp2; go_ret; exact ⟨rfl, drew_by⟩)
theorem str_law : StrLaw Tryz.prog 42 75 5 := by
  intro b p v l w hb hown hne
  rcases hown.2 with ⟨rfl, hz⟩ | ⟨g, cap, cur, rfl, _, hg, hnc, hcm, hcs, htake⟩
  · have hl : l = [] := List.eq_nil_of_length_eq_zero hz
    subst hl
    exact str_nil b p w hb
  · have hcs' : cur.size = cap := by simpa using hcs
    by_cases hl : l = []
    · subst hl
      by_cases hc : cap = 0
      · subst hc; exact str_noroom b g p cur w hb hg
      · exact str_room b g cap p w hc hb
    · refine str_row b g cap p cur l w hl hb hg hnc hcm hcs' (fun j x hx => ?_)
      exact hown.cells (g := g) rfl j (.int .u8 x.toNat) (by simp [Lib.byteCells, hx])
end Go.X

namespace Go.X
open Go.Proofs

def cIsSquare : Con
  | [.a (.i .i64 n)] => some ⟨[], .a (.b (spIsSquare n)), [], []⟩
  | _ => none
def cRank : Con
  | [.a (.i .i64 n)] => some ⟨[], .a (.i .i64 (spRank n)), [], []⟩
  | _ => none
def cFile : Con
  | [.a (.i .i64 n)] => some ⟨[], .a (.i .i64 (spFile n)), [], []⟩
  | _ => none
def cSquare : Con
  | [.a (.i .i64 f), .a (.i .i64 r)] => some ⟨[], .a (.i .i64 (spSquare f r)), [], []⟩
  | _ => none
def cIndexByte : Con
  | [.a (.s s), .a (.i .u8 c)] => some ⟨[], .a (.i .i64 (spIdxB s.data.toList c)), [], []⟩
  | _ => none
def cSide : Con
  | [.a (.i .u8 c)] => some ⟨[], .a (.i .i64 (spSide c)), [], []⟩
  | _ => none
def cIsCell : Con
  | [.a (.i .u8 c)] => some ⟨[], .a (.b (spIsCell c)), [], []⟩
  | _ => none
def cKind : Con
  | [.a (.i .u8 c)] => some ⟨[], .a (.i .u8 (spKind c)), [], []⟩
  | _ => none
def cBad : Con
  | [.a (.i .i32 (.ofNat r))] => some ⟨[], .a (.b (spBad r)), [], []⟩
  | _ => none
def cIndexFunc : Con
  | [.a (.s s), .fn 99 []] => some ⟨[], .a (.i .i64 (Lib.idxFunc spBad true s)), [], []⟩
  | _ => none
def cIs : Con
  | [.a (.s p)] => some ⟨[], .a (.b (spIs p)), [], []⟩
  | _ => none
section
variable {G : Nat → World → Prop}
theorem okIndexByte (_ : Hyp G) : ConOK Tryz.prog G 116 cIndexByte := by
  refine con_ext Tryz.func116 rfl rfl ?_
  intro rvs cr hcr hpre
  unfold cIndexByte at hcr
  split at hcr
  · cases hcr
    refine ⟨_, _, _, rfl, rfl, fun _ _ => rfl, fun g0 w _ _ => (Tryz.strings_IndexByte _ _ w).mono ?_⟩
    rintro e w' ⟨rfl, rfl⟩
    exact ⟨rfl, ⟨rfl, rfl, rfl, Nat.le_refl _, fun _ _ => rfl⟩⟩
  · cases hcr

set_option maxHeartbeats 4000000 in
set_option maxRecDepth 20000 in
theorem okIsSquare (hS : Hyp G) : ConOK Tryz.prog G 93 cIsSquare := by
  refine seat_con hS.seat [] [] trivial Tryz.func93 rfl rfl rfl ?_
  intro rvs cr hcr hpre
  unfold cIsSquare at hcr
  split at hcr
  · cases hcr
    refine ⟨⟨rfl, rfl, rfl⟩, fun c hc vs => ?_⟩
    repeat' (first | exact Bool.noConfusion ‹(!true) = true› | exact Bool.noConfusion ‹(!false) = false› | (intro h; exact h) | (intro h; rw [h]; rfl) | (intro h1 h2; rw [h1, h2]; rfl) | (intro _; assumption) | (intro _; exact rfl) | (intro h; exact Bool.noConfusion (h.symm.trans ‹_ = false›)) | refine ⟨fun _ => ?_, fun _ => ?_⟩ | refine ⟨?_⟩ | refine ⟨?_, ?_⟩ | fail)
    all_goals first | exact rfl | (refine chk_i ?_; simp_all [spIsSquare]; done) | (refine chk_i ?_; simp only [spIsSquare, decide_eq_true_eq, decide_eq_false_iff_not, Bool.not_eq_true', Bool.not_eq_false', Bool.or_eq_true, Bool.or_eq_false_iff, Bool.and_eq_true, Bool.and_eq_false_iff] at *; (repeat' split) <;> first | rfl | omega | (simp_all; done) | (simp_all; omega)) | (refine chk_b ?_; simp_all [spIsSquare]; done) | (refine chk_b ?_; simp only [spIsSquare, decide_eq_true_eq, decide_eq_false_iff_not, Bool.not_eq_true', Bool.not_eq_false', Bool.or_eq_true, Bool.or_eq_false_iff, Bool.and_eq_true, Bool.and_eq_false_iff] at *; (repeat' split) <;> first | rfl | omega | (simp_all; done) | (simp_all; omega)) | (refine chk_s ?_; simp_all [spIsSquare]; done) | (refine chk_s ?_; simp only [spIsSquare, decide_eq_true_eq, decide_eq_false_iff_not, Bool.not_eq_true', Bool.not_eq_false', Bool.or_eq_true, Bool.or_eq_false_iff, Bool.and_eq_true, Bool.and_eq_false_iff] at *; (repeat' split) <;> first | rfl | omega | (simp_all; done) | (simp_all; omega)) | (simp_all [spIsSquare]; done) | (simp_all [spIsSquare]; omega) | skip
  · cases hcr

set_option maxHeartbeats 4000000 in
set_option maxRecDepth 20000 in
theorem okFile (hS : Hyp G) : ConOK Tryz.prog G 58 cFile := by
  refine seat_con hS.seat [(93, cIsSquare)] [] ⟨okIsSquare hS, trivial⟩ Tryz.func58 rfl rfl rfl ?_
  intro rvs cr hcr hpre
  unfold cFile at hcr
  split at hcr
  · cases hcr
    refine ⟨⟨rfl, rfl, rfl⟩, fun c hc vs => ?_⟩
    repeat' (first | exact Bool.noConfusion ‹(!true) = true› | exact Bool.noConfusion ‹(!false) = false› | (intro h; exact h) | (intro h; rw [h]; rfl) | (intro h1 h2; rw [h1, h2]; rfl) | (intro _; assumption) | (intro _; exact rfl) | (intro h; exact Bool.noConfusion (h.symm.trans ‹_ = false›)) | refine ⟨fun _ => ?_, fun _ => ?_⟩ | refine ⟨?_⟩ | refine ⟨?_, ?_⟩ | fail)
    all_goals first | exact rfl | (refine chk_i ?_; simp_all [spFile]; done) | (refine chk_i ?_; simp only [spFile, decide_eq_true_eq, decide_eq_false_iff_not, Bool.not_eq_true', Bool.not_eq_false', Bool.or_eq_true, Bool.or_eq_false_iff, Bool.and_eq_true, Bool.and_eq_false_iff] at *; (repeat' split) <;> first | rfl | omega | (simp_all; done) | (simp_all; omega)) | (refine chk_b ?_; simp_all [spFile]; done) | (refine chk_b ?_; simp only [spFile, decide_eq_true_eq, decide_eq_false_iff_not, Bool.not_eq_true', Bool.not_eq_false', Bool.or_eq_true, Bool.or_eq_false_iff, Bool.and_eq_true, Bool.and_eq_false_iff] at *; (repeat' split) <;> first | rfl | omega | (simp_all; done) | (simp_all; omega)) | (refine chk_s ?_; simp_all [spFile]; done) | (refine chk_s ?_; simp only [spFile, decide_eq_true_eq, decide_eq_false_iff_not, Bool.not_eq_true', Bool.not_eq_false', Bool.or_eq_true, Bool.or_eq_false_iff, Bool.and_eq_true, Bool.and_eq_false_iff] at *; (repeat' split) <;> first | rfl | omega | (simp_all; done) | (simp_all; omega)) | (simp_all [spFile]; done) | (simp_all [spFile]; omega) | skip
    refine chk_i ?_
    have h := isSquare_iff.1 (by simpa using ‹(!spIsSquare _) = false›)
    rw [tmod9 h.1, spFile, if_pos (isSquare_iff.2 h)]
  · cases hcr

set_option maxHeartbeats 4000000 in
set_option maxRecDepth 20000 in
theorem okRank (hS : Hyp G) : ConOK Tryz.prog G 59 cRank := by
  refine seat_con hS.seat [(93, cIsSquare)] [] ⟨okIsSquare hS, trivial⟩ Tryz.func59 rfl rfl rfl ?_
  intro rvs cr hcr hpre
  unfold cRank at hcr
  split at hcr
  · cases hcr
    refine ⟨⟨rfl, rfl, rfl⟩, fun c hc vs => ?_⟩
    repeat' (first | exact Bool.noConfusion ‹(!true) = true› | exact Bool.noConfusion ‹(!false) = false› | (intro h; exact h) | (intro h; rw [h]; rfl) | (intro h1 h2; rw [h1, h2]; rfl) | (intro _; assumption) | (intro _; exact rfl) | (intro h; exact Bool.noConfusion (h.symm.trans ‹_ = false›)) | refine ⟨fun _ => ?_, fun _ => ?_⟩ | refine ⟨?_⟩ | refine ⟨?_, ?_⟩ | fail)
    all_goals first | exact rfl | (refine chk_i ?_; simp_all [spRank]; done) | (refine chk_i ?_; simp only [spRank, decide_eq_true_eq, decide_eq_false_iff_not, Bool.not_eq_true', Bool.not_eq_false', Bool.or_eq_true, Bool.or_eq_false_iff, Bool.and_eq_true, Bool.and_eq_false_iff] at *; (repeat' split) <;> first | rfl | omega | (simp_all; done) | (simp_all; omega)) | (refine chk_b ?_; simp_all [spRank]; done) | (refine chk_b ?_; simp only [spRank, decide_eq_true_eq, decide_eq_false_iff_not, Bool.not_eq_true', Bool.not_eq_false', Bool.or_eq_true, Bool.or_eq_false_iff, Bool.and_eq_true, Bool.and_eq_false_iff] at *; (repeat' split) <;> first | rfl | omega | (simp_all; done) | (simp_all; omega)) | (refine chk_s ?_; simp_all [spRank]; done) | (refine chk_s ?_; simp only [spRank, decide_eq_true_eq, decide_eq_false_iff_not, Bool.not_eq_true', Bool.not_eq_false', Bool.or_eq_true, Bool.or_eq_false_iff, Bool.and_eq_true, Bool.and_eq_false_iff] at *; (repeat' split) <;> first | rfl | omega | (simp_all; done) | (simp_all; omega)) | (simp_all [spRank]; done) | (simp_all [spRank]; omega) | skip
    refine chk_i ?_
    have h := isSquare_iff.1 (by simpa using ‹(!spIsSquare _) = false›)
    rw [tdiv9 h.1, spRank, if_pos (isSquare_iff.2 h), wrap64 (by omega) (by omega)]
  · cases hcr

set_option maxHeartbeats 4000000 in
set_option maxRecDepth 20000 in
theorem okSquare (hS : Hyp G) : ConOK Tryz.prog G 148 cSquare := by
  refine seat_con hS.seat [] [] trivial Tryz.func148 rfl rfl rfl ?_
  intro rvs cr hcr hpre
  unfold cSquare at hcr
  split at hcr
  · cases hcr
    refine ⟨⟨rfl, rfl, rfl⟩, fun c hc vs => ?_⟩
    repeat' (first | exact Bool.noConfusion ‹(!true) = true› | exact Bool.noConfusion ‹(!false) = false› | (intro h; exact h) | (intro h; rw [h]; rfl) | (intro h1 h2; rw [h1, h2]; rfl) | (intro _; assumption) | (intro _; exact rfl) | (intro h; exact Bool.noConfusion (h.symm.trans ‹_ = false›)) | refine ⟨fun _ => ?_, fun _ => ?_⟩ | refine ⟨?_⟩ | refine ⟨?_, ?_⟩ | fail)
    all_goals first | exact rfl | (refine chk_i ?_; simp_all [spSquare]; done) | (refine chk_i ?_; simp only [spSquare, decide_eq_true_eq, decide_eq_false_iff_not, Bool.not_eq_true', Bool.not_eq_false', Bool.or_eq_true, Bool.or_eq_false_iff, Bool.and_eq_true, Bool.and_eq_false_iff] at *; (repeat' split) <;> first | rfl | omega | (simp_all; done) | (simp_all; omega)) | (refine chk_b ?_; simp_all [spSquare]; done) | (refine chk_b ?_; simp only [spSquare, decide_eq_true_eq, decide_eq_false_iff_not, Bool.not_eq_true', Bool.not_eq_false', Bool.or_eq_true, Bool.or_eq_false_iff, Bool.and_eq_true, Bool.and_eq_false_iff] at *; (repeat' split) <;> first | rfl | omega | (simp_all; done) | (simp_all; omega)) | (refine chk_s ?_; simp_all [spSquare]; done) | (refine chk_s ?_; simp only [spSquare, decide_eq_true_eq, decide_eq_false_iff_not, Bool.not_eq_true', Bool.not_eq_false', Bool.or_eq_true, Bool.or_eq_false_iff, Bool.and_eq_true, Bool.and_eq_false_iff] at *; (repeat' split) <;> first | rfl | omega | (simp_all; done) | (simp_all; omega)) | (simp_all [spSquare]; done) | (simp_all [spSquare]; omega) | skip
    refine chk_i ?_
    simp only [Bool.or_eq_false_iff, decide_eq_false_iff_not] at *
    rw [wrap64 (x := 9 * _) (by omega) (by omega), wrap64 (by omega) (by omega), spSquare, if_pos (by simp; omega)]
    omega
  · cases hcr

set_option maxHeartbeats 4000000 in
set_option maxRecDepth 20000 in
theorem okSide (hS : Hyp G) : ConOK Tryz.prog G 102 cSide := by
  refine seat_con hS.seat [(116, cIndexByte)] [] ⟨okIndexByte hS, trivial⟩ Tryz.func102 rfl rfl rfl ?_
  intro rvs cr hcr hpre
  unfold cSide at hcr
  split at hcr
  · cases hcr
    refine ⟨⟨rfl, rfl, rfl⟩, fun c hc vs => ?_⟩
    repeat' (first | exact Bool.noConfusion ‹(!true) = true› | exact Bool.noConfusion ‹(!false) = false› | (intro h; exact h) | (intro h; rw [h]; rfl) | (intro h1 h2; rw [h1, h2]; rfl) | (intro _; assumption) | (intro _; exact rfl) | (intro h; exact Bool.noConfusion (h.symm.trans ‹_ = false›)) | refine ⟨fun _ => ?_, fun _ => ?_⟩ | refine ⟨?_⟩ | refine ⟨?_, ?_⟩ | fail)
    all_goals first | exact rfl | (refine chk_i ?_; simp_all [spSide]; done) | (refine chk_i ?_; simp only [spSide, decide_eq_true_eq, decide_eq_false_iff_not, Bool.not_eq_true', Bool.not_eq_false', Bool.or_eq_true, Bool.or_eq_false_iff, Bool.and_eq_true, Bool.and_eq_false_iff] at *; (repeat' split) <;> first | rfl | omega | (simp_all; done) | (simp_all; omega)) | (refine chk_b ?_; simp_all [spSide]; done) | (refine chk_b ?_; simp only [spSide, decide_eq_true_eq, decide_eq_false_iff_not, Bool.not_eq_true', Bool.not_eq_false', Bool.or_eq_true, Bool.or_eq_false_iff, Bool.and_eq_true, Bool.and_eq_false_iff] at *; (repeat' split) <;> first | rfl | omega | (simp_all; done) | (simp_all; omega)) | (refine chk_s ?_; simp_all [spSide]; done) | (refine chk_s ?_; simp only [spSide, decide_eq_true_eq, decide_eq_false_iff_not, Bool.not_eq_true', Bool.not_eq_false', Bool.or_eq_true, Bool.or_eq_false_iff, Bool.and_eq_true, Bool.and_eq_false_iff] at *; (repeat' split) <;> first | rfl | omega | (simp_all; done) | (simp_all; omega)) | (simp_all [spSide]; done) | (simp_all [spSide]; omega) | skip
  · cases hcr

set_option maxHeartbeats 4000000 in
set_option maxRecDepth 20000 in
theorem okIsCell (hS : Hyp G) : ConOK Tryz.prog G 100 cIsCell := by
  refine seat_con hS.seat [(102, cSide)] [] ⟨okSide hS, trivial⟩ Tryz.func100 rfl rfl rfl ?_
  intro rvs cr hcr hpre
  unfold cIsCell at hcr
  split at hcr
  · cases hcr
    refine ⟨⟨rfl, rfl, rfl⟩, fun c hc vs => ?_⟩
    repeat' (first | exact Bool.noConfusion ‹(!true) = true› | exact Bool.noConfusion ‹(!false) = false› | (intro h; exact h) | (intro h; rw [h]; rfl) | (intro h1 h2; rw [h1, h2]; rfl) | (intro _; assumption) | (intro _; exact rfl) | (intro h; exact Bool.noConfusion (h.symm.trans ‹_ = false›)) | refine ⟨fun _ => ?_, fun _ => ?_⟩ | refine ⟨?_⟩ | refine ⟨?_, ?_⟩ | fail)
    all_goals first | exact rfl | (refine chk_i ?_; simp_all [spIsCell]; done) | (refine chk_i ?_; simp only [spIsCell, decide_eq_true_eq, decide_eq_false_iff_not, Bool.not_eq_true', Bool.not_eq_false', Bool.or_eq_true, Bool.or_eq_false_iff, Bool.and_eq_true, Bool.and_eq_false_iff] at *; (repeat' split) <;> first | rfl | omega | (simp_all; done) | (simp_all; omega)) | (refine chk_b ?_; simp_all [spIsCell]; done) | (refine chk_b ?_; simp only [spIsCell, decide_eq_true_eq, decide_eq_false_iff_not, Bool.not_eq_true', Bool.not_eq_false', Bool.or_eq_true, Bool.or_eq_false_iff, Bool.and_eq_true, Bool.and_eq_false_iff] at *; (repeat' split) <;> first | rfl | omega | (simp_all; done) | (simp_all; omega)) | (refine chk_s ?_; simp_all [spIsCell]; done) | (refine chk_s ?_; simp only [spIsCell, decide_eq_true_eq, decide_eq_false_iff_not, Bool.not_eq_true', Bool.not_eq_false', Bool.or_eq_true, Bool.or_eq_false_iff, Bool.and_eq_true, Bool.and_eq_false_iff] at *; (repeat' split) <;> first | rfl | omega | (simp_all; done) | (simp_all; omega)) | (simp_all [spIsCell]; done) | (simp_all [spIsCell]; omega) | skip
  · cases hcr

set_option maxHeartbeats 4000000 in
set_option maxRecDepth 20000 in
theorem okKind (hS : Hyp G) : ConOK Tryz.prog G 64 cKind := by
  refine seat_con hS.seat [(102, cSide)] [] ⟨okSide hS, trivial⟩ Tryz.func64 rfl rfl rfl ?_
  intro rvs cr hcr hpre
  unfold cKind at hcr
  split at hcr
  · cases hcr
    refine ⟨⟨rfl, rfl, rfl⟩, fun c hc vs => ?_⟩
    repeat' (first | exact Bool.noConfusion ‹(!true) = true› | exact Bool.noConfusion ‹(!false) = false› | (intro h; exact h) | (intro h; rw [h]; rfl) | (intro h1 h2; rw [h1, h2]; rfl) | (intro _; assumption) | (intro _; exact rfl) | (intro h; exact Bool.noConfusion (h.symm.trans ‹_ = false›)) | refine ⟨fun _ => ?_, fun _ => ?_⟩ | refine ⟨?_⟩ | refine ⟨?_, ?_⟩ | fail)
    all_goals first | exact rfl | (refine chk_i ?_; simp_all [spKind]; done) | (refine chk_i ?_; simp only [spKind, decide_eq_true_eq, decide_eq_false_iff_not, Bool.not_eq_true', Bool.not_eq_false', Bool.or_eq_true, Bool.or_eq_false_iff, Bool.and_eq_true, Bool.and_eq_false_iff] at *; (repeat' split) <;> first | rfl | omega | (simp_all; done) | (simp_all; omega)) | (refine chk_b ?_; simp_all [spKind]; done) | (refine chk_b ?_; simp only [spKind, decide_eq_true_eq, decide_eq_false_iff_not, Bool.not_eq_true', Bool.not_eq_false', Bool.or_eq_true, Bool.or_eq_false_iff, Bool.and_eq_true, Bool.and_eq_false_iff] at *; (repeat' split) <;> first | rfl | omega | (simp_all; done) | (simp_all; omega)) | (refine chk_s ?_; simp_all [spKind]; done) | (refine chk_s ?_; simp only [spKind, decide_eq_true_eq, decide_eq_false_iff_not, Bool.not_eq_true', Bool.not_eq_false', Bool.or_eq_true, Bool.or_eq_false_iff, Bool.and_eq_true, Bool.and_eq_false_iff] at *; (repeat' split) <;> first | rfl | omega | (simp_all; done) | (simp_all; omega)) | (simp_all [spKind]; done) | (simp_all [spKind]; omega) | skip
  · cases hcr

set_option maxHeartbeats 4000000 in
set_option maxRecDepth 20000 in
theorem okBad (hS : Hyp G) : ConOK Tryz.prog G 99 cBad := by
  refine seat_con hS.seat [(100, cIsCell)] [] ⟨okIsCell hS, trivial⟩ Tryz.func99 rfl rfl rfl ?_
  intro rvs cr hcr hpre
  unfold cBad at hcr
  split at hcr
  · cases hcr
    refine ⟨⟨rfl, rfl, rfl⟩, fun c hc vs => ?_⟩
    repeat' (first | exact Bool.noConfusion ‹(!true) = true› | exact Bool.noConfusion ‹(!false) = false› | (intro h; exact h) | (intro h; rw [h]; rfl) | (intro h1 h2; rw [h1, h2]; rfl) | (intro _; assumption) | (intro _; exact rfl) | (intro h; exact Bool.noConfusion (h.symm.trans ‹_ = false›)) | refine ⟨fun _ => ?_, fun _ => ?_⟩ | refine ⟨?_⟩ | refine ⟨?_, ?_⟩ | fail)
    all_goals first | exact rfl | (refine chk_i ?_; simp_all [spBad]; done) | (refine chk_i ?_; simp only [spBad, decide_eq_true_eq, decide_eq_false_iff_not, Bool.not_eq_true', Bool.not_eq_false', Bool.or_eq_true, Bool.or_eq_false_iff, Bool.and_eq_true, Bool.and_eq_false_iff] at *; (repeat' split) <;> first | rfl | omega | (simp_all; done) | (simp_all; omega)) | (refine chk_b ?_; simp_all [spBad]; done) | (refine chk_b ?_; simp only [spBad, decide_eq_true_eq, decide_eq_false_iff_not, Bool.not_eq_true', Bool.not_eq_false', Bool.or_eq_true, Bool.or_eq_false_iff, Bool.and_eq_true, Bool.and_eq_false_iff] at *; (repeat' split) <;> first | rfl | omega | (simp_all; done) | (simp_all; omega)) | (refine chk_s ?_; simp_all [spBad]; done) | (refine chk_s ?_; simp only [spBad, decide_eq_true_eq, decide_eq_false_iff_not, Bool.not_eq_true', Bool.not_eq_false', Bool.or_eq_true, Bool.or_eq_false_iff, Bool.and_eq_true, Bool.and_eq_false_iff] at *; (repeat' split) <;> first | rfl | omega | (simp_all; done) | (simp_all; omega)) | (simp_all [spBad]; done) | (simp_all [spBad]; omega) | skip
  · cases hcr

theorem okIndexFunc (hS : Hyp G) : ConOK Tryz.prog G 98 cIndexFunc := by
  refine con_ext Tryz.func98 rfl rfl ?_
  intro rvs cr hcr hpre
  unfold cIndexFunc at hcr
  split at hcr
  · cases hcr
    refine ⟨_, _, _, rfl, rfl, fun _ _ => rfl, fun g0 w hg hG => Tryz.strings_IndexFunc_grows 99 #[] Tryz.call99 spBad _ w ?_⟩
    intro W x _ hb
    have hG' : G g0 W := hS.seat.good (topCtx g0 w hg) hG W ⟨hb.os, hb.tape, hb.output, hb.size, fun k h1 _ => hb.block k h1⟩
    refine (con_calls (avs := [.i .i32 (.ofNat x)]) (vals := [.int .i32 (.ofNat x)]) (okBad hS) (Nat.le_trans hg hb.size) hG' rfl ⟨_, _, rfl, rfl, rfl⟩ rfl (fun p hp => (by cases hp))).mono ?_
    rintro en w' ⟨v, e', rfl, h1, h2⟩
    refine ⟨?_, top_below h1.frame⟩
    simp only [R] at h2
    rw [h2]
  · cases hcr

set_option maxHeartbeats 4000000 in
set_option maxRecDepth 20000 in
theorem okIs (hS : Hyp G) : ConOK Tryz.prog G 61 cIs := by
  refine seat_con hS.seat [(98, cIndexFunc)] [] ⟨okIndexFunc hS, trivial⟩ Tryz.func61 rfl rfl rfl ?_
  intro rvs cr hcr hpre
  unfold cIs at hcr
  split at hcr
  · cases hcr
    refine ⟨⟨rfl, rfl, rfl⟩, fun c hc vs => ?_⟩
    repeat' (first | exact Bool.noConfusion ‹(!true) = true› | exact Bool.noConfusion ‹(!false) = false› | (intro h; exact h) | (intro h; rw [h]; rfl) | (intro h1 h2; rw [h1, h2]; rfl) | (intro _; assumption) | (intro _; exact rfl) | (intro h; exact Bool.noConfusion (h.symm.trans ‹_ = false›)) | refine ⟨fun _ => ?_, fun _ => ?_⟩ | refine ⟨?_⟩ | refine ⟨?_, ?_⟩ | fail)
    all_goals first | exact rfl | (refine chk_i ?_; simp_all [spIs]; done) | (refine chk_i ?_; simp only [spIs, decide_eq_true_eq, decide_eq_false_iff_not, Bool.not_eq_true', Bool.not_eq_false', Bool.or_eq_true, Bool.or_eq_false_iff, Bool.and_eq_true, Bool.and_eq_false_iff] at *; (repeat' split) <;> first | rfl | omega | (simp_all; done) | (simp_all; omega)) | (refine chk_b ?_; simp_all [spIs]; done) | (refine chk_b ?_; simp only [spIs, decide_eq_true_eq, decide_eq_false_iff_not, Bool.not_eq_true', Bool.not_eq_false', Bool.or_eq_true, Bool.or_eq_false_iff, Bool.and_eq_true, Bool.and_eq_false_iff] at *; (repeat' split) <;> first | rfl | omega | (simp_all; done) | (simp_all; omega)) | (refine chk_s ?_; simp_all [spIs]; done) | (refine chk_s ?_; simp only [spIs, decide_eq_true_eq, decide_eq_false_iff_not, Bool.not_eq_true', Bool.not_eq_false', Bool.or_eq_true, Bool.or_eq_false_iff, Bool.and_eq_true, Bool.and_eq_false_iff] at *; (repeat' split) <;> first | rfl | omega | (simp_all; done) | (simp_all; omega)) | (simp_all [spIs]; done) | (simp_all [spIs]; omega) | skip
  · cases hcr

end
end Go.X

namespace Go.X
open Go Go.Proofs
structure DOT (s : ByteArray) (n : Int) : Prop where
  s : s = ⟨#[46]⟩
  lo : 0 ≤ n
  hi : n ≤ 255
def cRepeat : Con
  | [.a (.s s), .a (.i .i64 n)] => some ⟨[DOT s n], .a (.s (bytesOf (List.replicate n.toNat 46))), [], []⟩
  | _ => none
theorem repeat_dots (n : Nat) : (⟨(Lib.repeatL (⟨#[46]⟩ : ByteArray).data.toList n).toArray⟩ : ByteArray) = bytesOf (List.replicate n 46) := by
  rw [bytesOf_u8]
  unfold u8L
  rw [List.map_replicate]
  congr 2
  have : ∀ n : Nat, Lib.repeatL [(46 : UInt8)] n = List.replicate n 46 := by
    intro n
    induction n with
    | zero => simp [Lib.repeatL]
    | succ n ih => simp [Lib.repeatL, List.replicate_succ] at *; exact ih
  exact this n
def splitL (s sep : ByteArray) : List ByteArray := pieces (byteAt sep 0) s
abbrev cSplitS : Con := cSplitF 9 splitL SPL
abbrev cRev : Con := cRevS
abbrev cBStrS : Con := cBStr 75 5
section
variable {G : Nat → World → Prop}
theorem okRepeat (_ : Hyp G) : ConOK Tryz.prog G 156 cRepeat := by
  refine con_ext Tryz.func156 rfl rfl ?_
  intro rvs cr hcr hpre
  unfold cRepeat at hcr
  split at hcr
  · rename_i s n
    cases hcr
    have hd := hpre _ (List.mem_singleton.2 rfl)
    have h0 := hd.lo; have h1 := hd.hi; have hs := hd.s
    subst hs
    obtain ⟨m, rfl⟩ := Int.eq_ofNat_of_zero_le h0
    refine ⟨_, .string (bytesOf (List.replicate m 46)), _, rfl, rfl, fun _ _ => rfl, fun g0 w _ _ => (Tryz.strings_Repeat ⟨#[46]⟩ m w (by omega) (by show 1 * m ≤ _; omega)).mono ?_⟩
    rintro e w' ⟨rfl, h⟩
    rw [repeat_dots]
    exact ⟨rfl, h⟩
  · cases hcr
theorem okSplitS (hS : Hyp G) : ConOK Tryz.prog G 32 cSplitS := by
  refine con_split Tryz.func32 rfl rfl (fun g0 w s sep hG hok => ?_)
  obtain ⟨c, rfl, hc⟩ := one_byte hok.sep
  have hsz := hok.s
  obtain ⟨e1, e2⟩ := split_pieces (s := s) (c := c)
  obtain ⟨m, hm⟩ := (hS.glob g0 w hG).mlen
  have hsp : splitL s ⟨#[c]⟩ = pieces (c.toNat : Int) s := by unfold splitL; rw [hc]
  rw [hsp]
  refine ⟨?_, ?_⟩
  · unfold pieces
    rw [List.length_map]
    have := cutAt_len (c.toNat : Int) (bytesL s)
    have e3 : (bytesL s).length = s.size := by simp [bytesL]
    unfold maxLen; omega
  · refine (Tryz.strings_Split s ⟨#[c]⟩ m w (by omega) hm (Nat.le_refl 1)).mono ?_
    rintro e w' ⟨rfl, rfl⟩
    rw [e1, e2]
    exact ⟨rfl, rfl⟩
theorem okRev (_ : Hyp G) : ConOK Tryz.prog G 43 cRev := by
  refine con_rev Tryz.func43 rfl rfl (fun b c l w hl hc hf => ?_) (fun a cap w => Tryz.slices_Reverse_string_empty a cap w)
  refine (Tryz.slices_Reverse_string_cells b 0 l.length c (fun i => l.getD i ByteArray.empty) w (by omega) (fun i hi => by rw [Nat.zero_add]; exact hc i hi) (fun j hj => by rw [Nat.zero_add]; exact hf j hj)).mono ?_
  rintro e w' ⟨rfl, q, rfl⟩
  refine ⟨rfl, q, ?_⟩
  congr 1
  unfold Lib.strsOf
  have e1 : (List.range l.length).map (fun i => (l.getD i ByteArray.empty).data.toList) = l.map (·.data.toList) := by
    apply List.ext_getElem
    · simp
    · intro i h1 h2
      simp at h1
      simp [List.getD_eq_getElem?_getD, List.getElem?_eq_getElem h1]
  rw [e1, ← List.map_reverse, List.map_map]
  rfl
theorem okBStrS (_ : Hyp G) : ConOK Tryz.prog G 42 (cBStr 75 5) := con_bstr Tryz.func42 rfl rfl str_law
end
end Go.X

namespace Go.X
open Go Go.Proofs

structure RPL (s o n : ByteArray) : Prop where
  o : o = ⟨#[9]⟩
  n : n = ⟨#[32]⟩
  s : s.size ≤ 4000000
structure CNL (s t : ByteArray) : Prop where
  s : s.size ≤ 4000000
  t : t = nlS
  v : True
structure WZ (s : ByteArray) : Prop where
  s : s.size ≤ 4000000
  t : True
  v : True
def cReplA : Con
  | [.a (.s s), .a (.s o), .a (.s n)] => some ⟨[RPL s o n], .a (.s (tabB s)), [], []⟩
  | _ => none
def cCAny : Con
  | [.a (.s s), .a (.s t)] => some ⟨[CNL s t], .a (.b (nlB s)), [], []⟩
  | _ => none
def cNeW : Con
  | [.a (.s y), .box _ 0 _ _ [.a (.s x)]] => some ⟨[], .a (.b (strEq x y)), [], []⟩
  | _ => none
def cIdxW : Con
  | [.row _ ⟨9, .str, l, _⟩, .fn 55 [.box _ 0 9 _ [.a (.s x)]]] => some ⟨[LB l], .a (.i .i64 (spIdxS (fun y => strEq x y) l)), [], []⟩
  | _ => none
def cDelW : Con
  | [.row id ⟨9, .str, l, true⟩, .fn 55 [.box _ 0 9 _ [.a (.s x)]]] => some ⟨[LB l], .row ⟨9, .str, l.filter (fun y => !strEq x y), true⟩, [id], []⟩
  | _ => none
def cWithout : Con
  | [.row id ⟨9, .str, l, true⟩, .a (.s x)] => some ⟨[LB l], .row ⟨9, .str, l.filter (fun y => !strEq x y), true⟩, [id], []⟩
  | _ => none
def cWords : Con
  | [.a (.s s)] => some ⟨[WZ s], .row ⟨9, .str, wB s, true⟩, [], []⟩
  | _ => none
section
variable {G : Nat → World → Prop}
theorem okReplA (hS : Hyp G) : ConOK Tryz.prog G 33 cReplA := by
  refine con_ext Tryz.func33 rfl rfl ?_
  intro rvs cr hcr hpre
  unfold cReplA at hcr
  split at hcr
  · rename_i s o n
    cases hcr
    have hd := hpre _ (List.mem_singleton.2 rfl)
    have ho := hd.o; have hn := hd.n; have hs := hd.s
    subst ho; subst hn
    refine ⟨_, .string (tabB s), _, rfl, rfl, fun _ _ => rfl, fun g0 w hlt hG => ?_⟩
    obtain ⟨m, hm⟩ := (hS.glob g0 w hG).mlen
    have hc : Lib.countB s ⟨#[9]⟩ ≤ s.size := by
      have : Lib.countB s ⟨#[9]⟩ = s.data.toList.count 9 := Lib.count_one 9 _
      rw [this]
      exact List.count_le_length
    refine (Tryz.strings_ReplaceAll s ⟨#[9]⟩ ⟨#[32]⟩ m w (by omega) hm (Nat.le_refl 1) ?_).mono ?_
    · show s.size + Lib.countB s ⟨#[9]⟩ * 1 ≤ _; omega
    · rintro e w' ⟨rfl, h⟩
      rw [show (⟨#[9]⟩ : ByteArray).data.toList = [9] from rfl, show (⟨#[32]⟩ : ByteArray).data.toList = [32] from rfl, repl_all]
      exact ⟨rfl, h⟩
  · cases hcr
theorem okCAny (_ : Hyp G) : ConOK Tryz.prog G 26 cCAny := by
  refine con_ext Tryz.func26 rfl rfl ?_
  intro rvs cr hcr hpre
  unfold cCAny at hcr
  split at hcr
  · rename_i s t
    cases hcr
    have hd := hpre _ (List.mem_singleton.2 rfl)
    have ht := hd.t; have hs := hd.s
    subst ht
    refine ⟨_, .bool (nlB s), _, rfl, rfl, fun _ _ => rfl, fun g0 w _ _ => (contains_nl Tryz.lays150 (by kernel_rfl) s w (by omega)).mono ?_⟩
    rintro e w' ⟨rfl, h⟩
    rw [nl_any]
    exact ⟨rfl, h⟩
  · cases hcr
set_option maxHeartbeats 4000000 in
set_option maxRecDepth 20000 in
theorem okNeW (hS : Hyp G) : ConOK Tryz.prog G 55 cNeW := by
  refine seat_con hS.seat [] [] trivial Tryz.func55 rfl rfl rfl ?_
  intro rvs cr hcr hpre
  unfold cNeW at hcr
  split at hcr
  · cases hcr
    refine ⟨⟨rfl, rfl, rfl⟩, fun c hc vs => ?_⟩
    repeat' (first | exact Bool.noConfusion ‹(!true) = true› | exact Bool.noConfusion ‹(!false) = false› | (intro h; exact h) | (intro h; rw [h]; rfl) | (intro h1 h2; rw [h1, h2]; rfl) | (intro _; assumption) | (intro _; exact rfl) | (intro h; exact Bool.noConfusion (h.symm.trans ‹_ = false›)) | refine ⟨fun _ => ?_, fun _ => ?_⟩ | refine ⟨?_⟩ | refine ⟨?_, ?_⟩ | fail)
    all_goals first | exact rfl | (refine chk_i ?_; simp_all [id_eq]; done) | (refine chk_i ?_; simp only [id_eq, decide_eq_true_eq, decide_eq_false_iff_not, Bool.not_eq_true', Bool.not_eq_false', Bool.or_eq_true, Bool.or_eq_false_iff, Bool.and_eq_true, Bool.and_eq_false_iff] at *; (repeat' split) <;> first | rfl | omega | (simp_all; done) | (simp_all; omega)) | (refine chk_b ?_; simp_all [id_eq]; done) | (refine chk_b ?_; simp only [id_eq, decide_eq_true_eq, decide_eq_false_iff_not, Bool.not_eq_true', Bool.not_eq_false', Bool.or_eq_true, Bool.or_eq_false_iff, Bool.and_eq_true, Bool.and_eq_false_iff] at *; (repeat' split) <;> first | rfl | omega | (simp_all; done) | (simp_all; omega)) | (refine chk_s ?_; simp_all [id_eq]; done) | (refine chk_s ?_; simp only [id_eq, decide_eq_true_eq, decide_eq_false_iff_not, Bool.not_eq_true', Bool.not_eq_false', Bool.or_eq_true, Bool.or_eq_false_iff, Bool.and_eq_true, Bool.and_eq_false_iff] at *; (repeat' split) <;> first | rfl | omega | (simp_all; done) | (simp_all; omega)) | (simp_all [id_eq]; done) | (simp_all [id_eq]; omega) | skip
  · cases hcr
set_option maxHeartbeats 4000000 in
set_option maxRecDepth 20000 in
theorem okIdxW (hS : Hyp G) : ConOK Tryz.prog G 88 cIdxW := by
  refine seat_con hS.seat [(55, cNeW)] [none] ⟨okNeW hS, trivial⟩ Tryz.func88 rfl rfl rfl ?_
  intro rvs cr hcr hpre
  unfold cIdxW at hcr
  split at hcr
  · rename_i id l own id2 own2 x
    cases hcr
    simp only [List.mem_cons, List.not_mem_nil, or_false, forall_eq_or_imp, forall_eq] at hpre
    refine ⟨⟨rfl, rfl, rfl⟩, fun c hc vs => ?_⟩
    repeat' (first | exact Bool.noConfusion ‹(!true) = true› | exact Bool.noConfusion ‹(!false) = false› | (intro h; exact h) | (intro h; rw [h]; rfl) | (intro h1 h2; rw [h1, h2]; rfl) | (intro _; assumption) | (intro _; exact rfl) | (intro h; exact Bool.noConfusion (h.symm.trans ‹_ = false›)) | refine ⟨fun _ => ?_, fun _ => ?_⟩ | refine ⟨?_⟩ | refine ⟨?_, ?_⟩ | fail)
    all_goals first | exact trivial | (refine (?_ : (_ : Int) ≠ _); decide) | exact rfl | skip
    refine Tr_loopH (α := Nat) (fun i => [(8, .i .i64 (.ofNat i))]) (fun _ => []) (fun _ => [])
        (fun i => i ≤ l.length ∧ ∀ y ∈ l.take i, strEq x y = false) (fun i => l.length - i) 0 ⟨by omega, by simp⟩ (by (refine ⟨?_, rfl, ?_, ?_, ?_, rfl⟩ <;> repeat' (first | exact trivial | (refine ⟨rfl, ?_⟩) | fail))) ?_
    rintro i ⟨hi, hq⟩
    refine vs.go rfl ?_
    repeat' (first | exact Bool.noConfusion ‹(!true) = true› | exact Bool.noConfusion ‹(!false) = false› | (intro h; exact h) | (intro h; rw [h]; rfl) | (intro h1 h2; rw [h1, h2]; rfl) | (intro _; assumption) | (intro _; exact rfl) | (intro h; exact Bool.noConfusion (h.symm.trans ‹_ = false›)) | refine ⟨fun _ => ?_, fun _ => ?_⟩ | refine ⟨?_⟩ | refine ⟨?_, ?_⟩ | fail)
    all_goals first | exact trivial | (refine (?_ : (_ : Int) ≠ _); decide) | exact rfl | skip
    all_goals first | exact hpre.1 | exact hpre.2 | skip
    · rename_i h; simpa using h
    · rename_i h hf; simp at h; exact chk_i (idx_someS (f := fun y => strEq x y) h hq hf).symm
    · rename_i h hf
      simp at h
      refine Again.mk (i + 1) ⟨by omega, take_nextS (f := fun y => strEq x y) h hq hf⟩ (by omega) ?_
      rw [wrapN (by have hll : l.length ≤ 2000000000 := (by first | exact hpre | exact hpre.1); omega)]
      (refine ⟨?_, rfl, ?_, ?_, ?_, rfl⟩ <;> repeat' (first | exact trivial | (refine ⟨rfl, ?_⟩) | fail))
    · rename_i h
      simp at h
      have hi' : i = l.length := by omega
      subst hi'
      exact chk_i (idx_noneS (f := fun y => strEq x y) hq).symm
  · cases hcr
set_option maxHeartbeats 4000000 in
set_option maxRecDepth 20000 in
theorem okDelW (hS : Hyp G) : ConOK Tryz.prog G 54 cDelW := by
  refine seat_con hS.seat [(88, cIdxW), (55, cNeW)] [] ⟨okIdxW hS, okNeW hS, trivial⟩ Tryz.func54 rfl rfl rfl ?_
  intro rvs cr hcr hpre
  unfold cDelW at hcr
  split at hcr
  · rename_i id l id2 own2 x
    cases hcr
    simp only [List.mem_cons, List.not_mem_nil, or_false, forall_eq_or_imp, forall_eq] at hpre
    refine ⟨⟨rfl, rfl, by simp [occOk, normL, occL, occ, vwsL, vws]⟩, fun c hc vs => ?_⟩
    simp only [normL, impL, imp, List.contains_cons, beq_self_eq_true, Bool.true_or, Bool.true_and]
    repeat' (first | exact Bool.noConfusion ‹(!true) = true› | exact Bool.noConfusion ‹(!false) = false› | (intro h; exact h) | (intro h; rw [h]; rfl) | (intro h1 h2; rw [h1, h2]; rfl) | (intro _; assumption) | (intro _; exact rfl) | (intro h; exact Bool.noConfusion (h.symm.trans ‹_ = false›)) | refine ⟨fun _ => ?_, fun _ => ?_⟩ | refine ⟨?_⟩ | refine ⟨?_, ?_⟩ | fail)
    all_goals first | exact trivial | (refine (?_ : (_ : Int) ≠ _); decide) | exact rfl | skip
    all_goals first | exact hpre | skip
    · rename_i h
      rcases idx_specS (fun y => strEq x y) l with ⟨_, h2⟩ | ⟨i, _, h2, _⟩
      · show (⟨9, .str, l, true⟩ : Row) = ⟨9, .str, _, true⟩
        rw [idx_allS h2]
      · rw [h2] at h; simp at h
    · rename_i h
      rcases idx_specS (fun y => strEq x y) l with ⟨h2, _⟩ | ⟨w, hw, h2, h3, h4⟩
      · rw [h2] at h; simp at h
      · simp only [h2]
        rw [wrapN (by have hll : l.length ≤ 2000000000 := hpre; omega)]
        refine Tr_loopH (α := Nat × Nat × List ByteArray) (fun x => [(5, .i .i64 (.ofNat x.1)), (6, .i .i64 (.ofNat x.2.1))]) (fun _ => []) (fun x => [(0, some ⟨9, .str, x.2.2, true⟩)])
          (fun z => DelInvS (fun y => strEq x y) l z.1 z.2.1 z.2.2) (fun x => l.length - x.2.1) (w, w + 1, l) (DelInvS.start hw h3 h4) (by (refine ⟨?_, rfl, ?_, ?_, ?_, rfl⟩ <;> repeat' (first | exact trivial | (refine ⟨rfl, ?_⟩) | fail))) ?_
        rintro ⟨i, j, row⟩ hq
        dsimp only at hq ⊢
        refine vs.go rfl ?_
        repeat' (first | exact Bool.noConfusion ‹(!true) = true› | exact Bool.noConfusion ‹(!false) = false› | (intro h; exact h) | (intro h; rw [h]; rfl) | (intro h1 h2; rw [h1, h2]; rfl) | (intro _; assumption) | (intro _; exact rfl) | (intro h; exact Bool.noConfusion (h.symm.trans ‹_ = false›)) | refine ⟨fun _ => ?_, fun _ => ?_⟩ | refine ⟨?_⟩ | refine ⟨?_, ?_⟩ | fail)
        all_goals first | exact trivial | (refine (?_ : (_ : Int) ≠ _); decide) | exact rfl | skip
        all_goals try dsimp only at *
        all_goals (have hlt := hq.lt; have hle := hq.le; have hlen := hq.len)
        · rename_i h; simpa using h
        · rename_i h _; simp at h; show (i : Int) < row.length; omega
        · rename_i h hf
          simp at h
          refine Again.mk (i + 1, j + 1, row.set i (row.getD j ByteArray.empty)) (hq.keep (by omega) hf) (by show l.length - (j + 1) < l.length - j; omega) ?_
          rw [wrapN (by have hll : l.length ≤ 2000000000 := hpre; omega), wrapN (by have hll : l.length ≤ 2000000000 := hpre; omega)]
          (refine ⟨?_, rfl, ?_, ?_, ?_, rfl⟩ <;> repeat' (first | exact trivial | (refine ⟨rfl, ?_⟩) | fail))
        · rename_i h hf
          simp at h
          refine Again.mk (i, j + 1, row) (hq.del (by omega) hf) (by show l.length - (j + 1) < l.length - j; omega) ?_
          rw [wrapN (by have hll : l.length ≤ 2000000000 := hpre; omega)]
          (refine ⟨?_, rfl, ?_, ?_, ?_, rfl⟩ <;> repeat' (first | exact trivial | (refine ⟨rfl, ?_⟩) | fail))
        all_goals rename_i h; simp at h
        · show (i : Int) ≤ row.length; omega
        · show i ≤ row.length; omega
        · exact Nat.le_refl _
        all_goals simp only [Int.toNat_natCast, Int.ofNat_eq_natCast, List.length_append, List.length_take, List.length_replicate, List.length_drop, List.take_append, List.take_take]
        · omega
        · omega
        · rw [show i - min i row.length = 0 by omega, show i - (min i row.length + (row.length - i)) = 0 by omega, Nat.min_self, List.take_zero, List.take_zero, List.append_nil, List.append_nil, hq.done (by omega)]
  · cases hcr
set_option maxHeartbeats 4000000 in
set_option maxRecDepth 20000 in
theorem okWithout (hS : Hyp G) : ConOK Tryz.prog G 31 cWithout := by
  refine seat_con hS.seat [(54, cDelW), (1000054, cMark)] [] ⟨okDelW hS, okMark, trivial⟩ Tryz.func31 rfl rfl rfl ?_
  intro rvs cr hcr hpre
  unfold cWithout at hcr
  split at hcr
  · rename_i id l x
    cases hcr
    simp only [List.mem_cons, List.not_mem_nil, or_false, forall_eq_or_imp, forall_eq] at hpre
    refine ⟨⟨rfl, rfl, by simp [occOk, normL, occL, occ, vwsL, vws]⟩, fun c hc vs => ?_⟩
    simp only [normL, impL, imp, List.contains_cons, beq_self_eq_true, Bool.true_or, Bool.true_and]
    repeat' (first | exact Bool.noConfusion ‹(!true) = true› | exact Bool.noConfusion ‹(!false) = false› | (intro h; exact h) | (intro h; rw [h]; rfl) | (intro h1 h2; rw [h1, h2]; rfl) | (intro _; assumption) | (intro _; exact rfl) | (intro h; exact Bool.noConfusion (h.symm.trans ‹_ = false›)) | refine ⟨fun _ => ?_, fun _ => ?_⟩ | refine ⟨?_⟩ | refine ⟨?_, ?_⟩ | fail)
    all_goals first | exact hpre | exact rfl | skip
  · cases hcr
set_option maxHeartbeats 4000000 in
set_option maxRecDepth 20000 in
theorem okWords (hS : Hyp G) : ConOK Tryz.prog G 15 cWords := by
  refine seat_con hS.seat [(33, cReplA), (32, cSplitS), (31, cWithout), (1000031, cMark)] [] ⟨okReplA hS, okSplitS hS, okWithout hS, okMark, trivial⟩ Tryz.func15 rfl rfl rfl ?_
  intro rvs cr hcr hpre
  unfold cWords at hcr
  split at hcr
  · rename_i s
    cases hcr
    simp only [List.mem_cons, List.not_mem_nil, or_false, forall_eq_or_imp, forall_eq] at hpre
    refine ⟨⟨rfl, rfl, rfl⟩, fun c hc vs => ?_⟩
    have hz := hpre.s
    have hc := pieces_count 32 (tabB s)
    have ht := tab_size s
    have hsp : splitL (tabB s) ⟨#[32]⟩ = pieces 32 (tabB s) := rfl
    repeat' (first | exact Bool.noConfusion ‹(!true) = true› | exact Bool.noConfusion ‹(!false) = false› | (intro h; exact h) | (intro h; rw [h]; rfl) | (intro h1 h2; rw [h1, h2]; rfl) | (intro _; assumption) | (intro _; exact rfl) | (intro h; exact Bool.noConfusion (h.symm.trans ‹_ = false›)) | refine ⟨fun _ => ?_, fun _ => ?_⟩ | refine ⟨?_⟩ | refine ⟨?_, ?_⟩ | fail)
    all_goals first | exact rfl | exact ⟨rfl, rfl, hz⟩ | exact ⟨by omega, rfl, trivial⟩ | skip
    · rename_i h
      have h : 4096 < s.size := by have := of_decide_eq_true h; omega
      show wB s = []
      unfold wB; rw [if_pos h]
    · rw [hsp]; show _ ≤ _; omega
    all_goals
      rename_i h
      have h : ¬ 4096 < s.size := by have := of_decide_eq_false h; omega
      have e : wB s = (splitL (tabB s) ⟨#[32]⟩).filter (fun y => !strEq ByteArray.empty y) := by
        unfold wB; rw [if_neg h, hsp]; exact (words_prog s).symm
      show (⟨9, .str, _, true⟩ : Row) = ⟨9, .str, wB s, true⟩
      rw [e]; rfl
  · cases hcr
end
end Go.X

namespace Go.X
open Go Go.Proofs Go.RowKit Go.Extern.Stop Go.Stop Go.Extern

theorem isTypeOf (v : Value) (w : World) : (Extern.ReflectliteType.typeOf #[.iface 120 v]).run Tryz.prog w = .ok (.iface 189 (.agg #[.pointer (some ⟨9, 120, none⟩)])) w := by kernel_rfl
theorem isComparable (w : World) : ((Extern.ReflectliteType.method fun t => do Rtype.noPackHeld "Comparable" t; (fun a => Value.bool a.comparable) <$> typeInfo t) #[.agg #[.pointer (some ⟨9, 120, none⟩)]]).run Tryz.prog w = .ok (.bool true) w := by kernel_rfl
theorem isMethodComparable (v : Value) (w : World) : (Go.method 345 189 v "Comparable").run Tryz.prog w = .ok (197, v) w := by kernel_rfl
theorem noIsE (v : Value) (xT : TypeId) (w : World) : (Instr.typeAssert (.iface 159 v) xT 191 true).run Tryz.prog w = .ok (.tuple #[.nilIface, .bool false]) w := run_typeAssert_lacksB Tryz.underlying191 (by kernel_rfl) (by kernel_rfl) v xT w
theorem noIsS (v : Value) (xT : TypeId) (w : World) : (Instr.typeAssert (.iface 120 v) xT 191 true).run Tryz.prog w = .ok (.tuple #[.nilIface, .bool false]) w := run_typeAssert_lacksB Tryz.underlying191 (by kernel_rfl) (by kernel_rfl) v xT w
theorem hasUnwrapE (v : Value) (xT : TypeId) (w : World) : (Instr.typeAssert (.iface 159 v) xT 194 true).run Tryz.prog w = .ok (.tuple #[.iface 159 v, .bool true]) w := run_typeAssert_hasB Tryz.underlying194 (by kernel_rfl) v xT w
theorem methodUnwrap (v : Value) (w : World) : (Go.method 345 159 v "Unwrap").run Tryz.prog w = .ok (188, v) w := by kernel_rfl
theorem eqlShapeless (w : World) : (binOp .eql 55 (.iface 120 (.agg #[])) (.iface 120 (.agg #[]))).run Tryz.prog w = .ok (.bool true) w := by kernel_rfl

set_option maxHeartbeats 4000000 in
set_option maxRecDepth 20000 in
theorem is_in (x : ByteArray) (w : World) :
    Calls Tryz.prog 84 #[.iface 159 (.agg #[.string x, .iface 120 (.agg #[])]), .iface 120 (.agg #[])] w fun e w' => e = .returned (.bool true) ∧ Below w.heap.size w w' := by
  have h8 := @run_callFunc_extern Tryz.prog 124 _ Extern.ReflectliteType.typeOf Tryz.func124 (by kernel_rfl) (by kernel_rfl) (by kernel_rfl) (by kernel_rfl)
  have h32 := @run_callFunc_extern Tryz.prog 197 _ (Extern.ReflectliteType.method fun t => do Rtype.noPackHeld "Comparable" t; pure (.bool (← typeInfo t).comparable)) Tryz.func197 (by kernel_rfl) (by kernel_rfl) (by kernel_rfl) (by kernel_rfl)
  have tT := isTypeOf
  have cT := isComparable
  have mR := isMethodComparable
  have nE := noIsE
  have nS := noIsS
  have uE := hasUnwrapE
  have mU := methodUnwrap
  have heq := eqlShapeless
  have hty := run_eql_iface_types (P := Tryz.prog) 159 120 (.agg #[.string x, .iface 120 (.agg #[])]) (.agg #[]) Tryz.underlying55 (by decide) w
  go_enter Tryz.func84, Tryz.ntmps84
  go_wp2
  refine wp_loop_rounds 2 ?_
  rw [rounds_succ]
  go_wp2
  rw [rounds_succ]
  go_wp2
  go_ret
  exact ⟨rfl, (Below.refl _ _).alloc (Nat.le_refl _) _⟩
set_option maxHeartbeats 4000000 in
set_option maxRecDepth 20000 in
theorem is_none (w : World) :
    Calls Tryz.prog 84 #[.nilIface, .iface 120 (.agg #[])] w fun e w' => e = .returned (.bool false) ∧ Below w.heap.size w w' := by
  have hn := run_eql_iface_nil_left (P := Tryz.prog) w 120 (.agg #[]) Tryz.underlying55
  go_enter Tryz.func84, Tryz.ntmps84
  go_wp2
  go_ret
  exact ⟨rfl, Below.refl _ _⟩
def cErrIs : Con
  | [.a .nili, .a (.ifc 120 (.agg []))] => some ⟨[], .a (.b false), [], []⟩
  | [.a (.ifc 159 (.agg [.s _, .ifc 120 (.agg [])])), .a (.ifc 120 (.agg []))] => some ⟨[], .a (.b true), [], []⟩
  | _ => none
theorem okErrIs {G : Nat → World → Prop} (hS : Hyp G) : ConOK Tryz.prog G 84 cErrIs := by
  refine con_ext Tryz.func84 rfl rfl fun rvs cr hcr _ => ?_
  unfold cErrIs at hcr
  split at hcr
  · cases hcr
    exact ⟨[.nilIface, .iface 120 (.agg #[])], .bool false, .b false, rfl, rfl, fun _ _ => rfl, fun g0 w _ _ => is_none w⟩
  · rename_i x
    cases hcr
    exact ⟨[.iface 159 (.agg #[.string x, .iface 120 (.agg #[])]), .iface 120 (.agg #[])], .bool true, .b true, rfl, rfl, fun _ _ => rfl, fun g0 w _ _ => is_in x w⟩
  · cases hcr
end Go.X

namespace Go.X
open Go Go.Proofs

def cISq : Con
  | [.a (.i .u8 f), .a (.i .u8 r)] => some ⟨[BY f, BY r], .a (.i .i64 (rSq f r)), [], []⟩
  | _ => none
def cR12Sq : Con
  | [.a (.i .i64 n)] => some ⟨[Sqr n], .a (.s (bytesOf [97 + n % 9, 48 + n / 9])), [], []⟩
  | _ => none
def cIParse : Con
  | [.a (.s s)] => some ⟨[], .tup [.agg [.a (.i .i64 (iFr s)), .a (.i .i64 (iTo s))], .a (.i .i64 (iErr s))], [], []⟩
  | _ => none
def cIPrint : Con
  | [.agg [.a (.i .i64 f), .a (.i .i64 t)]] => some ⟨[], .a (.s (spPrint f t)), [], []⟩
  | _ => none
def cR12Print : Con
  | [.agg [.a (.i .i64 f), .a (.i .i64 t)]] => some ⟨[], .a (.s (spPrint f t)), [], []⟩
  | _ => none
section
variable {G : Nat → World → Prop}
set_option maxHeartbeats 4000000 in
set_option maxRecDepth 20000 in
theorem okISq (hS : Hyp G) : ConOK Tryz.prog G 123 cISq := by
  refine seat_con hS.seat [(148, cSquare)] [] ⟨okSquare hS, trivial⟩ Tryz.func123 rfl rfl rfl ?_
  intro rvs cr hcr hpre
  unfold cISq at hcr
  split at hcr
  · rename_i f r
    cases hcr
    simp only [List.mem_cons, List.not_mem_nil, or_false, forall_eq_or_imp, forall_eq] at hpre
    refine ⟨⟨rfl, rfl, rfl⟩, fun c hc vs => ?_⟩
    have hf := hpre.1
    have hr := hpre.2
    have f1 := hf.lo; have f2 := hf.hi; have r1 := hr.lo; have r2 := hr.hi
    repeat' (first | exact Bool.noConfusion ‹(!true) = true› | exact Bool.noConfusion ‹(!false) = false› | (intro h; exact h) | (intro h; rw [h]; rfl) | (intro h1 h2; rw [h1, h2]; rfl) | (intro _; assumption) | (intro _; exact rfl) | (intro h; exact Bool.noConfusion (h.symm.trans ‹_ = false›)) | refine ⟨fun _ => ?_, fun _ => ?_⟩ | refine ⟨?_⟩ | refine ⟨?_, ?_⟩ | fail)
    all_goals first | exact rfl | skip
    all_goals (refine chk_i ?_; simp only [Bool.and_eq_true, Bool.and_eq_false_iff, decide_eq_true_eq, decide_eq_false_iff_not, rSq_eq, square_eq] at *)
    · rw [wrapB (x := f + 32) (by omega) (by omega), wrap64 (x := f + 32) (by omega) (by omega), wrap64 (x := r) (by omega) (by omega), wrap64 (x := f + 32 - 97) (by omega) (by omega), wrap64 (x := r - 48) (by omega) (by omega)]
      (repeat' split) <;> omega
    · rw [wrap64 (x := f) (by omega) (by omega), wrap64 (x := r) (by omega) (by omega), wrap64 (x := f - 97) (by omega) (by omega), wrap64 (x := r - 48) (by omega) (by omega)]
      (repeat' split) <;> omega
    · (repeat' split) <;> omega
  · cases hcr
set_option maxHeartbeats 4000000 in
set_option maxRecDepth 20000 in
theorem okR12Sq (hS : Hyp G) : ConOK Tryz.prog G 68 cR12Sq := by
  refine seat_con hS.seat [] [] trivial Tryz.func68 rfl rfl rfl ?_
  intro rvs cr hcr hpre
  unfold cR12Sq at hcr
  split at hcr
  · rename_i n
    cases hcr
    simp only [List.mem_cons, List.not_mem_nil, or_false, forall_eq_or_imp, forall_eq] at hpre
    refine ⟨⟨rfl, rfl, rfl⟩, fun c hc vs => ?_⟩
    have h1 := hpre.lo
    have h2 := hpre.hi
    repeat' (first | exact Bool.noConfusion ‹(!true) = true› | exact Bool.noConfusion ‹(!false) = false› | (intro h; exact h) | (intro h; rw [h]; rfl) | (intro h1 h2; rw [h1, h2]; rfl) | (intro _; assumption) | (intro _; exact rfl) | (intro h; exact Bool.noConfusion (h.symm.trans ‹_ = false›)) | refine ⟨fun _ => ?_, fun _ => ?_⟩ | refine ⟨?_⟩ | refine ⟨?_, ?_⟩ | fail)
    all_goals first | exact trivial | (refine (?_ : (_ : Int) ≠ _); decide) | exact rfl | skip
    refine chk_s ?_
    show bytesOf [IntKind.u8.wrap (IntKind.i64.wrap (97 + n.tmod 9)), IntKind.u8.wrap (IntKind.i64.wrap (48 + IntKind.i64.wrap (n.tdiv 9)))] = _
    rw [tmod9 h1, tdiv9 h1, wrap64 (x := n / 9) (by omega) (by omega), wrap64 (x := 97 + n % 9) (by omega) (by omega), wrap64 (x := 48 + n / 9) (by omega) (by omega), wrapB (by omega) (by omega), wrapB (by omega) (by omega)]
  · cases hcr
end
end Go.X

namespace Go.X
open Go Go.Proofs

section
variable {G : Nat → World → Prop}
set_option maxHeartbeats 4000000 in
set_option maxRecDepth 20000 in
theorem okIParse (hS : Hyp G) : ConOK Tryz.prog G 51 cIParse := by
  refine seat_con hS.seat [(123, cISq), (84, cErrIs)] [] ⟨okISq hS, okErrIs hS, trivial⟩ Tryz.func51 rfl rfl rfl ?_
  intro rvs cr hcr hpre
  unfold cIParse at hcr
  split at hcr
  · rename_i s
    cases hcr
    refine ⟨⟨rfl, rfl, rfl⟩, fun c hc vs => ?_⟩
    repeat' (first | exact Bool.noConfusion ‹(!true) = true› | exact Bool.noConfusion ‹(!false) = false› | (intro h; exact h) | (intro h; rw [h]; rfl) | (intro h1 h2; rw [h1, h2]; rfl) | (intro _; assumption) | (intro _; exact rfl) | (intro h; exact Bool.noConfusion (h.symm.trans ‹_ = false›)) | refine ⟨fun _ => ?_, fun _ => ?_⟩ | refine ⟨?_⟩ | refine ⟨?_, ?_⟩ | fail)
    all_goals first | exact trivial | (refine (?_ : (_ : Int) ≠ _); decide) | exact rfl | skip
    refine trOps_none rfl (inl_one false hS.seat.tt rfl rfl Tryz.func83 rfl rfl ?_)
    intro cI hk hr
    refine (vs.kin hk).go rfl ?_
    repeat' (first | exact Bool.noConfusion ‹(!true) = true› | exact Bool.noConfusion ‹(!false) = false› | (intro h; exact h) | (intro h; rw [h]; rfl) | (intro h1 h2; rw [h1, h2]; rfl) | (intro _; assumption) | (intro _; exact rfl) | (intro h; exact Bool.noConfusion (h.symm.trans ‹_ = false›)) | refine ⟨fun _ => ?_, fun _ => ?_⟩ | refine ⟨?_⟩ | refine ⟨?_, ?_⟩ | fail)
    all_goals first | exact trivial | (refine (?_ : (_ : Int) ≠ _); decide) | exact rfl | skip
    all_goals first | (refine vs.on ?_) | skip
    repeat' (first | exact Bool.noConfusion ‹(!true) = true› | exact Bool.noConfusion ‹(!false) = false› | (intro h; exact h) | (intro h; rw [h]; rfl) | (intro h1 h2; rw [h1, h2]; rfl) | (intro _; assumption) | (intro _; exact rfl) | (intro h; exact Bool.noConfusion (h.symm.trans ‹_ = false›)) | refine ⟨fun _ => ?_, fun _ => ?_⟩ | refine ⟨?_⟩ | refine ⟨?_, ?_⟩ | fail)
    all_goals first | exact trivial | (refine (?_ : (_ : Int) ≠ _); decide) | exact rfl | skip
    all_goals first | (intro h; have h := beqT h; exact ⟨by decide, by omega⟩) | (have h5 := size5 (s := s) ‹_›; first | omega | (simp only [ByteArray.size_extract]; omega)) | skip
    all_goals first | exact BY.at _ _ | skip
    all_goals (try simp only [show Int.toNat 0 = 0 from rfl, show Int.toNat 1 = 1 from rfl, show Int.toNat 2 = 2 from rfl, show Int.toNat 3 = 3 from rfl] at *)
    all_goals first | (have h4 := ne4 (by with_reducible assumption); omega) | skip
    all_goals first
      | (have e := iS_t (s := s) (by with_reducible assumption); first | (have r := okX_4 e (by with_reducible assumption); refine chk_i ?_; first | (with_reducible exact r.1.symm) | (with_reducible exact r.2.1.symm) | (with_reducible exact r.2.2.symm)) | (have r := okX_n e (by with_reducible assumption); refine chk_i ?_; first | (with_reducible exact r.1.symm) | (with_reducible exact r.2.1.symm) | (with_reducible exact r.2.2.symm)) | (have r := okX_y e (by with_reducible assumption) (by with_reducible assumption); refine chk_i ?_; first | (with_reducible exact r.1.symm) | (with_reducible exact r.2.1.symm) | (with_reducible exact r.2.2.symm)))
      | (have e := iS_f (s := s) (by with_reducible assumption); first | (have r := okX_4 e (by with_reducible assumption); refine chk_i ?_; first | (with_reducible exact r.1.symm) | (with_reducible exact r.2.1.symm) | (with_reducible exact r.2.2.symm)) | (have r := okX_n e (by with_reducible assumption); refine chk_i ?_; first | (with_reducible exact r.1.symm) | (with_reducible exact r.2.1.symm) | (with_reducible exact r.2.2.symm)) | (have r := okX_y e (by with_reducible assumption) (by with_reducible assumption); refine chk_i ?_; first | (with_reducible exact r.1.symm) | (with_reducible exact r.2.1.symm) | (with_reducible exact r.2.2.symm)))
      | skip
  · cases hcr
end
end Go.X

namespace Go.X
open Go Go.Proofs

section
variable {G : Nat → World → Prop}
set_option maxHeartbeats 4000000 in
set_option maxRecDepth 20000 in
theorem okR12Print (hS : Hyp G) : ConOK Tryz.prog G 45 cR12Print := by
  refine seat_con hS.seat [(68, cR12Sq)] [] ⟨okR12Sq hS, trivial⟩ Tryz.func45 rfl rfl rfl ?_
  intro rvs cr hcr hpre
  unfold cR12Print at hcr
  split at hcr
  · rename_i f t
    cases hcr
    refine ⟨⟨rfl, rfl, rfl⟩, fun c hc vs => ?_⟩
    repeat' (first | exact Bool.noConfusion ‹(!true) = true› | exact Bool.noConfusion ‹(!false) = false› | (intro h; exact h) | (intro h; rw [h]; rfl) | (intro h1 h2; rw [h1, h2]; rfl) | (intro _; assumption) | (intro _; exact rfl) | (intro h; exact Bool.noConfusion (h.symm.trans ‹_ = false›)) | refine ⟨fun _ => ?_, fun _ => ?_⟩ | refine ⟨?_⟩ | refine ⟨?_, ?_⟩ | fail)
    all_goals first | exact trivial | (refine (?_ : (_ : Int) ≠ _); decide) | exact rfl | skip
    all_goals
      have hx := ‹(_ || decide (t > 89)) = _›
      simp only [Bool.or_eq_true, Bool.or_eq_false_iff, decide_eq_true_eq, decide_eq_false_iff_not] at hx
    all_goals first | omega | exact ⟨by omega, by omega⟩ | skip
    · exact chk_s (print_no (fun h => by have := isSquare_iff.1 h.1; have := isSquare_iff.1 h.2; omega)).symm
    · rw [bytesOf_size, bytesOf_size]; exact (by decide : (2 + 2 : Nat) ≤ 9223372036854775807)
    · exact chk_s (print_yes ⟨by omega, by omega⟩ ⟨by omega, by omega⟩).symm
  · cases hcr
set_option maxHeartbeats 4000000 in
set_option maxRecDepth 20000 in
theorem okIPrint (hS : Hyp G) : ConOK Tryz.prog G 34 cIPrint := by
  refine seat_con hS.seat [(58, cFile), (59, cRank)] [] ⟨okFile hS, okRank hS, trivial⟩ Tryz.func34 rfl rfl rfl ?_
  intro rvs cr hcr hpre
  unfold cIPrint at hcr
  split at hcr
  · rename_i f t
    cases hcr
    refine ⟨⟨rfl, rfl, rfl⟩, fun c hc vs => ?_⟩
    repeat' (first | exact Bool.noConfusion ‹(!true) = true› | exact Bool.noConfusion ‹(!false) = false› | (intro h; exact h) | (intro h; rw [h]; rfl) | (intro h1 h2; rw [h1, h2]; rfl) | (intro _; assumption) | (intro _; exact rfl) | (intro h; exact Bool.noConfusion (h.symm.trans ‹_ = false›)) | refine ⟨fun _ => ?_, fun _ => ?_⟩ | refine ⟨?_⟩ | refine ⟨?_, ?_⟩ | fail)
    all_goals first | exact trivial | (refine (?_ : (_ : Int) ≠ _); decide) | exact rfl | skip
    refine Tr_nilTmp 5 (.int .u8) 3 rfl (by decide) ?_
    refine Tr_loopH (α := Nat) (fun i => [(3, .row 0), (11, .i .i64 (.ofNat i))]) (fun _ => []) (fun i => [(0, some ⟨5, .int .u8, (pr4 f t).take (2 * i), true⟩)]) (fun i => i ≤ 2 ∧ (1 ≤ i → Sqr f) ∧ (2 ≤ i → Sqr t)) (fun i => 2 - i) 0 ⟨by omega, by omega, by omega⟩ (by (refine ⟨?_, rfl, ?_, ?_, ?_, rfl⟩ <;> repeat' (first | exact trivial | (refine ⟨rfl, ?_⟩) | fail))) ?_
    rintro i ⟨hi, h1, h2⟩
    obtain rfl | rfl | rfl : i = 0 ∨ i = 1 ∨ i = 2 := by omega
    · refine vs.go rfl ?_
      repeat' (first | exact Bool.noConfusion ‹(!true) = true› | exact Bool.noConfusion ‹(!false) = false› | (intro h; exact h) | (intro h; rw [h]; rfl) | (intro h1 h2; rw [h1, h2]; rfl) | (intro _; assumption) | (intro _; exact rfl) | (intro h; exact Bool.noConfusion (h.symm.trans ‹_ = false›)) | refine ⟨fun _ => ?_, fun _ => ?_⟩ | refine ⟨?_⟩ | refine ⟨?_, ?_⟩ | fail)
      all_goals first | exact trivial | (refine (?_ : (_ : Int) ≠ _); decide) | exact rfl | skip
      all_goals try dsimp only at *
      · exact chk_s (print_n1 ‹_›).symm
      · exact (by decide : (0 + 2 : Nat) ≤ 4000000000)
      · exact (by decide : (0 + 2) * 1 ≤ 140737488355328)
      · obtain ⟨hs, hw⟩ := pr_w ‹decide (spFile f < 0) = false›
        refine Again.mk 1 ⟨by omega, fun _ => hs, by omega⟩ (by omega) ?_
        rw [hw]
        (refine ⟨?_, rfl, ?_, ?_, ?_, rfl⟩ <;> repeat' (first | exact trivial | (refine ⟨rfl, ?_⟩) | fail))
    · refine vs.go rfl ?_
      repeat' (first | exact Bool.noConfusion ‹(!true) = true› | exact Bool.noConfusion ‹(!false) = false› | (intro h; exact h) | (intro h; rw [h]; rfl) | (intro h1 h2; rw [h1, h2]; rfl) | (intro _; assumption) | (intro _; exact rfl) | (intro h; exact Bool.noConfusion (h.symm.trans ‹_ = false›)) | refine ⟨fun _ => ?_, fun _ => ?_⟩ | refine ⟨?_⟩ | refine ⟨?_, ?_⟩ | fail)
      all_goals first | exact trivial | (refine (?_ : (_ : Int) ≠ _); decide) | exact rfl | skip
      all_goals try dsimp only at *
      · exact chk_s (print_n2 ‹_›).symm
      · exact (by decide : (2 + 2 : Nat) ≤ 4000000000)
      · exact (by decide : (2 + 2) * 1 ≤ 140737488355328)
      · obtain ⟨hs, hw⟩ := pr_w ‹decide (spFile t < 0) = false›
        refine Again.mk 2 ⟨by omega, fun _ => h1 (by omega), fun _ => hs⟩ (by omega) ?_
        rw [hw]
        (refine ⟨?_, rfl, ?_, ?_, ?_, rfl⟩ <;> repeat' (first | exact trivial | (refine ⟨rfl, ?_⟩) | fail))
    · refine vs.go rfl ?_
      repeat' (first | exact Bool.noConfusion ‹(!true) = true› | exact Bool.noConfusion ‹(!false) = false› | (intro h; exact h) | (intro h; rw [h]; rfl) | (intro h1 h2; rw [h1, h2]; rfl) | (intro _; assumption) | (intro _; exact rfl) | (intro h; exact Bool.noConfusion (h.symm.trans ‹_ = false›)) | refine ⟨fun _ => ?_, fun _ => ?_⟩ | refine ⟨?_⟩ | refine ⟨?_, ?_⟩ | fail)
      all_goals first | exact trivial | (refine (?_ : (_ : Int) ≠ _); decide) | exact rfl | skip
      all_goals try dsimp only at *
      exact chk_s (print_4 (h1 (by omega)) (h2 (by omega))).symm
  · cases hcr
end
end Go.X

namespace Go.X
open Go Go.Proofs

def cSame : Con
  | [.row _ ⟨66, .pair (.int .i64) (.int .i64), l, _⟩, .row _ ⟨66, .pair (.int .i64) (.int .i64), m, _⟩] => some ⟨[LL l m], .a (.b (sameM l m)), [], []⟩
  | [.view _ lo hi _ ⟨66, .pair (.int .i64) (.int .i64), l, _⟩, .row _ ⟨66, .pair (.int .i64) (.int .i64), m, _⟩] => some ⟨[LL (cutL lo hi l) m], .a (.b (sameM (cutL lo hi l) m)), [], []⟩
  | [.row _ ⟨66, .pair (.int .i64) (.int .i64), l, _⟩, .a .nils] => some ⟨[LL l []], .a (.b (sameM l [])), [], []⟩
  | _ => none
section
variable {G : Nat → World → Prop}
set_option maxHeartbeats 4000000 in
set_option maxRecDepth 20000 in
theorem okSame (hS : Hyp G) : ConOK Tryz.prog G 30 cSame := by
  refine seat_con hS.seat [] [none, some (66, .pair (.int .i64) (.int .i64))] trivial Tryz.func30 rfl rfl rfl ?_
  intro rvs cr hcr hpre
  unfold cSame at hcr
  split at hcr
  · rename_i id l ow id2 m ow2
    cases hcr
    simp only [List.mem_cons, List.not_mem_nil, or_false, forall_eq_or_imp, forall_eq] at hpre
    refine ⟨⟨rfl, rfl, rfl⟩, fun c hc vs => ?_⟩
    have hl := hpre.l
    have hm := hpre.m
    repeat' (first | exact Bool.noConfusion ‹(!true) = true› | exact Bool.noConfusion ‹(!false) = false› | (intro h; exact h) | (intro h; rw [h]; rfl) | (intro h1 h2; rw [h1, h2]; rfl) | (intro _; assumption) | (intro _; exact rfl) | (intro h; exact Bool.noConfusion (h.symm.trans ‹_ = false›)) | refine ⟨fun _ => ?_, fun _ => ?_⟩ | refine ⟨?_⟩ | refine ⟨?_, ?_⟩ | fail)
    all_goals first | exact trivial | (refine (?_ : (_ : Int) ≠ _); decide) | exact rfl | skip
    all_goals try dsimp only at *
    · exact chk_b (same_len ‹_›).symm
    have hlm : l.length = m.length := by have := bneF ‹((l.length : Int) != (m.length : Int)) = false›; omega
    refine Tr_loopH (α := Nat) (fun i => [(5, .i .i64 (.ofNat i))]) (fun _ => []) (fun _ => []) (fun i => i ≤ l.length ∧ ∀ j, j < i → l.getD j (0, 0) = m.getD j (0, 0)) (fun i => l.length - i) 0 ⟨Nat.zero_le _, fun j hj => by omega⟩ (by (refine ⟨?_, rfl, ?_, ?_, ?_, rfl⟩ <;> repeat' (first | exact trivial | (refine ⟨rfl, ?_⟩) | fail))) ?_
    rintro i ⟨hi, hq⟩
    refine vs.go rfl ?_
    repeat' (first | exact Bool.noConfusion ‹(!true) = true› | exact Bool.noConfusion ‹(!false) = false› | (intro h; exact h) | (intro h; rw [h]; rfl) | (intro h1 h2; rw [h1, h2]; rfl) | (intro _; assumption) | (intro _; exact rfl) | (intro h; exact Bool.noConfusion (h.symm.trans ‹_ = false›)) | refine ⟨fun _ => ?_, fun _ => ?_⟩ | refine ⟨?_⟩ | refine ⟨?_, ?_⟩ | fail)
    all_goals first | exact trivial | (refine (?_ : (_ : Int) ≠ _); decide) | exact rfl | skip
    all_goals try dsimp only at *
    · rename_i h1; have := ltN h1; show (i : Int) < (l.length : Int); omega
    · rename_i h1; have := ltN h1; show (i : Int) < (m.length : Int); omega
    · rename_i h1 h2
      have := ltN h1
      exact chk_b (same_no (ltN h1) (by omega) h2).symm
    · rename_i h1 h2
      have hlt := ltN h1
      refine Again.mk (i + 1) ⟨by omega, fun j hj => ?_⟩ (by omega) ?_
      · by_cases hji : j = i
        · subst hji; exact pair_eq h2
        · exact hq j (by omega)
      · rw [wrapN (by omega)]
        (refine ⟨?_, rfl, ?_, ?_, ?_, rfl⟩ <;> repeat' (first | exact trivial | (refine ⟨rfl, ?_⟩) | fail))
    · rename_i h1
      have hil : i = l.length := by have := geN h1; omega
      subst hil
      exact chk_b (same_yes hlm hq).symm
  · rename_i id v0 v1 ex l0 ow id2 m ow2
    cases hcr
    simp only [List.mem_cons, List.not_mem_nil, or_false, forall_eq_or_imp, forall_eq] at hpre
    refine ⟨⟨rfl, rfl, rfl⟩, fun c hc vs => ?_⟩
    have hl := hpre.l
    have hm := hpre.m
    repeat' (first | exact Bool.noConfusion ‹(!true) = true› | exact Bool.noConfusion ‹(!false) = false› | (intro h; exact h) | (intro h; rw [h]; rfl) | (intro h1 h2; rw [h1, h2]; rfl) | (intro _; assumption) | (intro _; exact rfl) | (intro h; exact Bool.noConfusion (h.symm.trans ‹_ = false›)) | refine ⟨fun _ => ?_, fun _ => ?_⟩ | refine ⟨?_⟩ | refine ⟨?_, ?_⟩ | fail)
    all_goals first | exact trivial | (refine (?_ : (_ : Int) ≠ _); decide) | exact rfl | skip
    all_goals try dsimp only at *
    · exact chk_b (same_len ‹_›).symm
    have hlm : (cutL v0 v1 l0).length = m.length := by have := bneF ‹(((cutL v0 v1 l0).length : Int) != (m.length : Int)) = false›; omega
    refine Tr_loopH (α := Nat) (fun i => [(5, .i .i64 (.ofNat i))]) (fun _ => []) (fun _ => []) (fun i => i ≤ (cutL v0 v1 l0).length ∧ ∀ j, j < i → (cutL v0 v1 l0).getD j (0, 0) = m.getD j (0, 0)) (fun i => (cutL v0 v1 l0).length - i) 0 ⟨Nat.zero_le _, fun j hj => by omega⟩ (by (refine ⟨?_, rfl, ?_, ?_, ?_, rfl⟩ <;> repeat' (first | exact trivial | (refine ⟨rfl, ?_⟩) | fail))) ?_
    rintro i ⟨hi, hq⟩
    refine vs.go rfl ?_
    repeat' (first | exact Bool.noConfusion ‹(!true) = true› | exact Bool.noConfusion ‹(!false) = false› | (intro h; exact h) | (intro h; rw [h]; rfl) | (intro h1 h2; rw [h1, h2]; rfl) | (intro _; assumption) | (intro _; exact rfl) | (intro h; exact Bool.noConfusion (h.symm.trans ‹_ = false›)) | refine ⟨fun _ => ?_, fun _ => ?_⟩ | refine ⟨?_⟩ | refine ⟨?_, ?_⟩ | fail)
    all_goals first | exact trivial | (refine (?_ : (_ : Int) ≠ _); decide) | exact rfl | skip
    all_goals try dsimp only at *
    · rename_i h1; have := ltN h1; show (i : Int) < ((cutL v0 v1 l0).length : Int); omega
    · rename_i h1; have := ltN h1; show (i : Int) < (m.length : Int); omega
    · rename_i h1 h2
      have := ltN h1
      exact chk_b (same_no (ltN h1) (by omega) h2).symm
    · rename_i h1 h2
      have hlt := ltN h1
      refine Again.mk (i + 1) ⟨by omega, fun j hj => ?_⟩ (by omega) ?_
      · by_cases hji : j = i
        · subst hji; exact pair_eq h2
        · exact hq j (by omega)
      · rw [wrapN (by omega)]
        (refine ⟨?_, rfl, ?_, ?_, ?_, rfl⟩ <;> repeat' (first | exact trivial | (refine ⟨rfl, ?_⟩) | fail))
    · rename_i h1
      have hil : i = (cutL v0 v1 l0).length := by have := geN h1; omega
      subst hil
      exact chk_b (same_yes hlm hq).symm
  · rename_i id l ow
    cases hcr
    simp only [List.mem_cons, List.not_mem_nil, or_false, forall_eq_or_imp, forall_eq] at hpre
    refine ⟨⟨rfl, rfl, rfl⟩, fun c hc vs => ?_⟩
    have hl := hpre.l
    repeat' (first | exact Bool.noConfusion ‹(!true) = true› | exact Bool.noConfusion ‹(!false) = false› | (intro h; exact h) | (intro h; rw [h]; rfl) | (intro h1 h2; rw [h1, h2]; rfl) | (intro _; assumption) | (intro _; exact rfl) | (intro h; exact Bool.noConfusion (h.symm.trans ‹_ = false›)) | refine ⟨fun _ => ?_, fun _ => ?_⟩ | refine ⟨?_⟩ | refine ⟨?_, ?_⟩ | fail)
    all_goals first | exact trivial | (refine (?_ : (_ : Int) ≠ _); decide) | exact rfl | skip
    all_goals try dsimp only at *
    · exact chk_b (same_len (m := []) ‹_›).symm
    have hlm : l.length = ([] : List (Int × Int)).length := by have := bneF ‹((l.length : Int) != _) = false›; exact Int.ofNat_inj.1 this
    refine Tr_loopH (α := Nat) (fun i => [(5, .i .i64 (.ofNat i))]) (fun _ => []) (fun _ => []) (fun i => i ≤ l.length ∧ ∀ j, j < i → l.getD j (0, 0) = ([] : List (Int × Int)).getD j (0, 0)) (fun i => l.length - i) 0 ⟨Nat.zero_le _, fun j hj => by omega⟩ (by (refine ⟨?_, rfl, ?_, ?_, ?_, rfl⟩ <;> repeat' (first | exact trivial | (refine ⟨rfl, ?_⟩) | fail))) ?_
    rintro i ⟨hi, hq⟩
    have hi0 : i = 0 := by rw [hlm] at hi; exact Nat.le_zero.1 hi
    subst hi0
    refine vs.go rfl ?_
    repeat' (first | exact Bool.noConfusion ‹(!true) = true› | exact Bool.noConfusion ‹(!false) = false› | (intro h; exact h) | (intro h; rw [h]; rfl) | (intro h1 h2; rw [h1, h2]; rfl) | (intro _; assumption) | (intro _; exact rfl) | (intro h; exact Bool.noConfusion (h.symm.trans ‹_ = false›)) | refine ⟨fun _ => ?_, fun _ => ?_⟩ | refine ⟨?_⟩ | refine ⟨?_, ?_⟩ | fail)
    all_goals first | exact trivial | (refine (?_ : (_ : Int) ≠ _); decide) | exact rfl | skip
    all_goals try dsimp only at *
    all_goals first
      | (refine chk_b ?_; rw [List.eq_nil_of_length_eq_zero hlm]; rfl)
      | (have h9 := of_decide_eq_true ‹decide (_ < (l.length : Int)) = true›; rw [hlm] at h9; exact absurd h9 (by decide))
      | skip
  · cases hcr
end
end Go.X

namespace Go.X
open Go Go.Proofs

structure EN (n : Int) (l : List ByteArray) : Prop where
  lo : 0 ≤ n
  hi : n ≤ 1000
  len : l.length ≤ 2000000000
structure LLS (l m : List ByteArray) : Prop where
  l : l.length ≤ 2000000000
  m : m.length ≤ 2000000000
  v : True
def cMoves : Con
  | [.view _ lo hi _ ⟨9, .str, l, _⟩] => some ⟨[LB (cutL lo hi l)], .tup [.row ⟨66, .pair (.int .i64) (.int .i64), (mvL (cutL lo hi l)).1, true⟩, .a (.i .i64 (mvL (cutL lo hi l)).2)], [], []⟩
  | _ => none
def cEnds : Con
  | [.a (.i .i64 n), .box _ 0 _ _ [.row _ ⟨9, .str, l, _⟩]] => some ⟨[EN n l], .a (.b (endsAt l n.toNat)), [], []⟩
  | _ => none
def cPlace : Con
  | [.row _ ⟨9, .str, l, _⟩] => some ⟨[LB l], .a (.i .i64 (placeN l)), [], []⟩
  | _ => none
def cTexts : Con
  | [.row _ ⟨9, .str, l, _⟩, .row _ ⟨9, .str, m, _⟩] => some ⟨[LLS l m], .a (.b (sameT l m)), [], []⟩
  | _ => none
def cText23 : Con
  | [.row _ ⟨66, .pair (.int .i64) (.int .i64), l, _⟩] => some ⟨[LB l], .tup [.a (.s (txL l).1), .a (.b (txL l).2)], [], []⟩
  | _ => none
section
variable {G : Nat → World → Prop}
set_option maxHeartbeats 4000000 in
set_option maxRecDepth 20000 in
theorem okMoves (hS : Hyp G) : ConOK Tryz.prog G 28 cMoves := by
  refine seat_con hS.seat [(51, cIParse)] [] ⟨okIParse hS, trivial⟩ Tryz.func28 rfl rfl rfl ?_
  intro rvs cr hcr hpre
  unfold cMoves at hcr
  split at hcr
  · rename_i id lo hi ex l0 ow
    cases hcr
    simp only [List.mem_cons, List.not_mem_nil, or_false, forall_eq_or_imp, forall_eq] at hpre
    refine ⟨⟨rfl, rfl, rfl⟩, fun c hc vs => ?_⟩
    simp only [normL, impL, imp] at hpre ⊢
    generalize cutL lo hi l0 = l at hpre ⊢
    have hl : l.length ≤ 2000000000 := hpre
    repeat' (first | exact Bool.noConfusion ‹(!true) = true› | exact Bool.noConfusion ‹(!false) = false› | (intro h; exact h) | (intro h; rw [h]; rfl) | (intro h1 h2; rw [h1, h2]; rfl) | (intro _; assumption) | (intro _; exact rfl) | (intro h; exact Bool.noConfusion (h.symm.trans ‹_ = false›)) | refine ⟨fun _ => ?_, fun _ => ?_⟩ | refine ⟨?_⟩ | refine ⟨?_, ?_⟩ | fail)
    all_goals first | exact rfl | skip
    refine Tr_nilTmp 66 (.pair (.int .i64) (.int .i64)) 4 rfl (by decide) ?_
    refine Tr_loopH (α := Nat) (fun i => [(4, .row 1), (11, .i .i64 (.ofNat i))]) (fun _ => []) (fun i => [(1, some ⟨66, .pair (.int .i64) (.int .i64), (l.take i).map tokM, true⟩)]) (fun i => i ≤ l.length ∧ ∀ j, j < i → iErr (l.getD j ByteArray.empty) = 0) (fun i => l.length - i) 0 ⟨Nat.zero_le _, fun j hj => by omega⟩ (by (refine ⟨?_, rfl, ?_, ?_, ?_, rfl⟩ <;> repeat' (first | exact trivial | (refine ⟨rfl, ?_⟩) | fail))) ?_
    rintro i ⟨hi, hq⟩
    have hm : ((l.take i).map tokM).length ≤ 2000000000 := by rw [List.length_map]; exact Nat.le_trans (List.length_take_le' _ _) (by omega)
    refine vs.go rfl ?_
    repeat' (first | exact Bool.noConfusion ‹(!true) = true› | exact Bool.noConfusion ‹(!false) = false› | (intro h; exact h) | (intro h; rw [h]; rfl) | (intro h1 h2; rw [h1, h2]; rfl) | (intro _; assumption) | (intro _; exact rfl) | (intro h; exact Bool.noConfusion (h.symm.trans ‹_ = false›)) | refine ⟨fun _ => ?_, fun _ => ?_⟩ | refine ⟨?_⟩ | refine ⟨?_, ?_⟩ | fail)
    all_goals first | exact trivial | (refine (?_ : (_ : Int) ≠ _); decide) | exact rfl | skip
    all_goals try dsimp only at *
    · rename_i h1; have := ltN h1; show (i : Int) < (l.length : Int); omega
    · rename_i h1 h2; rw [mv_bad (ltN h1) h2]
    · rename_i h1 h2; rw [mv_bad (ltN h1) h2]; exact chk_i rfl
    · show ((l.take i).map tokM).length + 1 ≤ 4000000000; omega
    · show (((l.take i).map tokM).length + 1) * 16 ≤ 140737488355328; omega
    · rename_i h1 h2
      have hlt := ltN h1
      refine Again.mk (i + 1) ⟨by omega, fun j hj => ?_⟩ (by omega) ?_
      · by_cases hji : j = i
        · subst hji; exact bneF h2
        · exact hq j (by omega)
      · rw [take_map_next tokM ByteArray.empty hlt, wrapN (by omega)]
        (refine ⟨?_, rfl, ?_, ?_, ?_, rfl⟩ <;> repeat' (first | exact trivial | (refine ⟨rfl, ?_⟩) | fail))
    all_goals
      rename_i h1 h2
      have hil : i = l.length := by have := geN h1; omega
      subst hil
      have e := mv_all hq
      rw [List.length_map, List.take_length] at h2
    · rw [if_pos (by have := of_decide_eq_true h2; omega)] at e
      rw [e]
    · rw [if_pos (by have := of_decide_eq_true h2; omega)] at e
      rw [e]; exact chk_i rfl
    · rw [if_neg (by have := of_decide_eq_false h2; omega)] at e
      rw [e, List.take_length]; exact rfl
    · rw [if_neg (by have := of_decide_eq_false h2; omega)] at e
      rw [e]; exact chk_i rfl
  · cases hcr
set_option maxHeartbeats 4000000 in
set_option maxRecDepth 20000 in
theorem okEnds (hS : Hyp G) : ConOK Tryz.prog G 85 cEnds := by
  refine seat_con hS.seat [] [] trivial Tryz.func85 rfl rfl rfl ?_
  intro rvs cr hcr hpre
  unfold cEnds at hcr
  split at hcr
  · rename_i n id ow id2 T l ow2
    cases hcr
    simp only [List.mem_cons, List.not_mem_nil, or_false, forall_eq_or_imp, forall_eq] at hpre
    refine ⟨⟨rfl, rfl, rfl⟩, fun c hc vs => ?_⟩
    have h1 := hpre.lo; have h2 := hpre.hi; have h3 := hpre.len
    obtain ⟨n, rfl⟩ := Int.eq_ofNat_of_zero_le h1
    repeat' (first | exact Bool.noConfusion ‹(!true) = true› | exact Bool.noConfusion ‹(!false) = false› | (intro h; exact h) | (intro h; rw [h]; rfl) | (intro h1 h2; rw [h1, h2]; rfl) | (intro _; assumption) | (intro _; exact rfl) | (intro h; exact Bool.noConfusion (h.symm.trans ‹_ = false›)) | refine ⟨fun _ => ?_, fun _ => ?_⟩ | refine ⟨?_⟩ | refine ⟨?_, ?_⟩ | fail)
    all_goals first | exact trivial | (refine (?_ : (_ : Int) ≠ _); decide) | exact rfl | skip
    all_goals try dsimp only at *
    all_goals first | exact rfl | skip
    all_goals first | (intro h; simp at h; exact ⟨by omega, by omega⟩) | skip
    all_goals
      refine chk_b ?_
      unfold endsAt
      rw [Bool.eq_iff_iff]
      simp [tMoves, EK.dflt]
      rw [show ((l.length : Int) = (n : Int)) = (l.length = n) from propext Int.ofNat_inj]
  · cases hcr
set_option maxHeartbeats 4000000 in
set_option maxRecDepth 20000 in
theorem okTexts (hS : Hyp G) : ConOK Tryz.prog G 16 cTexts := by
  refine seat_con hS.seat [] [] trivial Tryz.func16 rfl rfl rfl ?_
  intro rvs cr hcr hpre
  unfold cTexts at hcr
  split at hcr
  · rename_i id l ow id2 m ow2
    cases hcr
    simp only [List.mem_cons, List.not_mem_nil, or_false, forall_eq_or_imp, forall_eq] at hpre
    refine ⟨⟨rfl, rfl, rfl⟩, fun c hc vs => ?_⟩
    have hl := hpre.l
    have hm := hpre.m
    repeat' (first | exact Bool.noConfusion ‹(!true) = true› | exact Bool.noConfusion ‹(!false) = false› | (intro h; exact h) | (intro h; rw [h]; rfl) | (intro h1 h2; rw [h1, h2]; rfl) | (intro _; assumption) | (intro _; exact rfl) | (intro h; exact Bool.noConfusion (h.symm.trans ‹_ = false›)) | refine ⟨fun _ => ?_, fun _ => ?_⟩ | refine ⟨?_⟩ | refine ⟨?_, ?_⟩ | fail)
    all_goals first | exact trivial | (refine (?_ : (_ : Int) ≠ _); decide) | exact rfl | skip
    all_goals try dsimp only at *
    · exact chk_b (same_lenT ‹_›).symm
    have hlm : l.length = m.length := by have := bneF ‹((l.length : Int) != (m.length : Int)) = false›; omega
    refine Tr_loopH (α := Nat) (fun i => [(5, .i .i64 (.ofNat i))]) (fun _ => []) (fun _ => []) (fun i => i ≤ l.length ∧ ∀ j, j < i → l.getD j ByteArray.empty = m.getD j ByteArray.empty) (fun i => l.length - i) 0 ⟨Nat.zero_le _, fun j hj => by omega⟩ (by (refine ⟨?_, rfl, ?_, ?_, ?_, rfl⟩ <;> repeat' (first | exact trivial | (refine ⟨rfl, ?_⟩) | fail))) ?_
    rintro i ⟨hi, hq⟩
    refine vs.go rfl ?_
    repeat' (first | exact Bool.noConfusion ‹(!true) = true› | exact Bool.noConfusion ‹(!false) = false› | (intro h; exact h) | (intro h; rw [h]; rfl) | (intro h1 h2; rw [h1, h2]; rfl) | (intro _; assumption) | (intro _; exact rfl) | (intro h; exact Bool.noConfusion (h.symm.trans ‹_ = false›)) | refine ⟨fun _ => ?_, fun _ => ?_⟩ | refine ⟨?_⟩ | refine ⟨?_, ?_⟩ | fail)
    all_goals first | exact trivial | (refine (?_ : (_ : Int) ≠ _); decide) | exact rfl | skip
    all_goals try dsimp only at *
    · rename_i h1; have := ltN h1; show (i : Int) < (l.length : Int); omega
    · rename_i h1; have := ltN h1; show (i : Int) < (m.length : Int); omega
    · rename_i h1 h2; exact chk_b (same_noT h2).symm
    · rename_i h1 h2
      have hlt := ltN h1
      refine Again.mk (i + 1) ⟨by omega, fun j hj => ?_⟩ (by omega) ?_
      · by_cases hji : j = i
        · subst hji; exact strEq_eq ((Bool.not_eq_false' _).mp h2)
        · exact hq j (by omega)
      · rw [wrapN (by omega)]
        (refine ⟨?_, rfl, ?_, ?_, ?_, rfl⟩ <;> repeat' (first | exact trivial | (refine ⟨rfl, ?_⟩) | fail))
    · rename_i h1
      have hil : i = l.length := by have := geN h1; omega
      subst hil
      exact chk_b (same_yesT hlm hq).symm
  · cases hcr
set_option maxHeartbeats 4000000 in
set_option maxRecDepth 20000 in
theorem okText23 (hS : Hyp G) : ConOK Tryz.prog G 23 cText23 := by
  refine seat_con hS.seat [(45, cR12Print)] [] ⟨okR12Print hS, trivial⟩ Tryz.func23 rfl rfl rfl ?_
  intro rvs cr hcr hpre
  unfold cText23 at hcr
  split at hcr
  · rename_i id l ow
    cases hcr
    simp only [List.mem_cons, List.not_mem_nil, or_false, forall_eq_or_imp, forall_eq] at hpre
    refine ⟨⟨rfl, rfl, rfl⟩, fun c hc vs => ?_⟩
    have hl : l.length ≤ 2000000000 := hpre
    repeat' (first | exact Bool.noConfusion ‹(!true) = true› | exact Bool.noConfusion ‹(!false) = false› | (intro h; exact h) | (intro h; rw [h]; rfl) | (intro h1 h2; rw [h1, h2]; rfl) | (intro _; assumption) | (intro _; exact rfl) | (intro h; exact Bool.noConfusion (h.symm.trans ‹_ = false›)) | refine ⟨fun _ => ?_, fun _ => ?_⟩ | refine ⟨?_⟩ | refine ⟨?_, ?_⟩ | fail)
    all_goals first | exact rfl | skip
    refine Tr_loopH (α := Nat) (fun i => [(4, .s (spT (l.take i))), (5, .i .i64 (.ofNat i))]) (fun _ => []) (fun _ => []) (fun i => i ≤ l.length ∧ ∀ j, j < i → strEq (prM (l.getD j (0, 0))) ⟨#[]⟩ = false) (fun i => l.length - i) 0 ⟨Nat.zero_le _, fun j hj => by omega⟩ (by (refine ⟨?_, rfl, ?_, ?_, ?_, rfl⟩ <;> repeat' (first | exact trivial | (refine ⟨rfl, ?_⟩) | fail))) ?_
    rintro i ⟨hi, hq⟩
    have hsz := spT_size (l.take i)
    refine vs.go rfl ?_
    repeat' (first | exact Bool.noConfusion ‹(!true) = true› | exact Bool.noConfusion ‹(!false) = false› | (intro h; exact h) | (intro h; rw [h]; rfl) | (intro h1 h2; rw [h1, h2]; rfl) | (intro _; assumption) | (intro _; exact rfl) | (intro h; exact Bool.noConfusion (h.symm.trans ‹_ = false›)) | refine ⟨fun _ => ?_, fun _ => ?_⟩ | refine ⟨?_⟩ | refine ⟨?_, ?_⟩ | fail)
    all_goals first | exact trivial | (refine (?_ : (_ : Int) ≠ _); decide) | exact rfl | skip
    all_goals try dsimp only at *
    · rename_i h1; have := ltN h1; show (i : Int) < (l.length : Int); omega
    · rename_i h1 h2; rw [tx_bad (ltN h1) h2]; exact chk_s rfl
    · rename_i h1 h2; rw [tx_bad (ltN h1) h2]; exact chk_b rfl
    · rename_i h1 h2
      have hle := List.length_take_le' i l
      show (spT (l.take i)).size + 1 ≤ _; omega
    · rename_i h1 h2
      have hle := List.length_take_le' i l
      have h4 := print_len (l.getD i (0, 0)).1 (l.getD i (0, 0)).2
      rw [ByteArray.size_append]
      show (spT (l.take i)).size + 1 + (spPrint (l.getD i (0, 0)).1 (l.getD i (0, 0)).2).size ≤ _; omega
    · rename_i h1 h2
      have hlt := ltN h1
      refine Again.mk (i + 1) ⟨by omega, fun j hj => ?_⟩ (by omega) ?_
      · by_cases hji : j = i
        · subst hji; exact h2
        · exact hq j (by omega)
      · rw [spT_next hlt, wrapN (by omega)]
        (refine ⟨?_, rfl, ?_, ?_, ?_, rfl⟩ <;> repeat' (first | exact trivial | (refine ⟨rfl, ?_⟩) | fail))
    all_goals
      rename_i h1
      have hil : i = l.length := by have := geN h1; omega
      subst hil
      rw [tx_ok hq]
    · rw [List.take_length]; exact chk_s rfl
    · exact chk_b rfl
  · cases hcr
end
end Go.X

namespace Go.X
open Go Go.Proofs

section
variable {G : Nat → World → Prop}
set_option maxHeartbeats 4000000 in
set_option maxRecDepth 20000 in
theorem okPlace (hS : Hyp G) : ConOK Tryz.prog G 52 cPlace := by
  refine seat_con hS.seat [(85, cEnds)] [] ⟨okEnds hS, trivial⟩ Tryz.func52 rfl rfl rfl ?_
  intro rvs cr hcr hpre
  unfold cPlace at hcr
  split at hcr
  · rename_i id l ow
    cases hcr
    simp only [List.mem_cons, List.not_mem_nil, or_false, forall_eq_or_imp, forall_eq] at hpre
    refine ⟨⟨rfl, rfl, rfl⟩, fun c hc vs => ?_⟩
    have hl : l.length ≤ 2000000000 := hpre
    repeat' (first | exact Bool.noConfusion ‹(!true) = true› | exact Bool.noConfusion ‹(!false) = false› | (intro h; exact h) | (intro h; rw [h]; rfl) | (intro h1 h2; rw [h1, h2]; rfl) | (intro _; assumption) | (intro _; exact rfl) | (intro h; exact Bool.noConfusion (h.symm.trans ‹_ = false›)) | refine ⟨fun _ => ?_, fun _ => ?_⟩ | refine ⟨?_⟩ | refine ⟨?_, ?_⟩ | fail)
    all_goals first | exact trivial | (refine (?_ : (_ : Int) ≠ _); decide) | exact rfl | skip
    all_goals try dsimp only at *
    all_goals first | (intro _; exact ⟨by decide, by decide, hl⟩) | (have := beqF ‹((l.length : Int) == 0) = false›; omega) | skip
    · exact (pl_0 ‹_›) ▸ chk_i rfl
    · rename_i h h1; rw [pl_1 h h1]; exact chk_i rfl
    · rename_i h h1 h2; rw [pl_n h h1 h2]; exact chk_i rfl
    rename_i h h1 h2
    have hp := pl_f h h1 h2
    refine Tr_loopH (α := Nat) (fun i => [(27, .i .i64 (.ofNat i))]) (fun _ => []) (fun _ => []) (fun i => i ≤ 2 ∧ (1 ≤ i → endsAt l 3 = false) ∧ (2 ≤ i → endsAt l 7 = false)) (fun i => 2 - i) 0 ⟨by omega, by omega, by omega⟩ (by (refine ⟨?_, rfl, ?_, ?_, ?_, rfl⟩ <;> repeat' (first | exact trivial | (refine ⟨rfl, ?_⟩) | fail))) ?_
    rintro i ⟨hi, hq1, hq2⟩
    refine vs.go rfl ?_
    repeat' (first | exact Bool.noConfusion ‹(!true) = true› | exact Bool.noConfusion ‹(!false) = false› | (intro h; exact h) | (intro h; rw [h]; rfl) | (intro h1 h2; rw [h1, h2]; rfl) | (intro _; assumption) | (intro _; exact rfl) | (intro h; exact Bool.noConfusion (h.symm.trans ‹_ = false›)) | refine ⟨fun _ => ?_, fun _ => ?_⟩ | refine ⟨?_⟩ | refine ⟨?_, ?_⟩ | fail)
    all_goals first | exact trivial | (refine (?_ : (_ : Int) ≠ _); decide) | exact rfl | skip
    all_goals try dsimp only at *
    all_goals first
      | (have h9 : decide ((i : Int) < ((2 : Nat) : Int)) = true := ‹_›; have := of_decide_eq_true h9; show (i : Int) < ((2 : Nat) : Int); omega)
      | (have h9 : decide ((i : Int) < ((2 : Nat) : Int)) = false := ‹_›
         have := of_decide_eq_false h9
         rw [hp, hq1 (by omega), hq2 (by omega)]; exact chk_i rfl)
      | (have h9 : decide ((i : Int) < ((2 : Nat) : Int)) = true := ‹_›
         have h9 := of_decide_eq_true h9
         obtain rfl | rfl : i = 0 ∨ i = 1 := by omega
         · first
           | exact ⟨by decide, by decide, hl⟩
           | (have h8 : endsAt l 3 = true := ‹_›; rw [hp, h8]; exact chk_i rfl)
           | (have h8 : endsAt l 3 = false := ‹_›
              refine Again.mk 1 ⟨by omega, fun _ => h8, by omega⟩ (by omega) ?_
              (refine ⟨?_, rfl, ?_, ?_, ?_, rfl⟩ <;> repeat' (first | exact trivial | (refine ⟨rfl, ?_⟩) | fail)))
         · first
           | exact ⟨by decide, by decide, hl⟩
           | (have h8 : endsAt l 7 = true := ‹_›; rw [hp, hq1 (by omega), h8]; exact chk_i rfl)
           | (have h8 : endsAt l 7 = false := ‹_›
              refine Again.mk 2 ⟨by omega, fun _ => hq1 (by omega), fun _ => h8⟩ (by omega) ?_
              (refine ⟨?_, rfl, ?_, ?_, ?_, rfl⟩ <;> repeat' (first | exact trivial | (refine ⟨rfl, ?_⟩) | fail))))
      | skip
  · cases hcr
end
end Go.X

namespace Go.X
open Go Go.Proofs
structure TZ4 (s : ByteArray) : Prop where
  le : s.size ≤ 4000000
  u : True
  v : True
def cRankP : Con
  | [.a (.s s)] => some ⟨[TZ4 s], .tup [.a (.s (bytesOf (rankT (bytesL s)))), .a (.b (rankOk (bytesL s)))], [], []⟩
  | _ => none
def fr0 : Nat → AV
  | 0 => .nilp
  | _ + 1 => .box 0 0
section
variable {G : Nat → World → Prop}
set_option maxHeartbeats 4000000 in
set_option maxRecDepth 20000 in
theorem okRankP (hS : Hyp G) : ConOK Tryz.prog G 149 cRankP := by
  refine seat_con hS.seat [(116, cIndexByte), (156, cRepeat), (102, cSide)] [] ⟨okIndexByte hS, okRepeat hS, okSide hS, trivial⟩ Tryz.func149 rfl rfl rfl ?_
  intro rvs cr hcr hpre
  unfold cRankP at hcr
  split at hcr
  · rename_i s
    cases hcr
    simp only [List.mem_cons, List.not_mem_nil, or_false, forall_eq_or_imp, forall_eq] at hpre
    refine ⟨⟨rfl, rfl, rfl⟩, fun c hc vs => ?_⟩
    have hsz := hpre.le
    repeat' (first | exact Bool.noConfusion ‹(!true) = true› | exact Bool.noConfusion ‹(!false) = false› | (intro h; exact h) | (intro h; rw [h]; rfl) | (intro h1 h2; rw [h1, h2]; rfl) | (intro _; assumption) | (intro _; exact rfl) | (intro h; exact Bool.noConfusion (h.symm.trans ‹_ = false›)) | refine ⟨fun _ => ?_, fun _ => ?_⟩ | refine ⟨?_⟩ | refine ⟨?_, ?_⟩ | fail)
    all_goals first | exact rfl | exact trivial | skip
    · show s.size ≤ 4000000000; omega
    refine Tr_nilBox 5 (.int .u8) 0 1 rfl rfl (by decide) ?_
    refine Tr_loopH (α := Nat × List Int) (fun x => [(11, .i .i64 (.ofNat x.1))]) (fun x => [(0, some ⟨75, [fr0 x.1, .row 1], true⟩)]) (fun x => [(1, some ⟨5, .int .u8, x.2, true⟩)])
      (fun x => x.1 ≤ (bytesL s).length ∧ ((bytesL s).take x.1).foldl rstep (some []) = some x.2 ∧ x.2.length ≤ 9 * x.1 ∧ BYL x.2) (fun x => (bytesL s).length - x.1) (0, []) ⟨Nat.zero_le _, rfl, Nat.le_refl _, ⟨by simp, trivial, trivial⟩⟩ (by (refine ⟨?_, rfl, ?_, ?_, ?_, rfl⟩ <;> repeat' (first | exact trivial | (refine ⟨rfl, ?_⟩) | fail))) ?_
    rintro ⟨i, acc⟩ ⟨hi, hq, hl, hb⟩
    have hlen : (bytesL s).length = s.size := by simp [bytesL]
    rcases i with _ | i
    · obtain ⟨b, hbd⟩ : ∃ b, (bytesL s).getD (Int.ofNat (0)).toNat EK.byte.dflt = b := ⟨_, rfl⟩
      have hbd' : (bytesL s).getD (0) 0 = b := hbd
      have hby : 0 < (bytesL s).length → 0 ≤ b ∧ b < 256 := fun h => by
        rw [← hbd']
        refine bytesL_bound s _ ?_
        rw [List.getD_eq_getElem?_getD, List.getElem?_eq_getElem h]
        exact List.getElem_mem h
      refine vs.go rfl ?_
      repeat' (first | exact Bool.noConfusion ‹(!true) = true› | exact Bool.noConfusion ‹(!false) = false› | (intro h; exact h) | (intro h; rw [h]; rfl) | (intro h1 h2; rw [h1, h2]; rfl) | (intro _; assumption) | (intro _; exact rfl) | (intro h; exact Bool.noConfusion (h.symm.trans ‹_ = false›)) | refine ⟨fun _ => ?_, fun _ => ?_⟩ | refine ⟨?_⟩ | refine ⟨?_, ?_⟩ | fail)
      all_goals first | exact trivial | (refine (?_ : (_ : Int) ≠ _); decide) | exact rfl | skip
      all_goals try dsimp only at *
      all_goals simp only [hbd] at *
      all_goals first | exact trivial | exact rfl | skip
      rotate_right
      · have hil : 0 = (bytesL s).length := Nat.le_antisymm hi (Nat.not_lt.1 fun h => of_decide_eq_false ‹decide (Int.ofNat (0) < _) = false› (Int.ofNat_lt.2 h))
        rw [hil] at hq
        obtain ⟨e1, e2⟩ := rank_done hq
        refine trOps_strLen str_law len_law rfl rfl rfl rfl Tryz.func42 rfl rfl Tryz.func157 rfl rfl rfl rfl rfl rfl rfl hb ?_
        refine vs.on ?_
        repeat' (first | exact Bool.noConfusion ‹(!true) = true› | exact Bool.noConfusion ‹(!false) = false› | (intro h; exact h) | (intro h; rw [h]; rfl) | (intro h1 h2; rw [h1, h2]; rfl) | (intro _; assumption) | (intro _; exact rfl) | (intro h; exact Bool.noConfusion (h.symm.trans ‹_ = false›)) | refine ⟨fun _ => ?_, fun _ => ?_⟩ | refine ⟨?_⟩ | refine ⟨?_, ?_⟩ | fail)
        all_goals first | exact trivial | exact rfl | skip
        · rw [e1]; exact chk_s rfl
        · rw [e2]; refine chk_b ?_; rw [Bool.eq_iff_iff]; simp only [beq_iff_eq, decide_eq_true_eq]; omega
      all_goals
        have hlt : 0 < (bytesL s).length := Int.ofNat_lt.1 (of_decide_eq_true ‹decide (Int.ofNat (0) < _) = true›)
        have hlet := letter_at (hby hlt)
      · exact Int.ofNat_lt.2 hlt
      · exact of_decide_eq_true ‹decide (spIdxB [69, 101, 72, 104] b ≥ 0) = true›
      · exact (hlet.1 (of_decide_eq_true ‹decide (spIdxB [69, 101, 72, 104] b ≥ 0) = true›)).1
      · have hcl := (hlet.1 (of_decide_eq_true ‹decide (spIdxB [69, 101, 72, 104] b ≥ 0) = true›)).2
        obtain ⟨h1, h2, h3⟩ := rstep_d (acc := acc) hcl ‹(decide ((byteAt ⟨#[66, 98, 78, 110]⟩ (spIdxB [69, 101, 72, 104] b).toNat) ≥ 49) && decide ((byteAt ⟨#[66, 98, 78, 110]⟩ (spIdxB [69, 101, 72, 104] b).toNat) ≤ 57)) = true›
        rw [h2]; exact ⟨rfl, by omega, by omega⟩
      · have hcl := (hlet.1 (of_decide_eq_true ‹decide (spIdxB [69, 101, 72, 104] b ≥ 0) = true›)).2
        obtain ⟨h1, h2, h3⟩ := rstep_d (acc := acc) hcl ‹(decide ((byteAt ⟨#[66, 98, 78, 110]⟩ (spIdxB [69, 101, 72, 104] b).toNat) ≥ 49) && decide ((byteAt ⟨#[66, 98, 78, 110]⟩ (spIdxB [69, 101, 72, 104] b).toNat) ≤ 57)) = true›
        simp only [h2]
        refine trOps_none rfl (inl_one false hS.seat.tt rfl rfl Tryz.func40 rfl rfl ?_)
        intro cI hkI hrI
        refine (vs.kin hkI).go rfl ?_
        repeat' (first | exact Bool.noConfusion ‹(!true) = true› | exact Bool.noConfusion ‹(!false) = false› | (intro h; exact h) | (intro h; rw [h]; rfl) | (intro h1 h2; rw [h1, h2]; rfl) | (intro _; assumption) | (intro _; exact rfl) | (intro h; exact Bool.noConfusion (h.symm.trans ‹_ = false›)) | refine ⟨fun _ => ?_, fun _ => ?_⟩ | refine ⟨?_⟩ | refine ⟨?_, ?_⟩ | fail)
        refine trOps_none rfl (tr_copyCheck cc_law rfl Tryz.func66 rfl rfl rfl rfl (by first | exact .inl rfl | exact .inr rfl) ?_)
        refine (vs.kin hkI).on ?_
        repeat' (first | exact Bool.noConfusion ‹(!true) = true› | exact Bool.noConfusion ‹(!false) = false› | (intro h; exact h) | (intro h; rw [h]; rfl) | (intro h1 h2; rw [h1, h2]; rfl) | (intro _; assumption) | (intro _; exact rfl) | (intro h; exact Bool.noConfusion (h.symm.trans ‹_ = false›)) | refine ⟨fun _ => ?_, fun _ => ?_⟩ | refine ⟨?_⟩ | refine ⟨?_, ?_⟩ | fail)
        · show acc.length + (bytesOf (List.replicate ((byteAt ⟨#[66, 98, 78, 110]⟩ (spIdxB [69, 101, 72, 104] b).toNat) - 48).toNat 46)).size ≤ 4000000000
          rw [size_bytesOf, List.length_replicate]; omega
        refine vs.on ?_
        repeat' (first | exact Bool.noConfusion ‹(!true) = true› | exact Bool.noConfusion ‹(!false) = false› | (intro h; exact h) | (intro h; rw [h]; rfl) | (intro h1 h2; rw [h1, h2]; rfl) | (intro _; assumption) | (intro _; exact rfl) | (intro h; exact Bool.noConfusion (h.symm.trans ‹_ = false›)) | refine ⟨fun _ => ?_, fun _ => ?_⟩ | refine ⟨?_⟩ | refine ⟨?_, ?_⟩ | fail)
        refine Again.mk (0 + 1, acc ++ List.replicate ((byteAt ⟨#[66, 98, 78, 110]⟩ (spIdxB [69, 101, 72, 104] b).toNat) - 48).toNat 46) ⟨hlt, rank_next hlt hq (by rw [hbd']; exact h1), by simp; omega, hb.app dots_by⟩ (by show (bytesL s).length - (0 + 1) < (bytesL s).length - (0); omega) ?_
        rw [bytesL_of dots_by.b, wrapN (by omega)]
        (refine ⟨?_, rfl, ?_, ?_, ?_, rfl⟩ <;> repeat' (first | exact trivial | (refine ⟨rfl, ?_⟩) | fail))
      · have hcl := (hlet.1 (of_decide_eq_true ‹decide (spIdxB [69, 101, 72, 104] b ≥ 0) = true›)).2
        have h1 := rstep_p (acc := acc) hcl ‹(decide ((byteAt ⟨#[66, 98, 78, 110]⟩ (spIdxB [69, 101, 72, 104] b).toNat) ≥ 49) && decide ((byteAt ⟨#[66, 98, 78, 110]⟩ (spIdxB [69, 101, 72, 104] b).toNat) ≤ 57)) = false› ‹decide (spSide ((byteAt ⟨#[66, 98, 78, 110]⟩ (spIdxB [69, 101, 72, 104] b).toNat)) ≥ 0) = true›
        refine trOps_none rfl (inl_one false hS.seat.tt rfl rfl Tryz.func41 rfl rfl ?_)
        intro cI hkI hrI
        refine (vs.kin hkI).go rfl ?_
        repeat' (first | exact Bool.noConfusion ‹(!true) = true› | exact Bool.noConfusion ‹(!false) = false› | (intro h; exact h) | (intro h; rw [h]; rfl) | (intro h1 h2; rw [h1, h2]; rfl) | (intro _; assumption) | (intro _; exact rfl) | (intro h; exact Bool.noConfusion (h.symm.trans ‹_ = false›)) | refine ⟨fun _ => ?_, fun _ => ?_⟩ | refine ⟨?_⟩ | refine ⟨?_, ?_⟩ | fail)
        refine trOps_none rfl (tr_copyCheck cc_law rfl Tryz.func66 rfl rfl rfl rfl (by first | exact .inl rfl | exact .inr rfl) ?_)
        refine (vs.kin hkI).on ?_
        repeat' (first | exact Bool.noConfusion ‹(!true) = true› | exact Bool.noConfusion ‹(!false) = false› | (intro h; exact h) | (intro h; rw [h]; rfl) | (intro h1 h2; rw [h1, h2]; rfl) | (intro _; assumption) | (intro _; exact rfl) | (intro h; exact Bool.noConfusion (h.symm.trans ‹_ = false›)) | refine ⟨fun _ => ?_, fun _ => ?_⟩ | refine ⟨?_⟩ | refine ⟨?_, ?_⟩ | fail)
        · show acc.length + 1 ≤ 4000000000; omega
        · show (acc.length + 1) * 1 ≤ 140737488355328; omega
        refine vs.on ?_
        repeat' (first | exact Bool.noConfusion ‹(!true) = true› | exact Bool.noConfusion ‹(!false) = false› | (intro h; exact h) | (intro h; rw [h]; rfl) | (intro h1 h2; rw [h1, h2]; rfl) | (intro _; assumption) | (intro _; exact rfl) | (intro h; exact Bool.noConfusion (h.symm.trans ‹_ = false›)) | refine ⟨fun _ => ?_, fun _ => ?_⟩ | refine ⟨?_⟩ | refine ⟨?_, ?_⟩ | fail)
        refine Again.mk (0 + 1, acc ++ [(byteAt ⟨#[66, 98, 78, 110]⟩ (spIdxB [69, 101, 72, 104] b).toNat)]) ⟨hlt, rank_next hlt hq (by rw [hbd']; exact h1), by simp; omega, hb.app (.one (hcl ▸ (letter_at (hby hlt)).2.2))⟩ (by show (bytesL s).length - (0 + 1) < (bytesL s).length - (0); omega) ?_
        rw [wrapN (by omega)]
        (refine ⟨?_, rfl, ?_, ?_, ?_, rfl⟩ <;> repeat' (first | exact trivial | (refine ⟨rfl, ?_⟩) | fail))
      · have hcl := (hlet.1 (of_decide_eq_true ‹decide (spIdxB [69, 101, 72, 104] b ≥ 0) = true›)).2
        have h1 := rstep_n (acc := acc) hcl ‹(decide ((byteAt ⟨#[66, 98, 78, 110]⟩ (spIdxB [69, 101, 72, 104] b).toNat) ≥ 49) && decide ((byteAt ⟨#[66, 98, 78, 110]⟩ (spIdxB [69, 101, 72, 104] b).toNat) ≤ 57)) = false› ‹decide (spSide ((byteAt ⟨#[66, 98, 78, 110]⟩ (spIdxB [69, 101, 72, 104] b).toNat)) ≥ 0) = false›
        rw [(rank_bad (rank_rest hlt hq (by rw [hbd']; exact h1))).1]; exact chk_s rfl
      · have hcl := (hlet.1 (of_decide_eq_true ‹decide (spIdxB [69, 101, 72, 104] b ≥ 0) = true›)).2
        have h1 := rstep_n (acc := acc) hcl ‹(decide ((byteAt ⟨#[66, 98, 78, 110]⟩ (spIdxB [69, 101, 72, 104] b).toNat) ≥ 49) && decide ((byteAt ⟨#[66, 98, 78, 110]⟩ (spIdxB [69, 101, 72, 104] b).toNat) ≤ 57)) = false› ‹decide (spSide ((byteAt ⟨#[66, 98, 78, 110]⟩ (spIdxB [69, 101, 72, 104] b).toNat)) ≥ 0) = false›
        rw [(rank_bad (rank_rest hlt hq (by rw [hbd']; exact h1))).2]; exact chk_b rfl
      · have hcl := hlet.2.1 (by have := of_decide_eq_false ‹decide (spIdxB [69, 101, 72, 104] b ≥ 0) = false›; omega)
        obtain ⟨h1, h2, h3⟩ := rstep_d (acc := acc) hcl ‹(decide (b ≥ 49) && decide (b ≤ 57)) = true›
        rw [h2]; exact ⟨rfl, by omega, by omega⟩
      · have hcl := hlet.2.1 (by have := of_decide_eq_false ‹decide (spIdxB [69, 101, 72, 104] b ≥ 0) = false›; omega)
        obtain ⟨h1, h2, h3⟩ := rstep_d (acc := acc) hcl ‹(decide (b ≥ 49) && decide (b ≤ 57)) = true›
        simp only [h2]
        refine trOps_none rfl (inl_one false hS.seat.tt rfl rfl Tryz.func40 rfl rfl ?_)
        intro cI hkI hrI
        refine (vs.kin hkI).go rfl ?_
        repeat' (first | exact Bool.noConfusion ‹(!true) = true› | exact Bool.noConfusion ‹(!false) = false› | (intro h; exact h) | (intro h; rw [h]; rfl) | (intro h1 h2; rw [h1, h2]; rfl) | (intro _; assumption) | (intro _; exact rfl) | (intro h; exact Bool.noConfusion (h.symm.trans ‹_ = false›)) | refine ⟨fun _ => ?_, fun _ => ?_⟩ | refine ⟨?_⟩ | refine ⟨?_, ?_⟩ | fail)
        refine trOps_none rfl (tr_copyCheck cc_law rfl Tryz.func66 rfl rfl rfl rfl (by first | exact .inl rfl | exact .inr rfl) ?_)
        refine (vs.kin hkI).on ?_
        repeat' (first | exact Bool.noConfusion ‹(!true) = true› | exact Bool.noConfusion ‹(!false) = false› | (intro h; exact h) | (intro h; rw [h]; rfl) | (intro h1 h2; rw [h1, h2]; rfl) | (intro _; assumption) | (intro _; exact rfl) | (intro h; exact Bool.noConfusion (h.symm.trans ‹_ = false›)) | refine ⟨fun _ => ?_, fun _ => ?_⟩ | refine ⟨?_⟩ | refine ⟨?_, ?_⟩ | fail)
        · show acc.length + (bytesOf (List.replicate (b - 48).toNat 46)).size ≤ 4000000000
          rw [size_bytesOf, List.length_replicate]; omega
        refine vs.on ?_
        repeat' (first | exact Bool.noConfusion ‹(!true) = true› | exact Bool.noConfusion ‹(!false) = false› | (intro h; exact h) | (intro h; rw [h]; rfl) | (intro h1 h2; rw [h1, h2]; rfl) | (intro _; assumption) | (intro _; exact rfl) | (intro h; exact Bool.noConfusion (h.symm.trans ‹_ = false›)) | refine ⟨fun _ => ?_, fun _ => ?_⟩ | refine ⟨?_⟩ | refine ⟨?_, ?_⟩ | fail)
        refine Again.mk (0 + 1, acc ++ List.replicate (b - 48).toNat 46) ⟨hlt, rank_next hlt hq (by rw [hbd']; exact h1), by simp; omega, hb.app dots_by⟩ (by show (bytesL s).length - (0 + 1) < (bytesL s).length - (0); omega) ?_
        rw [bytesL_of dots_by.b, wrapN (by omega)]
        (refine ⟨?_, rfl, ?_, ?_, ?_, rfl⟩ <;> repeat' (first | exact trivial | (refine ⟨rfl, ?_⟩) | fail))
      · have hcl := hlet.2.1 (by have := of_decide_eq_false ‹decide (spIdxB [69, 101, 72, 104] b ≥ 0) = false›; omega)
        have h1 := rstep_p (acc := acc) hcl ‹(decide (b ≥ 49) && decide (b ≤ 57)) = false› ‹decide (spSide (b) ≥ 0) = true›
        refine trOps_none rfl (inl_one false hS.seat.tt rfl rfl Tryz.func41 rfl rfl ?_)
        intro cI hkI hrI
        refine (vs.kin hkI).go rfl ?_
        repeat' (first | exact Bool.noConfusion ‹(!true) = true› | exact Bool.noConfusion ‹(!false) = false› | (intro h; exact h) | (intro h; rw [h]; rfl) | (intro h1 h2; rw [h1, h2]; rfl) | (intro _; assumption) | (intro _; exact rfl) | (intro h; exact Bool.noConfusion (h.symm.trans ‹_ = false›)) | refine ⟨fun _ => ?_, fun _ => ?_⟩ | refine ⟨?_⟩ | refine ⟨?_, ?_⟩ | fail)
        refine trOps_none rfl (tr_copyCheck cc_law rfl Tryz.func66 rfl rfl rfl rfl (by first | exact .inl rfl | exact .inr rfl) ?_)
        refine (vs.kin hkI).on ?_
        repeat' (first | exact Bool.noConfusion ‹(!true) = true› | exact Bool.noConfusion ‹(!false) = false› | (intro h; exact h) | (intro h; rw [h]; rfl) | (intro h1 h2; rw [h1, h2]; rfl) | (intro _; assumption) | (intro _; exact rfl) | (intro h; exact Bool.noConfusion (h.symm.trans ‹_ = false›)) | refine ⟨fun _ => ?_, fun _ => ?_⟩ | refine ⟨?_⟩ | refine ⟨?_, ?_⟩ | fail)
        · show acc.length + 1 ≤ 4000000000; omega
        · show (acc.length + 1) * 1 ≤ 140737488355328; omega
        refine vs.on ?_
        repeat' (first | exact Bool.noConfusion ‹(!true) = true› | exact Bool.noConfusion ‹(!false) = false› | (intro h; exact h) | (intro h; rw [h]; rfl) | (intro h1 h2; rw [h1, h2]; rfl) | (intro _; assumption) | (intro _; exact rfl) | (intro h; exact Bool.noConfusion (h.symm.trans ‹_ = false›)) | refine ⟨fun _ => ?_, fun _ => ?_⟩ | refine ⟨?_⟩ | refine ⟨?_, ?_⟩ | fail)
        refine Again.mk (0 + 1, acc ++ [b]) ⟨hlt, rank_next hlt hq (by rw [hbd']; exact h1), by simp; omega, hb.app (.one (hcl ▸ (letter_at (hby hlt)).2.2))⟩ (by show (bytesL s).length - (0 + 1) < (bytesL s).length - (0); omega) ?_
        rw [wrapN (by omega)]
        (refine ⟨?_, rfl, ?_, ?_, ?_, rfl⟩ <;> repeat' (first | exact trivial | (refine ⟨rfl, ?_⟩) | fail))
      · have hcl := hlet.2.1 (by have := of_decide_eq_false ‹decide (spIdxB [69, 101, 72, 104] b ≥ 0) = false›; omega)
        have h1 := rstep_n (acc := acc) hcl ‹(decide (b ≥ 49) && decide (b ≤ 57)) = false› ‹decide (spSide (b) ≥ 0) = false›
        rw [(rank_bad (rank_rest hlt hq (by rw [hbd']; exact h1))).1]; exact chk_s rfl
      · have hcl := hlet.2.1 (by have := of_decide_eq_false ‹decide (spIdxB [69, 101, 72, 104] b ≥ 0) = false›; omega)
        have h1 := rstep_n (acc := acc) hcl ‹(decide (b ≥ 49) && decide (b ≤ 57)) = false› ‹decide (spSide (b) ≥ 0) = false›
        rw [(rank_bad (rank_rest hlt hq (by rw [hbd']; exact h1))).2]; exact chk_b rfl
    · obtain ⟨b, hbd⟩ : ∃ b, (bytesL s).getD (Int.ofNat ((i + 1))).toNat EK.byte.dflt = b := ⟨_, rfl⟩
      have hbd' : (bytesL s).getD ((i + 1)) 0 = b := hbd
      have hby : (i + 1) < (bytesL s).length → 0 ≤ b ∧ b < 256 := fun h => by
        rw [← hbd']
        refine bytesL_bound s _ ?_
        rw [List.getD_eq_getElem?_getD, List.getElem?_eq_getElem h]
        exact List.getElem_mem h
      refine vs.go rfl ?_
      repeat' (first | exact Bool.noConfusion ‹(!true) = true› | exact Bool.noConfusion ‹(!false) = false› | (intro h; exact h) | (intro h; rw [h]; rfl) | (intro h1 h2; rw [h1, h2]; rfl) | (intro _; assumption) | (intro _; exact rfl) | (intro h; exact Bool.noConfusion (h.symm.trans ‹_ = false›)) | refine ⟨fun _ => ?_, fun _ => ?_⟩ | refine ⟨?_⟩ | refine ⟨?_, ?_⟩ | fail)
      all_goals first | exact trivial | (refine (?_ : (_ : Int) ≠ _); decide) | exact rfl | skip
      all_goals try dsimp only at *
      all_goals simp only [hbd] at *
      all_goals first | exact trivial | exact rfl | skip
      rotate_right
      · have hil : (i + 1) = (bytesL s).length := Nat.le_antisymm hi (Nat.not_lt.1 fun h => of_decide_eq_false ‹decide (Int.ofNat ((i + 1)) < _) = false› (Int.ofNat_lt.2 h))
        rw [hil] at hq
        obtain ⟨e1, e2⟩ := rank_done hq
        refine trOps_strLen str_law len_law rfl rfl rfl rfl Tryz.func42 rfl rfl Tryz.func157 rfl rfl rfl rfl rfl rfl rfl hb ?_
        refine vs.on ?_
        repeat' (first | exact Bool.noConfusion ‹(!true) = true› | exact Bool.noConfusion ‹(!false) = false› | (intro h; exact h) | (intro h; rw [h]; rfl) | (intro h1 h2; rw [h1, h2]; rfl) | (intro _; assumption) | (intro _; exact rfl) | (intro h; exact Bool.noConfusion (h.symm.trans ‹_ = false›)) | refine ⟨fun _ => ?_, fun _ => ?_⟩ | refine ⟨?_⟩ | refine ⟨?_, ?_⟩ | fail)
        all_goals first | exact trivial | exact rfl | skip
        · rw [e1]; exact chk_s rfl
        · rw [e2]; refine chk_b ?_; rw [Bool.eq_iff_iff]; simp only [beq_iff_eq, decide_eq_true_eq]; omega
      all_goals
        have hlt : (i + 1) < (bytesL s).length := Int.ofNat_lt.1 (of_decide_eq_true ‹decide (Int.ofNat ((i + 1)) < _) = true›)
        have hlet := letter_at (hby hlt)
      · exact Int.ofNat_lt.2 hlt
      · exact of_decide_eq_true ‹decide (spIdxB [69, 101, 72, 104] b ≥ 0) = true›
      · exact (hlet.1 (of_decide_eq_true ‹decide (spIdxB [69, 101, 72, 104] b ≥ 0) = true›)).1
      · have hcl := (hlet.1 (of_decide_eq_true ‹decide (spIdxB [69, 101, 72, 104] b ≥ 0) = true›)).2
        obtain ⟨h1, h2, h3⟩ := rstep_d (acc := acc) hcl ‹(decide ((byteAt ⟨#[66, 98, 78, 110]⟩ (spIdxB [69, 101, 72, 104] b).toNat) ≥ 49) && decide ((byteAt ⟨#[66, 98, 78, 110]⟩ (spIdxB [69, 101, 72, 104] b).toNat) ≤ 57)) = true›
        rw [h2]; exact ⟨rfl, by omega, by omega⟩
      · have hcl := (hlet.1 (of_decide_eq_true ‹decide (spIdxB [69, 101, 72, 104] b ≥ 0) = true›)).2
        obtain ⟨h1, h2, h3⟩ := rstep_d (acc := acc) hcl ‹(decide ((byteAt ⟨#[66, 98, 78, 110]⟩ (spIdxB [69, 101, 72, 104] b).toNat) ≥ 49) && decide ((byteAt ⟨#[66, 98, 78, 110]⟩ (spIdxB [69, 101, 72, 104] b).toNat) ≤ 57)) = true›
        simp only [h2]
        refine trOps_none rfl (inl_one false hS.seat.tt rfl rfl Tryz.func40 rfl rfl ?_)
        intro cI hkI hrI
        refine (vs.kin hkI).go rfl ?_
        repeat' (first | exact Bool.noConfusion ‹(!true) = true› | exact Bool.noConfusion ‹(!false) = false› | (intro h; exact h) | (intro h; rw [h]; rfl) | (intro h1 h2; rw [h1, h2]; rfl) | (intro _; assumption) | (intro _; exact rfl) | (intro h; exact Bool.noConfusion (h.symm.trans ‹_ = false›)) | refine ⟨fun _ => ?_, fun _ => ?_⟩ | refine ⟨?_⟩ | refine ⟨?_, ?_⟩ | fail)
        refine trOps_none rfl (tr_copyCheck cc_law rfl Tryz.func66 rfl rfl rfl rfl (by first | exact .inl rfl | exact .inr rfl) ?_)
        refine (vs.kin hkI).on ?_
        repeat' (first | exact Bool.noConfusion ‹(!true) = true› | exact Bool.noConfusion ‹(!false) = false› | (intro h; exact h) | (intro h; rw [h]; rfl) | (intro h1 h2; rw [h1, h2]; rfl) | (intro _; assumption) | (intro _; exact rfl) | (intro h; exact Bool.noConfusion (h.symm.trans ‹_ = false›)) | refine ⟨fun _ => ?_, fun _ => ?_⟩ | refine ⟨?_⟩ | refine ⟨?_, ?_⟩ | fail)
        · show acc.length + (bytesOf (List.replicate ((byteAt ⟨#[66, 98, 78, 110]⟩ (spIdxB [69, 101, 72, 104] b).toNat) - 48).toNat 46)).size ≤ 4000000000
          rw [size_bytesOf, List.length_replicate]; omega
        refine vs.on ?_
        repeat' (first | exact Bool.noConfusion ‹(!true) = true› | exact Bool.noConfusion ‹(!false) = false› | (intro h; exact h) | (intro h; rw [h]; rfl) | (intro h1 h2; rw [h1, h2]; rfl) | (intro _; assumption) | (intro _; exact rfl) | (intro h; exact Bool.noConfusion (h.symm.trans ‹_ = false›)) | refine ⟨fun _ => ?_, fun _ => ?_⟩ | refine ⟨?_⟩ | refine ⟨?_, ?_⟩ | fail)
        refine Again.mk ((i + 1) + 1, acc ++ List.replicate ((byteAt ⟨#[66, 98, 78, 110]⟩ (spIdxB [69, 101, 72, 104] b).toNat) - 48).toNat 46) ⟨hlt, rank_next hlt hq (by rw [hbd']; exact h1), by simp; omega, hb.app dots_by⟩ (by show (bytesL s).length - ((i + 1) + 1) < (bytesL s).length - ((i + 1)); omega) ?_
        rw [bytesL_of dots_by.b, wrapN (by omega)]
        (refine ⟨?_, rfl, ?_, ?_, ?_, rfl⟩ <;> repeat' (first | exact trivial | (refine ⟨rfl, ?_⟩) | fail))
      · have hcl := (hlet.1 (of_decide_eq_true ‹decide (spIdxB [69, 101, 72, 104] b ≥ 0) = true›)).2
        have h1 := rstep_p (acc := acc) hcl ‹(decide ((byteAt ⟨#[66, 98, 78, 110]⟩ (spIdxB [69, 101, 72, 104] b).toNat) ≥ 49) && decide ((byteAt ⟨#[66, 98, 78, 110]⟩ (spIdxB [69, 101, 72, 104] b).toNat) ≤ 57)) = false› ‹decide (spSide ((byteAt ⟨#[66, 98, 78, 110]⟩ (spIdxB [69, 101, 72, 104] b).toNat)) ≥ 0) = true›
        refine trOps_none rfl (inl_one false hS.seat.tt rfl rfl Tryz.func41 rfl rfl ?_)
        intro cI hkI hrI
        refine (vs.kin hkI).go rfl ?_
        repeat' (first | exact Bool.noConfusion ‹(!true) = true› | exact Bool.noConfusion ‹(!false) = false› | (intro h; exact h) | (intro h; rw [h]; rfl) | (intro h1 h2; rw [h1, h2]; rfl) | (intro _; assumption) | (intro _; exact rfl) | (intro h; exact Bool.noConfusion (h.symm.trans ‹_ = false›)) | refine ⟨fun _ => ?_, fun _ => ?_⟩ | refine ⟨?_⟩ | refine ⟨?_, ?_⟩ | fail)
        refine trOps_none rfl (tr_copyCheck cc_law rfl Tryz.func66 rfl rfl rfl rfl (by first | exact .inl rfl | exact .inr rfl) ?_)
        refine (vs.kin hkI).on ?_
        repeat' (first | exact Bool.noConfusion ‹(!true) = true› | exact Bool.noConfusion ‹(!false) = false› | (intro h; exact h) | (intro h; rw [h]; rfl) | (intro h1 h2; rw [h1, h2]; rfl) | (intro _; assumption) | (intro _; exact rfl) | (intro h; exact Bool.noConfusion (h.symm.trans ‹_ = false›)) | refine ⟨fun _ => ?_, fun _ => ?_⟩ | refine ⟨?_⟩ | refine ⟨?_, ?_⟩ | fail)
        · show acc.length + 1 ≤ 4000000000; omega
        · show (acc.length + 1) * 1 ≤ 140737488355328; omega
        refine vs.on ?_
        repeat' (first | exact Bool.noConfusion ‹(!true) = true› | exact Bool.noConfusion ‹(!false) = false› | (intro h; exact h) | (intro h; rw [h]; rfl) | (intro h1 h2; rw [h1, h2]; rfl) | (intro _; assumption) | (intro _; exact rfl) | (intro h; exact Bool.noConfusion (h.symm.trans ‹_ = false›)) | refine ⟨fun _ => ?_, fun _ => ?_⟩ | refine ⟨?_⟩ | refine ⟨?_, ?_⟩ | fail)
        refine Again.mk ((i + 1) + 1, acc ++ [(byteAt ⟨#[66, 98, 78, 110]⟩ (spIdxB [69, 101, 72, 104] b).toNat)]) ⟨hlt, rank_next hlt hq (by rw [hbd']; exact h1), by simp; omega, hb.app (.one (hcl ▸ (letter_at (hby hlt)).2.2))⟩ (by show (bytesL s).length - ((i + 1) + 1) < (bytesL s).length - ((i + 1)); omega) ?_
        rw [wrapN (by omega)]
        (refine ⟨?_, rfl, ?_, ?_, ?_, rfl⟩ <;> repeat' (first | exact trivial | (refine ⟨rfl, ?_⟩) | fail))
      · have hcl := (hlet.1 (of_decide_eq_true ‹decide (spIdxB [69, 101, 72, 104] b ≥ 0) = true›)).2
        have h1 := rstep_n (acc := acc) hcl ‹(decide ((byteAt ⟨#[66, 98, 78, 110]⟩ (spIdxB [69, 101, 72, 104] b).toNat) ≥ 49) && decide ((byteAt ⟨#[66, 98, 78, 110]⟩ (spIdxB [69, 101, 72, 104] b).toNat) ≤ 57)) = false› ‹decide (spSide ((byteAt ⟨#[66, 98, 78, 110]⟩ (spIdxB [69, 101, 72, 104] b).toNat)) ≥ 0) = false›
        rw [(rank_bad (rank_rest hlt hq (by rw [hbd']; exact h1))).1]; exact chk_s rfl
      · have hcl := (hlet.1 (of_decide_eq_true ‹decide (spIdxB [69, 101, 72, 104] b ≥ 0) = true›)).2
        have h1 := rstep_n (acc := acc) hcl ‹(decide ((byteAt ⟨#[66, 98, 78, 110]⟩ (spIdxB [69, 101, 72, 104] b).toNat) ≥ 49) && decide ((byteAt ⟨#[66, 98, 78, 110]⟩ (spIdxB [69, 101, 72, 104] b).toNat) ≤ 57)) = false› ‹decide (spSide ((byteAt ⟨#[66, 98, 78, 110]⟩ (spIdxB [69, 101, 72, 104] b).toNat)) ≥ 0) = false›
        rw [(rank_bad (rank_rest hlt hq (by rw [hbd']; exact h1))).2]; exact chk_b rfl
      · have hcl := hlet.2.1 (by have := of_decide_eq_false ‹decide (spIdxB [69, 101, 72, 104] b ≥ 0) = false›; omega)
        obtain ⟨h1, h2, h3⟩ := rstep_d (acc := acc) hcl ‹(decide (b ≥ 49) && decide (b ≤ 57)) = true›
        rw [h2]; exact ⟨rfl, by omega, by omega⟩
      · have hcl := hlet.2.1 (by have := of_decide_eq_false ‹decide (spIdxB [69, 101, 72, 104] b ≥ 0) = false›; omega)
        obtain ⟨h1, h2, h3⟩ := rstep_d (acc := acc) hcl ‹(decide (b ≥ 49) && decide (b ≤ 57)) = true›
        simp only [h2]
        refine trOps_none rfl (inl_one false hS.seat.tt rfl rfl Tryz.func40 rfl rfl ?_)
        intro cI hkI hrI
        refine (vs.kin hkI).go rfl ?_
        repeat' (first | exact Bool.noConfusion ‹(!true) = true› | exact Bool.noConfusion ‹(!false) = false› | (intro h; exact h) | (intro h; rw [h]; rfl) | (intro h1 h2; rw [h1, h2]; rfl) | (intro _; assumption) | (intro _; exact rfl) | (intro h; exact Bool.noConfusion (h.symm.trans ‹_ = false›)) | refine ⟨fun _ => ?_, fun _ => ?_⟩ | refine ⟨?_⟩ | refine ⟨?_, ?_⟩ | fail)
        refine trOps_none rfl (tr_copyCheck cc_law rfl Tryz.func66 rfl rfl rfl rfl (by first | exact .inl rfl | exact .inr rfl) ?_)
        refine (vs.kin hkI).on ?_
        repeat' (first | exact Bool.noConfusion ‹(!true) = true› | exact Bool.noConfusion ‹(!false) = false› | (intro h; exact h) | (intro h; rw [h]; rfl) | (intro h1 h2; rw [h1, h2]; rfl) | (intro _; assumption) | (intro _; exact rfl) | (intro h; exact Bool.noConfusion (h.symm.trans ‹_ = false›)) | refine ⟨fun _ => ?_, fun _ => ?_⟩ | refine ⟨?_⟩ | refine ⟨?_, ?_⟩ | fail)
        · show acc.length + (bytesOf (List.replicate (b - 48).toNat 46)).size ≤ 4000000000
          rw [size_bytesOf, List.length_replicate]; omega
        refine vs.on ?_
        repeat' (first | exact Bool.noConfusion ‹(!true) = true› | exact Bool.noConfusion ‹(!false) = false› | (intro h; exact h) | (intro h; rw [h]; rfl) | (intro h1 h2; rw [h1, h2]; rfl) | (intro _; assumption) | (intro _; exact rfl) | (intro h; exact Bool.noConfusion (h.symm.trans ‹_ = false›)) | refine ⟨fun _ => ?_, fun _ => ?_⟩ | refine ⟨?_⟩ | refine ⟨?_, ?_⟩ | fail)
        refine Again.mk ((i + 1) + 1, acc ++ List.replicate (b - 48).toNat 46) ⟨hlt, rank_next hlt hq (by rw [hbd']; exact h1), by simp; omega, hb.app dots_by⟩ (by show (bytesL s).length - ((i + 1) + 1) < (bytesL s).length - ((i + 1)); omega) ?_
        rw [bytesL_of dots_by.b, wrapN (by omega)]
        (refine ⟨?_, rfl, ?_, ?_, ?_, rfl⟩ <;> repeat' (first | exact trivial | (refine ⟨rfl, ?_⟩) | fail))
      · have hcl := hlet.2.1 (by have := of_decide_eq_false ‹decide (spIdxB [69, 101, 72, 104] b ≥ 0) = false›; omega)
        have h1 := rstep_p (acc := acc) hcl ‹(decide (b ≥ 49) && decide (b ≤ 57)) = false› ‹decide (spSide (b) ≥ 0) = true›
        refine trOps_none rfl (inl_one false hS.seat.tt rfl rfl Tryz.func41 rfl rfl ?_)
        intro cI hkI hrI
        refine (vs.kin hkI).go rfl ?_
        repeat' (first | exact Bool.noConfusion ‹(!true) = true› | exact Bool.noConfusion ‹(!false) = false› | (intro h; exact h) | (intro h; rw [h]; rfl) | (intro h1 h2; rw [h1, h2]; rfl) | (intro _; assumption) | (intro _; exact rfl) | (intro h; exact Bool.noConfusion (h.symm.trans ‹_ = false›)) | refine ⟨fun _ => ?_, fun _ => ?_⟩ | refine ⟨?_⟩ | refine ⟨?_, ?_⟩ | fail)
        refine trOps_none rfl (tr_copyCheck cc_law rfl Tryz.func66 rfl rfl rfl rfl (by first | exact .inl rfl | exact .inr rfl) ?_)
        refine (vs.kin hkI).on ?_
        repeat' (first | exact Bool.noConfusion ‹(!true) = true› | exact Bool.noConfusion ‹(!false) = false› | (intro h; exact h) | (intro h; rw [h]; rfl) | (intro h1 h2; rw [h1, h2]; rfl) | (intro _; assumption) | (intro _; exact rfl) | (intro h; exact Bool.noConfusion (h.symm.trans ‹_ = false›)) | refine ⟨fun _ => ?_, fun _ => ?_⟩ | refine ⟨?_⟩ | refine ⟨?_, ?_⟩ | fail)
        · show acc.length + 1 ≤ 4000000000; omega
        · show (acc.length + 1) * 1 ≤ 140737488355328; omega
        refine vs.on ?_
        repeat' (first | exact Bool.noConfusion ‹(!true) = true› | exact Bool.noConfusion ‹(!false) = false› | (intro h; exact h) | (intro h; rw [h]; rfl) | (intro h1 h2; rw [h1, h2]; rfl) | (intro _; assumption) | (intro _; exact rfl) | (intro h; exact Bool.noConfusion (h.symm.trans ‹_ = false›)) | refine ⟨fun _ => ?_, fun _ => ?_⟩ | refine ⟨?_⟩ | refine ⟨?_, ?_⟩ | fail)
        refine Again.mk ((i + 1) + 1, acc ++ [b]) ⟨hlt, rank_next hlt hq (by rw [hbd']; exact h1), by simp; omega, hb.app (.one (hcl ▸ (letter_at (hby hlt)).2.2))⟩ (by show (bytesL s).length - ((i + 1) + 1) < (bytesL s).length - ((i + 1)); omega) ?_
        rw [wrapN (by omega)]
        (refine ⟨?_, rfl, ?_, ?_, ?_, rfl⟩ <;> repeat' (first | exact trivial | (refine ⟨rfl, ?_⟩) | fail))
      · have hcl := hlet.2.1 (by have := of_decide_eq_false ‹decide (spIdxB [69, 101, 72, 104] b ≥ 0) = false›; omega)
        have h1 := rstep_n (acc := acc) hcl ‹(decide (b ≥ 49) && decide (b ≤ 57)) = false› ‹decide (spSide (b) ≥ 0) = false›
        rw [(rank_bad (rank_rest hlt hq (by rw [hbd']; exact h1))).1]; exact chk_s rfl
      · have hcl := hlet.2.1 (by have := of_decide_eq_false ‹decide (spIdxB [69, 101, 72, 104] b ≥ 0) = false›; omega)
        have h1 := rstep_n (acc := acc) hcl ‹(decide (b ≥ 49) && decide (b ≤ 57)) = false› ‹decide (spSide (b) ≥ 0) = false›
        rw [(rank_bad (rank_rest hlt hq (by rw [hbd']; exact h1))).2]; exact chk_b rfl
  · cases hcr
end
end Go.X
