/-
  Parts of the proof.
-/
import Derived.Ground.Names7Prog
import Derived.Shelf.Spec.TrailingZeros
import Derived.Shelf.Small.Bits
import Derived.Shelf.Small.Strs
import Derived.Shelf.Strconv.Itoa0
import Derived.Shelf.Strings.Search1
import Derived.Shelf.Sort.Plain
import Derived.Shelf.GgClosure.StringsIndexFunc
import Derived.Ground.GgwProg
import Derived.Shelf.GgClosure.StringsIndexFuncTop
import Derived.Shelf.Strings.FuncGrows
import Derived.Shelf.Slices.In.SortNone
import Derived.Test.YtemafoaeoakbbaaGreatDoorProg
import Derived.Test.YtemafoaeoakbbaaGreatDoorA1
import Derived.Lib.Bytealg
import Derived.Laws.BitsAllLaws
import Derived.Lib.TrailingZeros
import Derived.Sort.Grow

set_option linter.unusedSimpArgs false
set_option linter.unusedVariables false

namespace Go.Proofs
open Go.Shelf
def Tryz.lays128_ren : Go.Shelf.Ren := ⟨fun | 128 => 136 | n => n, fun | 51 => 113 | 3 => 3 | 4 => 4 | 46 => 91 | 5 => 5 | 9 => 9 | n => n, fun | n => n⟩
theorem Tryz.lays128 : Go.Proofs.Lays.n128 Tryz.prog Tryz.lays128_ren := {
  mixed := by kernel_rfl
  f128 := Tryz.func136.trans (congrArg some (by kernel_rfl))
  t3 := Tryz.underlying3
  a3 := Tryz.isAgg3
  z3 := Tryz.sizeOf3
  v3 := Tryz.zeroValue3
  t4 := Tryz.underlying4
  a4 := Tryz.isAgg4
  z4 := Tryz.sizeOf4
  v4 := Tryz.zeroValue4
  t5 := Tryz.underlying5
  a5 := Tryz.isAgg5
  z5 := Tryz.sizeOf5
  v5 := Tryz.zeroValue5
  t9 := Tryz.underlying9
  a9 := Tryz.isAgg9
  z9 := Tryz.sizeOf9
  v9 := Tryz.zeroValue9
  t46 := Tryz.underlying91
  a46 := Tryz.isAgg91
  z46 := Tryz.sizeOf91
  v46 := Tryz.zeroValue91
  t51 := Tryz.underlying113
  a51 := Tryz.isAgg113
  z51 := Tryz.sizeOf113
  v51 := Tryz.zeroValue113 }
theorem Tryz.bits_Len32 (x : Int) (w : World) (h0 : 0 ≤ x) (h1 : x ≤ 4294967295) :
    Calls Tryz.prog 136 #[.int .u32 x] w fun e w' => e = .returned (.int .i64 (Lib.bitLen x.toNat)) ∧ w' = w := Any.bits_Len32 Tryz.lays128 x w h0 h1
def Tryz.lays125_ren : Go.Shelf.Ren := ⟨fun | 125 => 98 | 128 => 136 | 129 => 137 | n => n, fun | 46 => 91 | 3 => 3 | 51 => 113 | 53 => 66 | 4 => 4 | 5 => 5 | 9 => 9 | n => n, fun | n => n⟩
theorem Tryz.lays125 : Go.Proofs.Lays.n125 Tryz.prog Tryz.lays125_ren := {
  mixed := by kernel_rfl
  f125 := Tryz.func98.trans (congrArg some (by kernel_rfl))
  f128 := Tryz.func136.trans (congrArg some (by kernel_rfl))
  f129 := Tryz.func137.trans (congrArg some (by kernel_rfl))
  t3 := Tryz.underlying3
  a3 := Tryz.isAgg3
  z3 := Tryz.sizeOf3
  v3 := Tryz.zeroValue3
  t4 := Tryz.underlying4
  a4 := Tryz.isAgg4
  z4 := Tryz.sizeOf4
  v4 := Tryz.zeroValue4
  t5 := Tryz.underlying5
  a5 := Tryz.isAgg5
  z5 := Tryz.sizeOf5
  v5 := Tryz.zeroValue5
  t9 := Tryz.underlying9
  a9 := Tryz.isAgg9
  z9 := Tryz.sizeOf9
  v9 := Tryz.zeroValue9
  t46 := Tryz.underlying91
  a46 := Tryz.isAgg91
  z46 := Tryz.sizeOf91
  v46 := Tryz.zeroValue91
  t51 := Tryz.underlying113
  a51 := Tryz.isAgg113
  z51 := Tryz.sizeOf113
  v51 := Tryz.zeroValue113
  t53 := Tryz.underlying66
  a53 := Tryz.isAgg66
  z53 := Tryz.sizeOf66
  v53 := Tryz.zeroValue66 }
theorem Tryz.bits_Len (x : Int) (w : World) (h0 : 0 ≤ x) (h1 : x ≤ 18446744073709551615) :
    Calls Tryz.prog 98 #[.int .u64 x] w fun e w' => e = .returned (.int .i64 (Lib.bitLen x.toNat)) ∧ w' = w := Any.bits_Len Tryz.lays125 x w h0 h1
def Tryz.lays137_ren : Go.Shelf.Ren := ⟨fun | 137 => 49 | 217 => 73 | 266 => 101 | n => n, fun | 9 => 9 | 5 => 5 | 3 => 3 | n => n, fun | n => n⟩
theorem Tryz.lays137 : Go.Proofs.Lays.n137 Tryz.prog Tryz.lays137_ren := {
  mixed := by kernel_rfl
  f137 := Tryz.func49.trans (congrArg some (by kernel_rfl))
  f217 := Tryz.func73.trans (congrArg some (by kernel_rfl))
  f266 := Tryz.func101.trans (congrArg some (by kernel_rfl))
  t3 := Tryz.underlying3
  a3 := Tryz.isAgg3
  z3 := Tryz.sizeOf3
  v3 := Tryz.zeroValue3
  t5 := Tryz.underlying5
  a5 := Tryz.isAgg5
  z5 := Tryz.sizeOf5
  v5 := Tryz.zeroValue5
  t9 := Tryz.underlying9
  a9 := Tryz.isAgg9
  z9 := Tryz.sizeOf9
  v9 := Tryz.zeroValue9 }
open Go.RowKit in
theorem Tryz.strings_IndexByte (s : ByteArray) (c : Int) (w : World) :
    Calls Tryz.prog 49 #[.string s, .int .u8 c] w fun e w' => e = .returned (.int .i64 (Lib.indexByte s.data.toList c.toNat.toUInt8)) ∧ w' = w := Any.strings_IndexByte Tryz.lays137 s c w
def Tryz.lays129_ren : Go.Shelf.Ren := ⟨fun | 129 => 137 | n => n, fun | 53 => 66 | 3 => 3 | 4 => 4 | 46 => 91 | 5 => 5 | 9 => 9 | n => n, fun | n => n⟩
theorem Tryz.lays129 : Go.Proofs.Lays.n129 Tryz.prog Tryz.lays129_ren := {
  mixed := by kernel_rfl
  f129 := Tryz.func137.trans (congrArg some (by kernel_rfl))
  t3 := Tryz.underlying3
  a3 := Tryz.isAgg3
  z3 := Tryz.sizeOf3
  v3 := Tryz.zeroValue3
  t4 := Tryz.underlying4
  a4 := Tryz.isAgg4
  z4 := Tryz.sizeOf4
  v4 := Tryz.zeroValue4
  t5 := Tryz.underlying5
  a5 := Tryz.isAgg5
  z5 := Tryz.sizeOf5
  v5 := Tryz.zeroValue5
  t9 := Tryz.underlying9
  a9 := Tryz.isAgg9
  z9 := Tryz.sizeOf9
  v9 := Tryz.zeroValue9
  t46 := Tryz.underlying91
  a46 := Tryz.isAgg91
  z46 := Tryz.sizeOf91
  v46 := Tryz.zeroValue91
  t53 := Tryz.underlying66
  a53 := Tryz.isAgg66
  z53 := Tryz.sizeOf66
  v53 := Tryz.zeroValue66 }
theorem Tryz.bits_Len64 (x : Int) (w : World) (h0 : 0 ≤ x) (h1 : x ≤ 18446744073709551615) :
    Calls Tryz.prog 137 #[.int .u64 x] w fun e w' => e = .returned (.int .i64 (Lib.bitLen x.toNat)) ∧ w' = w := Any.bits_Len64 Tryz.lays129 x w h0 h1
def Tryz.lays217_ren : Go.Shelf.Ren := ⟨fun | 217 => 73 | 266 => 101 | n => n, fun | 9 => 9 | 5 => 5 | 3 => 3 | n => n, fun | n => n⟩
theorem Tryz.lays217 : Go.Proofs.Lays.n217 Tryz.prog Tryz.lays217_ren := {
  mixed := by kernel_rfl
  f217 := Tryz.func73.trans (congrArg some (by kernel_rfl))
  f266 := Tryz.func101.trans (congrArg some (by kernel_rfl))
  t3 := Tryz.underlying3
  a3 := Tryz.isAgg3
  z3 := Tryz.sizeOf3
  v3 := Tryz.zeroValue3
  t5 := Tryz.underlying5
  a5 := Tryz.isAgg5
  z5 := Tryz.sizeOf5
  v5 := Tryz.zeroValue5
  t9 := Tryz.underlying9
  a9 := Tryz.isAgg9
  z9 := Tryz.sizeOf9
  v9 := Tryz.zeroValue9 }
open Go.RowKit Go.Lib in
theorem Tryz.stringslite_IndexByte (s : ByteArray) (c : Int) (w : World) :
    Calls Tryz.prog 73 #[.string s, .int .u8 c] w fun e w' => e = .returned (.int .i64 (Lib.indexByte s.data.toList c.toNat.toUInt8)) ∧ w' = w := Any.stringslite_IndexByte Tryz.lays217 s c w
def Tryz.lays189_ren : Go.Shelf.Ren := ⟨fun | 189 => 69 | 125 => 98 | 257 => 97 | 128 => 136 | 129 => 137 | 294 => 127 | 295 => 128 | 296 => 129 | 297 => 130 | 298 => 131 | 299 => 132 | 216 => 133 | 300 => 134 | 301 => 135 | 328 => 148 | 329 => 149 | 330 => 150 | 331 => 151 | 332 => 152 | 215 => 153 | 343 => 158 | n => n, fun | 28 => 39 | 3 => 3 | 46 => 91 | 0 => 0 | 51 => 113 | 53 => 66 | 4 => 4 | 183 => 106 | 182 => 105 | 131 => 110 | 5 => 5 | 9 => 9 | 218 => 121 | 222 => 125 | 228 => 130 | 229 => 131 | n => n, fun | n => n⟩
theorem Tryz.lays189 : Go.Proofs.Lays.n189 Tryz.prog Tryz.lays189_ren := {
  mixed := by kernel_rfl
  f125 := Tryz.func98.trans (congrArg some (by kernel_rfl))
  f128 := Tryz.func136.trans (congrArg some (by kernel_rfl))
  f129 := Tryz.func137.trans (congrArg some (by kernel_rfl))
  f189 := Tryz.func69.trans (congrArg some (by kernel_rfl))
  f215 := Tryz.func153.trans (congrArg some (by kernel_rfl))
  f216 := Tryz.func133.trans (congrArg some (by kernel_rfl))
  f257 := Tryz.func97.trans (congrArg some (by kernel_rfl))
  f294 := Tryz.func127.trans (congrArg some (by kernel_rfl))
  f295 := Tryz.func128.trans (congrArg some (by kernel_rfl))
  f296 := Tryz.func129.trans (congrArg some (by kernel_rfl))
  f297 := Tryz.func130.trans (congrArg some (by kernel_rfl))
  f298 := Tryz.func131.trans (congrArg some (by kernel_rfl))
  f299 := Tryz.func132.trans (congrArg some (by kernel_rfl))
  f300 := Tryz.func134.trans (congrArg some (by kernel_rfl))
  f301 := Tryz.func135.trans (congrArg some (by kernel_rfl))
  f328 := Tryz.func148.trans (congrArg some (by kernel_rfl))
  f329 := Tryz.func149.trans (congrArg some (by kernel_rfl))
  f330 := Tryz.func150.trans (congrArg some (by kernel_rfl))
  f331 := Tryz.func151.trans (congrArg some (by kernel_rfl))
  f332 := Tryz.func152.trans (congrArg some (by kernel_rfl))
  f343 := Tryz.func158.trans (congrArg some (by kernel_rfl))
  t0 := Tryz.underlying0
  a0 := Tryz.isAgg0
  z0 := Tryz.sizeOf0
  v0 := Tryz.zeroValue0
  t3 := Tryz.underlying3
  a3 := Tryz.isAgg3
  z3 := Tryz.sizeOf3
  v3 := Tryz.zeroValue3
  t4 := Tryz.underlying4
  a4 := Tryz.isAgg4
  z4 := Tryz.sizeOf4
  v4 := Tryz.zeroValue4
  t5 := Tryz.underlying5
  a5 := Tryz.isAgg5
  z5 := Tryz.sizeOf5
  v5 := Tryz.zeroValue5
  t9 := Tryz.underlying9
  a9 := Tryz.isAgg9
  z9 := Tryz.sizeOf9
  v9 := Tryz.zeroValue9
  t28 := Tryz.underlying39
  a28 := Tryz.isAgg39
  z28 := Tryz.sizeOf39
  v28 := Tryz.zeroValue39
  t46 := Tryz.underlying91
  a46 := Tryz.isAgg91
  z46 := Tryz.sizeOf91
  v46 := Tryz.zeroValue91
  t51 := Tryz.underlying113
  a51 := Tryz.isAgg113
  z51 := Tryz.sizeOf113
  v51 := Tryz.zeroValue113
  t53 := Tryz.underlying66
  a53 := Tryz.isAgg66
  z53 := Tryz.sizeOf66
  v53 := Tryz.zeroValue66
  t131 := Tryz.underlying110
  a131 := Tryz.isAgg110
  z131 := Tryz.sizeOf110
  v131 := Tryz.zeroValue110
  t182 := Tryz.underlying105
  a182 := Tryz.isAgg105
  z182 := Tryz.sizeOf105
  v182 := Tryz.zeroValue105
  t183 := Tryz.underlying106
  a183 := Tryz.isAgg106
  z183 := Tryz.sizeOf106
  v183 := Tryz.zeroValue106
  t218 := Tryz.underlying121
  a218 := Tryz.isAgg121
  z218 := Tryz.sizeOf121
  v218 := Tryz.zeroValue121
  t222 := Tryz.underlying125
  a222 := Tryz.isAgg125
  z222 := Tryz.sizeOf125
  v222 := Tryz.zeroValue125
  t228 := Tryz.underlying130
  a228 := Tryz.isAgg130
  z228 := Tryz.sizeOf130
  v228 := Tryz.zeroValue130
  t229 := Tryz.underlying131
  a229 := Tryz.isAgg131
  z229 := Tryz.sizeOf131
  v229 := Tryz.zeroValue131 }
open Go.Sort Go.RowKit in
theorem Tryz.slices_Sort_int (blk off cap : Nat) (zs : List Int) (w : World) (hH : Holds (Value.int .i64) w blk off zs.toArray) (hblk : blk < w.heap.size) (hsz : zs.length < 4611686018427387904) :
    Calls Tryz.prog 69 #[.slice (some ⟨blk, off, none⟩) zs.length cap] w fun e w' =>
      e = .returned (.tuple #[]) ∧ ∃ n os, w' = grow (putRow (Value.int .i64) (Sort.ahead w n) blk off (zs.mergeSort fun x y => decide (x ≤ y)).toArray) os := Any.slices_Sort_int Tryz.lays189 blk off cap zs w hH hblk hsz
def Tryz.lays315_ren : Go.Shelf.Ren := ⟨fun | 315 => 102 | n => n, fun | 9 => 9 | 40 => 79 | 4 => 4 | 3 => 3 | 0 => 0 | 21 => 21 | n => n, fun | n => n⟩
theorem Tryz.lays315 : Go.Proofs.Lays.n315 Tryz.prog Tryz.lays315_ren := {
  mixed := by kernel_rfl
  f315 := Tryz.func102.trans (congrArg some (by kernel_rfl))
  t0 := Tryz.underlying0
  a0 := Tryz.isAgg0
  z0 := Tryz.sizeOf0
  v0 := Tryz.zeroValue0
  t3 := Tryz.underlying3
  a3 := Tryz.isAgg3
  z3 := Tryz.sizeOf3
  v3 := Tryz.zeroValue3
  t4 := Tryz.underlying4
  a4 := Tryz.isAgg4
  z4 := Tryz.sizeOf4
  v4 := Tryz.zeroValue4
  t9 := Tryz.underlying9
  a9 := Tryz.isAgg9
  z9 := Tryz.sizeOf9
  v9 := Tryz.zeroValue9
  t21 := Tryz.underlying21
  a21 := Tryz.isAgg21
  z21 := Tryz.sizeOf21
  v21 := Tryz.zeroValue21
  t40 := Tryz.underlying79
  a40 := Tryz.isAgg79
  z40 := Tryz.sizeOf79
  v40 := Tryz.zeroValue79 }
open Go.RowKit Go.Lib in
theorem Tryz.strings_indexFunc (g : Nat) (lb : Array Value) (eg : ∀ args w, (callFunc g args).run Tryz.prog w = .ok (.enter g args) w) (p : Nat → Bool) (truth : Bool) (s : ByteArray) (w : World) (hp : PredAt Tryz.prog g lb encR p w) :
    Calls Tryz.prog 102 #[.string s, .func (.func g) #[] lb, .bool truth] w fun e w' => e = .returned (.int .i64 (Lib.idxFunc p truth s)) ∧ Below w.heap.size w w' := Any.strings_indexFunc Tryz.lays315 g lb eg p truth s w hp
def Tryz.laysGw15_ren : Go.Shelf.Ren := ⟨fun | 15 => 74 | 20 => 102 | n => n, fun | 9 => 9 | 23 => 79 | 3 => 3 | 4 => 4 | 0 => 0 | 21 => 21 | n => n, fun | n => n⟩
theorem Tryz.laysGw15 : Go.Proofs.LaysGw.n15 Tryz.prog Tryz.laysGw15_ren := {
  mixed := by kernel_rfl
  f15 := Tryz.func74.trans (congrArg some (by kernel_rfl))
  f20 := Tryz.func102.trans (congrArg some (by kernel_rfl))
  t0 := Tryz.underlying0
  a0 := Tryz.isAgg0
  z0 := Tryz.sizeOf0
  v0 := Tryz.zeroValue0
  i0 := by kernel_rfl
  t3 := Tryz.underlying3
  a3 := Tryz.isAgg3
  z3 := Tryz.sizeOf3
  v3 := Tryz.zeroValue3
  i3 := by kernel_rfl
  t4 := Tryz.underlying4
  a4 := Tryz.isAgg4
  z4 := Tryz.sizeOf4
  v4 := Tryz.zeroValue4
  i4 := by kernel_rfl
  t9 := Tryz.underlying9
  a9 := Tryz.isAgg9
  z9 := Tryz.sizeOf9
  v9 := Tryz.zeroValue9
  i9 := by kernel_rfl
  t21 := Tryz.underlying21
  a21 := Tryz.isAgg21
  z21 := Tryz.sizeOf21
  v21 := Tryz.zeroValue21
  i21 := by kernel_rfl
  t23 := Tryz.underlying79
  a23 := Tryz.isAgg79
  z23 := Tryz.sizeOf79
  v23 := Tryz.zeroValue79
  i23 := by kernel_rfl }
open Go.RowKit Go.Lib in
theorem Tryz.strings_IndexFunc (g : Nat) (lb : Array Value) (eg : ∀ args w, (callFunc g args).run Tryz.prog w = .ok (.enter g args) w) (p : Nat → Bool) (s : ByteArray) (w : World) (hp : PredAt Tryz.prog g lb encR p w) :
    Calls Tryz.prog 74 #[.string s, .func (.func g) #[] lb] w fun e w' => e = .returned (.int .i64 (Lib.idxFunc p true s)) ∧ Below w.heap.size w w' := Any.strings_IndexFunc Tryz.laysGw15 g lb eg p s w hp
open Go.RowKit Go.Lib in
theorem Tryz.strings_indexFunc_grows (g : Nat) (lb : Array Value) (eg : ∀ args w, (callFunc g args).run Tryz.prog w = .ok (.enter g args) w) (p : Nat → Bool) (truth : Bool) (s : ByteArray) (w : World) (hp : PredGrows Tryz.prog g lb p w) :
    Calls Tryz.prog 102 #[.string s, .func (.func g) #[] lb, .bool truth] w fun e w' => e = .returned (.int .i64 (Lib.idxFunc p truth s)) ∧ Below w.heap.size w w' := Any.strings_indexFunc_grows Tryz.lays315 g lb eg p truth s w hp
open Go.RowKit Go.Lib in
theorem Tryz.strings_IndexFunc_grows (g : Nat) (lb : Array Value) (eg : ∀ args w, (callFunc g args).run Tryz.prog w = .ok (.enter g args) w) (p : Nat → Bool) (s : ByteArray) (w : World) (hp : PredGrows Tryz.prog g lb p w) :
    Calls Tryz.prog 74 #[.string s, .func (.func g) #[] lb] w fun e w' => e = .returned (.int .i64 (Lib.idxFunc p true s)) ∧ Below w.heap.size w w' := Any.strings_IndexFunc_grows Tryz.laysGw15 g lb eg p s w hp
open Go.RowKit Go.Sort in
theorem Tryz.slices_Sort_int_none (p : Option Addr) (cap : Nat) (w : World) :
    Calls Tryz.prog 69 #[.slice p 0 cap] w fun e w' => e = .returned (.tuple #[]) ∧ w' = w := Any.slices_Sort_int_none Tryz.lays189 p cap w
def Tryz.laysT29_ren : Go.Shelf.Ren := ⟨fun | 29 => 140 | n => n, fun | 22 => 66 | 3 => 3 | 4 => 4 | 25 => 91 | 54 => 127 | 0 => 0 | 5 => 5 | n => n, fun | 1 => 1 | n => n⟩
theorem Tryz.laysT29 : Go.Proofs.Lays7.n29 Tryz.prog Tryz.laysT29_ren := {
  mixed := by kernel_rfl
  f29 := Tryz.func140.trans (congrArg some (by kernel_rfl))
  t0 := Tryz.underlying0
  a0 := Tryz.isAgg0
  z0 := Tryz.sizeOf0
  v0 := Tryz.zeroValue0
  i0 := by kernel_rfl
  t3 := Tryz.underlying3
  a3 := Tryz.isAgg3
  z3 := Tryz.sizeOf3
  v3 := Tryz.zeroValue3
  i3 := by kernel_rfl
  t4 := Tryz.underlying4
  a4 := Tryz.isAgg4
  z4 := Tryz.sizeOf4
  v4 := Tryz.zeroValue4
  i4 := by kernel_rfl
  t5 := Tryz.underlying5
  a5 := Tryz.isAgg5
  z5 := Tryz.sizeOf5
  v5 := Tryz.zeroValue5
  i5 := by kernel_rfl
  t22 := Tryz.underlying66
  a22 := Tryz.isAgg66
  z22 := Tryz.sizeOf66
  v22 := Tryz.zeroValue66
  i22 := by kernel_rfl
  t25 := Tryz.underlying91
  a25 := Tryz.isAgg91
  z25 := Tryz.sizeOf91
  v25 := Tryz.zeroValue91
  i25 := by kernel_rfl
  t54 := Tryz.underlying127
  a54 := Tryz.isAgg127
  z54 := Tryz.sizeOf127
  g1 := by kernel_rfl }
open Go.RowKit in
theorem Tryz.bits_TrailingZeros64 (x : Nat) (hx : x < 18446744073709551616) (w : World) (hT : x ≠ 0 → TabAt (Tryz.laysT29_ren.g 1) Lib.deBruijn64tab w) :
    Calls Tryz.prog (Tryz.laysT29_ren.f 29) #[.int .u64 x] w fun e w' => e = .returned (.int .i64 (Lib.ctz 64 x)) ∧ w' = w := Any7.bits_TrailingZeros64 Tryz.laysT29 x hx w hT
end Go.Proofs

namespace Go.X
open Go.RowKit
section
variable {P : Program} {c : Ctx}

theorem HeapOK.recell {st : St} {e : Env} {w : World} {b : Nat} {bx : Box} {cells : List AV} (hh : HeapOK c e st w) (hb : getK none st.boxes b = some bx) (h : ∀ vs, RL st e bx.cells vs → RL st e cells vs) :
    HeapOK c e ⟨st.tmps, putAt none st.boxes b (some ⟨bx.T, cells, bx.own⟩), st.rows, st.ys, st.pin⟩ w ∧ Pres st e ⟨st.tmps, putAt none st.boxes b (some ⟨bx.T, cells, bx.own⟩), st.rows, st.ys, st.pin⟩ e [] := by
  have hp : Pres st e ⟨st.tmps, putAt none st.boxes b (some ⟨bx.T, cells, bx.own⟩), st.rows, st.ys, st.pin⟩ e [] := by
    refine pres_of rfl rfl (fun id q hq => ⟨?_, rfl⟩) (fun id q _ hq => ⟨⟨q, hq, rfl, Nat.le_refl _⟩, rfl⟩)
    rw [getK_putAt]
    split
    · exact ⟨_, rfl⟩
    · exact ⟨q, hq⟩
  have hBB : ∀ i, blkB e ⟨st.tmps, putAt none st.boxes b (some ⟨bx.T, cells, bx.own⟩), st.rows, st.ys, st.pin⟩ i = blkB e st i := fun i => by
    simp only [blkB, getK_putAt]
    by_cases hi : i = b
    · subst hi; rw [if_pos rfl, hb]
    · rw [if_neg hi]
  refine ⟨⟨hh.frame, fun i q hq => ?_, hh.row, fun i j g h1 h2 => hh.injB i j g (by rw [← hBB]; exact h1) (by rw [← hBB]; exact h2), hh.injR, fun i j g h1 h2 => hh.apart i j g (by rw [← hBB]; exact h1) h2, hh.out, hh.defd, hh.defm, hh.mwr, hh.yl, hh.nd, RL_keep hp hh.pin⟩, hp⟩
  rw [getK_putAt] at hq
  by_cases hi : i = b
  · subst hi
    rw [if_pos rfl] at hq
    cases hq
    obtain ⟨⟨vs, h1, h2, h3⟩, h4⟩ := hh.box i bx hb
    exact ⟨⟨vs, h1, RL_keep hp (h vs h2), h3⟩, h4⟩
  · rw [if_neg hi] at hq
    obtain ⟨⟨vs, h1, h2, h3⟩, h4⟩ := hh.box i q hq
    exact ⟨⟨vs, h1, RL_keep hp h2, h3⟩, h4⟩

theorem RL_renil {st : St} {e : Env} {fr : Nat} (hrow : R st e (.row fr) (.slice none 0 0)) : ∀ (l : List AV) (j : Nat) (vs : List Value), getK .any l j = .nils → RL st e l vs → RL st e (backSt.setAt l j (.row fr)) vs := by
  intro l
  induction l with
  | nil => intro j vs h; cases j <;> simp [getK] at h
  | cons x l ih =>
    intro j vs h hl
    obtain ⟨v, vs', rfl, h1, h2⟩ := hl
    cases j with
    | zero =>
      simp only [getK] at h
      subst h
      simp only [R] at h1
      subst h1
      exact ⟨_, vs', rfl, hrow, h2⟩
    | succ j => exact ⟨v, vs', rfl, h1, ih j vs' h h2⟩
theorem Tr_nilBox {code : Code} {st : St} {K : Exit → St → Prop} (T : TypeId) (k : EK) (b j : Nat) {T0 : TypeId} {cells : List AV} {own : Bool} (hb : getK none st.boxes b = some ⟨T0, cells, own⟩) (hj : getK .any cells j = .nils) (hk : 0 < k.size)
    (h : lenK st.rows 0 fun n => avL (backSt.setAt cells j (.row n)) fun cells' => stF ⟨st.tmps, putAt none st.boxes b (some ⟨T0, cells', own⟩), putAt none st.rows n (some ⟨T, k, [], true⟩), st.ys, st.pin⟩ fun st => Tr P c code st K) : Tr P c code st K := by
  rw [lenK_eq, avL_eq, stF_eq, Nat.zero_add] at h
  intro e a w hh ht
  obtain ⟨h1, h2⟩ := addRow hh (fr := st.rows.length) (r := ⟨T, k, [], true⟩) (v := .slice none 0 0) (w' := w) (Below.refl _ _) (getK_length none st.rows _ (Nat.le_refl _)) rfl (.inl ⟨rfl, rfl⟩) (fun g hg => by simp [Value.ownBlock] at hg)
  have hR : R ⟨st.tmps, st.boxes, putAt none st.rows st.rows.length (some ⟨T, k, [], true⟩), st.ys, st.pin⟩ ⟨e.β, updV e.ρ st.rows.length (.slice none 0 0), e.M, e.D, e.l⟩ (.row st.rows.length) (.slice none 0 0) :=
    ⟨⟨⟨T, k, [], true⟩, by show getK none (putAt _ _ _ _) _ = _; rw [getK_putAt, if_pos rfl]⟩, by simp [updV]⟩
  obtain ⟨h3, h4⟩ := h1.recell (b := b) (cells := backSt.setAt cells j (.row st.rows.length)) hb (fun vs hv => RL_renil hR _ j vs hj hv)
  exact h _ a w h3 ⟨RL_keep h4 (RL_keep h2 ht.1), ht.2⟩
theorem Tr_nilTmp {code : Code} {st : St} {K : Exit → St → Prop} (T : TypeId) (k : EK) (t : Nat) (hj : getK .any st.tmps t = .nils) (hk : 0 < k.size)
    (h : lenK st.rows 0 fun n => stF ⟨backSt.setAt st.tmps t (.row n), st.boxes, putAt none st.rows n (some ⟨T, k, [], true⟩), st.ys, st.pin⟩ fun st => Tr P c code st K) : Tr P c code st K := by
  rw [lenK_eq, stF_eq, Nat.zero_add] at h
  intro e a w hh ht
  obtain ⟨h1, h2⟩ := addRow hh (fr := st.rows.length) (r := ⟨T, k, [], true⟩) (v := .slice none 0 0) (w' := w) (Below.refl _ _) (getK_length none st.rows _ (Nat.le_refl _)) rfl (.inl ⟨rfl, rfl⟩) (fun g hg => by simp [Value.ownBlock] at hg)
  have hR : R ⟨st.tmps, st.boxes, putAt none st.rows st.rows.length (some ⟨T, k, [], true⟩), st.ys, st.pin⟩ ⟨e.β, updV e.ρ st.rows.length (.slice none 0 0), e.M, e.D, e.l⟩ (.row st.rows.length) (.slice none 0 0) :=
    ⟨⟨⟨T, k, [], true⟩, by show getK none (putAt _ _ _ _) _ = _; rw [getK_putAt, if_pos rfl]⟩, by simp [updV]⟩
  exact h _ a w (HeapOK_tmps h1) ⟨RL_st (st := ⟨st.tmps, st.boxes, putAt none st.rows st.rows.length (some ⟨T, k, [], true⟩), st.ys, st.pin⟩) rfl rfl (RL_renil hR _ t _ hj (RL_keep h2 ht.1)), ht.2⟩
inductive Again {α : Type} (ok : α → Prop) (μ : α → Nat) (x : α) (st : St) (H : α → St) : Prop
  | mk (x' : α) (h1 : ok x') (h2 : μ x' < μ x) (h3 : Le st (H x'))
theorem Tr_loopH {α : Type} (ts : α → List (Nat × AV)) (bs : α → List (Nat × Option Box)) (rs : α → List (Nat × Option Row)) (ok : α → Prop) (μ : α → Nat) {body : Code} {st : St} {K : Exit → St → Prop} (x0 : α) (h0 : ok x0)
    (hle : Le st (headOf body st (ts x0) (bs x0) (rs x0)))
    (hround : ∀ x, ok x → Tr P c body (headOf body st (ts x) (bs x) (rs x)) (exitThen (fun st' => Again ok μ x st' (fun x' => headOf body st (ts x') (bs x') (rs x'))) K)) : Tr P c (.loop body) st K := by
  refine Tr_loop (fun x => headOf body st (ts x) (bs x) (rs x)) ok μ x0 h0 hle (fun x hx e a w hh ht => ?_)
  refine wpIn_mono (hround x hx e a w hh ht) (fun ex a' w' hq => QK_mono (fun ex' st' h => ?_) hq)
  cases ex' with
  | normal => obtain ⟨x', h1, h2, h3⟩ := h; exact ⟨x', h1, h2, h3⟩
  | _ => exact h
end
end Go.X

namespace Go.X
open Go

theorem wrap64 {x : Int} (h : -9223372036854775808 ≤ x) (h' : x ≤ 9223372036854775807) : IntKind.i64.wrap x = x := by
  have e1 : (2 : Int) ^ (64 : Nat) = 18446744073709551616 := by decide
  have e2 : (2 : Int) ^ (64 - 1 : Nat) = 9223372036854775808 := by decide
  unfold IntKind.wrap
  simp only [IntKind.signed, IntKind.bits, e1, e2]
  by_cases h2 : x % 18446744073709551616 ≥ 9223372036854775808
  · rw [if_pos (by simp [h2])]; omega
  · rw [if_neg (by simp; omega)]; omega
theorem bn {b : Bool} (h : (!b) = false) : b = true := by cases b <;> simp_all
theorem bt {b : Bool} (h : (!b) = true) : b = false := by cases b <;> simp_all
theorem tdiv9 {n : Int} (h : 0 ≤ n) : n.tdiv 9 = n / 9 := Int.tdiv_eq_ediv_of_nonneg h
theorem tmod9 {n : Int} (h : 0 ≤ n) : n.tmod 9 = n % 9 := Int.tmod_eq_emod_of_nonneg h

def spIsSquare (n : Int) : Bool := decide (0 ≤ n) && decide (n < 90)
theorem isSquare_iff {n : Int} : spIsSquare n = true ↔ 0 ≤ n ∧ n < 90 := by simp [spIsSquare]
def spRank (n : Int) : Int := if spIsSquare n then n / 9 else -1
def spFile (n : Int) : Int := if spIsSquare n then n % 9 else -1
def spSquare (f r : Int) : Int := if decide (0 ≤ f) && decide (f < 9) && decide (0 ≤ r) && decide (r < 10) then r * 9 + f else -1
def spIdxB (l : List UInt8) (c : Int) : Int := Lib.indexByte l c.toNat.toUInt8
def spSide (c : Int) : Int := if 0 ≤ spIdxB [75, 65, 66, 78, 82, 67, 80] c then 0 else if 0 ≤ spIdxB [107, 97, 98, 110, 114, 99, 112] c then 1 else -1
def spIsCell (c : Int) : Bool := (c == 46) || decide (0 ≤ spSide c)
def spKind (c : Int) : Int := if spSide c = 1 then IntKind.u8.wrap (c - 32) else if spSide c = 0 then c else 0
def spBad (r : Nat) : Bool := decide ((122 : Int) < r) || !spIsCell (IntKind.u8.wrap r)
def spIs (p : ByteArray) : Bool := (p.size : Int) == 90 && decide (Lib.idxFunc spBad true p < 0)
theorem spIs_size {p : ByteArray} (h : spIs p = true) : p.size = 90 := by simp [spIs] at h; omega
theorem bytesL_length (p : ByteArray) : (bytesL p).length = p.size := by simp [bytesL]
def spAt (p : ByteArray) (n : Int) : Int := if spIsSquare n && spIs p then byteAt p n.toNat else 46
def spPut (p : ByteArray) (n c : Int) : ByteArray := if spIsSquare n && spIsCell c && spIs p then bytesOf ((bytesL p).set n.toNat c) else p
end Go.X

namespace Go.X
open Go

structure UI (x : Int) : Prop where
  lo : 0 ≤ x
  hi : x < 18446744073709551616
  ok : True
theorem UI.nat {n : Nat} (h : n < 18446744073709551616) : UI (Int.ofNat n) := ⟨by simp, by show (n : Int) < _; omega, trivial⟩
theorem and_nat {a b : Int} (ha : UI a) (hb : UI b) : bits .and .u64 a b = Int.ofNat (a.toNat &&& b.toNat) := Go.u64_and a b ha.lo ha.hi hb.lo hb.hi
theorem or_nat {a b : Int} (ha : UI a) (hb : UI b) : bits .or .u64 a b = Int.ofNat (a.toNat ||| b.toNat) := Go.u64_or a b ha.lo ha.hi hb.lo hb.hi
theorem andNot_nat {a b : Int} (ha : UI a) (hb : UI b) : bits .andNot .u64 a b = Int.ofNat (a.toNat &&& (18446744073709551615 - b.toNat)) := Go.u64_andNot a b ha.lo ha.hi hb.lo hb.hi
theorem UI_or {a b : Int} (ha : UI a) (hb : UI b) : UI (bits .or .u64 a b) := by
  rw [or_nat ha hb]
  refine UI.nat (Nat.or_lt_two_pow (n := 64) ?_ ?_) <;> (have h1 := ha.lo; have h2 := ha.hi; have h3 := hb.lo; have h4 := hb.hi; omega)
theorem UI_andNot {a b : Int} (ha : UI a) (hb : UI b) : UI (bits .andNot .u64 a b) := by
  rw [andNot_nat ha hb]
  refine UI.nat (Nat.lt_of_le_of_lt Nat.and_le_left ?_)
  have h1 := ha.lo; have h2 := ha.hi; omega
theorem UI_M : UI 35184372088831 := ⟨by decide, by decide, trivial⟩
abbrev BS := Nat × Nat
def spOne (n : Int) : BS := if decide (n < 0) || decide (90 ≤ n) then (0, 0) else if n < 45 then (2 ^ n.toNat, 0) else (0, 2 ^ (n - 45).toNat)
def spPlain (a : BS) : BS := (a.1 &&& 35184372088831, a.2 &&& 35184372088831)
def spOr (a b : BS) : BS := spPlain (a.1 ||| b.1, a.2 ||| b.2)
def spMinus (a b : BS) : BS := spPlain (a.1 &&& (18446744073709551615 - b.1), a.2 &&& (18446744073709551615 - b.2))
def spWith (a : BS) (n : Int) : BS := spOr a (spOne n)
def spWithout (a : BS) (n : Int) : BS := spMinus a (spOne n)
def spFirst (a : BS) : Int := if (spPlain a).1 ≠ 0 then Lib.ctz 64 (spPlain a).1 else if (spPlain a).2 ≠ 0 then 45 + Lib.ctz 64 (spPlain a).2 else -1
def bit (s : BS) (n : Nat) : Bool := if n < 45 then s.1.testBit n else s.2.testBit (n - 45)
def spList (s : BS) : List Int := ((List.range 90).filter (bit s)).map Int.ofNat

theorem m45 : 35184372088831 = 2 ^ 45 - 1 := by decide
theorem bit_plain (s : BS) {n : Nat} (h : n < 90) : bit (spPlain s) n = bit s n := by
  unfold bit spPlain
  split
  · rw [Nat.testBit_and, m45, Nat.testBit_two_pow_sub_one]; simp; omega
  · rw [Nat.testBit_and, m45, Nat.testBit_two_pow_sub_one]; simp; omega
theorem plain_lt (s : BS) : (spPlain s).1 < 2 ^ 45 ∧ (spPlain s).2 < 2 ^ 45 := by
  unfold spPlain
  have h1 := Nat.and_le_right (n := s.1) (m := 35184372088831)
  have h2 := Nat.and_le_right (n := s.2) (m := 35184372088831)
  simp only
  omega
theorem plain_idem {s : BS} (h : s.1 < 2 ^ 45 ∧ s.2 < 2 ^ 45) : spPlain s = s := by
  unfold spPlain
  rw [m45, Nat.and_two_pow_sub_one_of_lt_two_pow h.1, Nat.and_two_pow_sub_one_of_lt_two_pow h.2]
theorem spList_plain (s : BS) : spList (spPlain s) = spList s := by
  unfold spList
  congr 1
  exact List.filter_congr fun n hn => bit_plain s (by simpa using hn)
theorem one_lt (n : Int) : (spOne n).1 < 2 ^ 45 ∧ (spOne n).2 < 2 ^ 45 := by
  unfold spOne
  split
  · decide
  · rename_i h
    simp at h
    split
    · exact ⟨Nat.pow_lt_pow_right (by decide) (by omega), by show (0 : Nat) < 2 ^ 45; decide⟩
    · exact ⟨by show (0 : Nat) < 2 ^ 45; decide, Nat.pow_lt_pow_right (by decide) (by omega)⟩
theorem spOne_lo {n : Nat} (h : n < 45) : spOne n = (2 ^ n, 0) := by
  have h1 : (decide ((n : Int) < 0) || decide (90 ≤ (n : Int))) = false := by rw [Bool.or_eq_false_iff]; exact ⟨decide_eq_false (by omega), decide_eq_false (by omega)⟩
  unfold spOne
  rw [h1, if_neg (by simp), if_pos (by omega), Int.toNat_natCast]
theorem spOne_hi {n : Nat} (h : 45 ≤ n) (h' : n < 90) : spOne n = (0, 2 ^ (n - 45)) := by
  have h1 : (decide ((n : Int) < 0) || decide (90 ≤ (n : Int))) = false := by rw [Bool.or_eq_false_iff]; exact ⟨decide_eq_false (by omega), decide_eq_false (by omega)⟩
  have h2 : ((n : Int) - 45).toNat = n - 45 := by omega
  unfold spOne
  rw [h1, if_neg (by simp), if_neg (by omega), h2]
theorem bit_one (n k : Nat) (hn : n < 90) (hk : k < 90) : bit (spOne n) k = (k == n) := by
  unfold bit
  rcases Nat.lt_or_ge n 45 with h | h
  · rw [spOne_lo h]
    split
    · simp only [Nat.testBit_two_pow]
      rw [Bool.eq_iff_iff, decide_eq_true_iff, beq_iff_eq]; exact eq_comm
    · simp only [Nat.zero_testBit]
      exact (beq_eq_false_iff_ne.2 (by omega)).symm
  · rw [spOne_hi h hn]
    split
    · simp only [Nat.zero_testBit]
      exact (beq_eq_false_iff_ne.2 (by omega)).symm
    · simp only [Nat.testBit_two_pow]
      rw [Bool.eq_iff_iff, decide_eq_true_iff, beq_iff_eq]; omega
theorem bit_or (a b : BS) (k : Nat) (hk : k < 90) : bit (spOr a b) k = (bit a k || bit b k) := by
  unfold spOr
  rw [bit_plain _ hk]
  unfold bit
  split <;> simp
theorem bit_minus (a b : BS) (k : Nat) (hb : b.1 < 2 ^ 45 ∧ b.2 < 2 ^ 45) (hk : k < 90) : bit (spMinus a b) k = (bit a k && !bit b k) := by
  unfold spMinus
  rw [bit_plain _ hk]
  unfold bit
  have e : ∀ x, x < 2 ^ 45 → 18446744073709551615 - x = 2 ^ 64 - (x + 1) := fun x hx => by omega
  split
  · rw [Nat.testBit_and, e _ hb.1, Nat.testBit_two_pow_sub_succ (by omega)]
    have : k < 64 := by omega
    simp [this]
  · rw [Nat.testBit_and, e _ hb.2, Nat.testBit_two_pow_sub_succ (by omega)]
    have : k - 45 < 64 := by omega
    simp [this]
theorem or_lt (a b : BS) : (spOr a b).1 < 2 ^ 45 ∧ (spOr a b).2 < 2 ^ 45 := plain_lt _
theorem minus_lt (a b : BS) : (spMinus a b).1 < 2 ^ 45 ∧ (spMinus a b).2 < 2 ^ 45 := plain_lt _

theorem ctz_bits {x : Nat} (h0 : x ≠ 0) (h : x < 2 ^ 45) : Lib.ctz 64 x < 45 ∧ x.testBit (Lib.ctz 64 x) = true ∧ ∀ k, k < Lib.ctz 64 x → x.testBit k = false := by
  unfold Lib.ctz
  rw [if_neg h0]
  obtain ⟨m, h1, h2⟩ := Lib.ctzFrom_spec 64 x (by omega) (by omega)
  generalize Lib.ctzFrom 64 x = c at h1 h2
  have hb : ∀ k, x.testBit k = (decide (c ≤ k) && (2 * m + 1).testBit (k - c)) := fun k => by rw [h1, Nat.testBit_two_pow_mul]
  refine ⟨?_, ?_, ?_⟩
  · rcases Nat.lt_or_ge c 45 with h3 | h3
    · exact h3
    · have h4 : 2 ^ 45 ≤ 2 ^ c := Nat.pow_le_pow_right (by decide) h3
      have h5 : 2 ^ c ≤ 2 ^ c * (2 * m + 1) := Nat.le_mul_of_pos_right _ (by omega)
      omega
  · rw [hb]; simp
  · intro k hk
    rw [hb, decide_eq_false (by omega)]; rfl

theorem filter_least : ∀ (N : Nat) (q : Nat → Bool) (n : Nat), n < N → q n = true → (∀ k, k < n → q k = false) → (List.range N).filter q = n :: (List.range N).filter (fun k => q k && !(k == n)) := by
  intro N
  induction N with
  | zero => intro q n h; omega
  | succ N ih =>
    intro q n hn hq hl
    rw [List.range_succ, List.filter_append, List.filter_append]
    rcases Nat.lt_or_ge n N with h | h
    · rw [ih q n h hq hl]
      have : (N == n) = false := by simp; omega
      simp [List.filter_cons, this]
    · have : n = N := by omega
      subst this
      have h1 : (List.range n).filter q = [] := by
        rw [List.filter_eq_nil_iff]; intro k hk; simp at hk; simp [hl k hk]
      have h2 : (List.range n).filter (fun k => q k && !(k == n)) = [] := by
        rw [List.filter_eq_nil_iff]; intro k hk; simp at hk; simp [hl k hk]
      rw [h1, h2]
      simp [List.filter_cons, hq]

theorem first_spec {s : BS} (h : s.1 < 2 ^ 45 ∧ s.2 < 2 ^ 45) (h0 : s ≠ (0, 0)) : ∃ n : Nat, n < 90 ∧ spFirst s = n ∧ bit s n = true ∧ ∀ k, k < n → bit s k = false := by
  unfold spFirst
  rw [plain_idem h]
  by_cases h1 : s.1 ≠ 0
  · rw [if_pos h1]
    obtain ⟨h2, h3, h4⟩ := ctz_bits h1 h.1
    refine ⟨_, by omega, rfl, ?_, fun k hk => ?_⟩
    · unfold bit; rw [if_pos h2]; exact h3
    · unfold bit; rw [if_pos (by omega)]; exact h4 k hk
  · have h1' : s.1 = 0 := by omega
    have h2 : s.2 ≠ 0 := fun h2 => h0 (by obtain ⟨a, b⟩ := s; simp at h1' h2; rw [h1', h2])
    rw [if_neg h1, if_pos h2]
    obtain ⟨h3, h4, h5⟩ := ctz_bits h2 h.2
    refine ⟨45 + Lib.ctz 64 s.2, by omega, by omega, ?_, fun k hk => ?_⟩
    · unfold bit; rw [if_neg (by omega)]; rw [Nat.add_sub_cancel_left]; exact h4
    · unfold bit
      split
      · rw [h1']; simp
      · exact h5 _ (by omega)

theorem first1 (s : BS) (h : (Int.ofNat (spPlain s).1 != 0) = true) : Int.ofNat (Lib.ctz 64 (spPlain s).1) = spFirst s := by
  rw [spFirst, if_pos (fun h1 => by rw [h1] at h; simp at h)]; rfl
theorem first2 (s : BS) (h1 : (Int.ofNat (spPlain s).1 != 0) = false) (h2 : (Int.ofNat (spPlain s).2 != 0) = true) : IntKind.i64.wrap (45 + Int.ofNat (Lib.ctz 64 (spPlain s).2)) = spFirst s := by
  have h3 : (spPlain s).2 ≠ 0 := fun h3 => by rw [h3] at h2; simp at h2
  have h4 := (ctz_bits h3 (plain_lt s).2).1
  rw [spFirst, if_neg (fun h3 => h3 (by simpa using h1)), if_pos h3]
  generalize Lib.ctz 64 (spPlain s).2 = m at h4
  rw [wrap64] <;> simp <;> omega
theorem first3 (s : BS) (h1 : (Int.ofNat (spPlain s).1 != 0) = false) (h2 : (Int.ofNat (spPlain s).2 != 0) = false) : -1 = spFirst s := by
  rw [spFirst, if_neg (fun h3 => h3 (by simpa using h1)), if_neg (fun h3 => h3 (by simpa using h2))]

theorem spList_zero : spList (0, 0) = [] := by
  unfold spList
  rw [List.filter_eq_nil_iff.2]
  · rfl
  · intro k _; unfold bit; split <;> simp
theorem spList_step {s : BS} (h : s.1 < 2 ^ 45 ∧ s.2 < 2 ^ 45) (h0 : s ≠ (0, 0)) : spList s = spFirst s :: spList (spWithout s (spFirst s)) := by
  obtain ⟨n, h1, h2, h3, h4⟩ := first_spec h h0
  unfold spList
  rw [filter_least 90 (bit s) n h1 h3 h4, h2]
  simp only [List.map_cons]
  congr 2
  refine List.filter_congr fun k hk => ?_
  have hk' : k < 90 := by simpa using hk
  unfold spWithout
  rw [bit_minus _ _ _ (one_lt _) hk', bit_one _ _ h1 hk']
theorem spList_len (s : BS) : (spList s).length ≤ 90 := by
  unfold spList
  rw [List.length_map]
  have := List.length_filter_le (bit s) (List.range 90)
  simpa using this
theorem spList_lt (s : BS) : ∀ x ∈ spList s, 0 ≤ x ∧ x < 90 := by
  intro x hx
  unfold spList at hx
  simp only [List.mem_map, List.mem_filter, List.mem_range] at hx
  obtain ⟨n, ⟨h1, _⟩, rfl⟩ := hx
  exact ⟨by simp, by simp; omega⟩
end Go.X

namespace Go.X
open Go

def LB {α : Type} (l : List α) : Prop := l.length ≤ 2000000000
theorem wrapN {i : Nat} (h : i ≤ 4000000000) : IntKind.i64.wrap (Int.ofNat i + 1) = Int.ofNat (i + 1) := by
  rw [wrap64] <;> simp <;> omega
theorem wrapP {i : Nat} (h1 : 1 ≤ i) (h : i ≤ 4000000000) : IntKind.i64.wrap (Int.ofNat i - 1) = Int.ofNat (i - 1) := by
  rw [wrap64] <;> simp <;> omega
theorem beqT {a b : Int} (h : (a == b) = true) : a = b := by simpa using h
theorem beqF {a b : Int} (h : (a == b) = false) : a ≠ b := by simpa using h
theorem bneT {a b : Int} (h : (a != b) = true) : a ≠ b := by simpa using h
theorem bneF {a b : Int} (h : (a != b) = false) : a = b := by simpa using h
def spIdx (f : Int → Bool) (l : List Int) : Int := match l.findIdx? f with | some i => Int.ofNat i | none => -1
theorem idx_none {f : Int → Bool} {l : List Int} (h : ∀ x ∈ l.take l.length, f x = false) : spIdx f l = -1 := by
  have : l.findIdx? f = none := by rw [List.findIdx?_eq_none_iff]; simpa using h
  rw [spIdx, this]
theorem idx_some {f : Int → Bool} {l : List Int} {i : Nat} (hi : i < l.length) (h : ∀ x ∈ l.take i, f x = false) (hx : f (l.getD i 0) = true) : spIdx f l = Int.ofNat i := by
  have e : l.getD i 0 = l[i] := by simp [List.getD_eq_getElem?_getD, List.getElem?_eq_getElem hi]
  have : l.findIdx? f = some i := by
    rw [List.findIdx?_eq_some_iff_getElem]
    refine ⟨hi, by rw [← e]; exact hx, fun j hj => ?_⟩
    have := h l[j] (by rw [List.mem_take_iff_getElem]; exact ⟨j, by omega, rfl⟩)
    simp [this]
  rw [spIdx, this]
theorem take_next {f : Int → Bool} {l : List Int} {i : Nat} (hi : i < l.length) (h : ∀ x ∈ l.take i, f x = false) (hx : f (l.getD i 0) = false) : ∀ x ∈ l.take (i + 1), f x = false := by
  have e : l.getD i 0 = l[i] := by simp [List.getD_eq_getElem?_getD, List.getElem?_eq_getElem hi]
  intro x hm
  rw [List.take_succ_eq_append_getElem hi, List.mem_append, List.mem_singleton] at hm
  rcases hm with hm | hm
  · exact h x hm
  · rw [hm, ← e]; exact hx
theorem idx_spec (f : Int → Bool) (l : List Int) : (spIdx f l = -1 ∧ l.any f = false) ∨ ∃ i : Nat, i < l.length ∧ spIdx f l = Int.ofNat i ∧ (∀ x ∈ l.take i, f x = false) ∧ f (l.getD i 0) = true := by
  cases h : l.findIdx? f with
  | none =>
    left
    refine ⟨by rw [spIdx, h], ?_⟩
    rw [List.findIdx?_eq_none_iff] at h
    simpa using h
  | some i =>
    right
    rw [List.findIdx?_eq_some_iff_getElem] at h
    obtain ⟨hi, h1, h2⟩ := h
    have e : l.getD i 0 = l[i] := by simp [List.getD_eq_getElem?_getD, List.getElem?_eq_getElem hi]
    refine ⟨i, hi, idx_some hi ?_ (by rw [e]; exact h1), ?_, by rw [e]; exact h1⟩
    all_goals
      intro x hx
      rw [List.mem_take_iff_getElem] at hx
      obtain ⟨j, hj, rfl⟩ := hx
      have := h2 j (by omega)
      simpa using this
structure DelInv (f : Int → Bool) (l : List Int) (w j : Nat) (row : List Int) : Prop where
  lt : w < j
  le : j ≤ l.length
  len : row.length = l.length
  kept : row.take w = (l.take j).filter (fun x => !f x)
  rest : row.drop j = l.drop j
theorem DelInv.start {f : Int → Bool} {l : List Int} {w : Nat} (hw : w < l.length) (h : ∀ x ∈ l.take w, f x = false) (hx : f (l.getD w 0) = true) : DelInv f l w (w + 1) l := by
  have e : l.getD w 0 = l[w] := by simp [List.getD_eq_getElem?_getD, List.getElem?_eq_getElem hw]
  refine ⟨by omega, by omega, rfl, ?_, rfl⟩
  rw [List.take_succ_eq_append_getElem hw, List.filter_append, List.filter_eq_self.2 (fun x hm => by simp [h x hm])]
  rw [e] at hx
  simp [hx]
theorem DelInv.get {f : Int → Bool} {l : List Int} {w j : Nat} {row : List Int} (h : DelInv f l w j row) (hj : j < l.length) : row.getD j 0 = l[j] := by
  have h1 : row.drop j = l.drop j := h.rest
  have h2 := congrArg (fun m => m[0]?) h1
  simp only [List.getElem?_drop, Nat.add_zero] at h2
  rw [List.getD_eq_getElem?_getD, h2, List.getElem?_eq_getElem hj]; rfl
theorem DelInv.del {f : Int → Bool} {l : List Int} {w j : Nat} {row : List Int} (h : DelInv f l w j row) (hj : j < l.length) (hx' : (!f (row.getD j 0)) = false) : DelInv f l w (j + 1) row := by
  have hx : f (row.getD j 0) = true := by simpa using hx'
  rw [h.get hj] at hx
  refine ⟨by have := h.lt; omega, by omega, h.len, ?_, ?_⟩
  · rw [h.kept, List.take_succ_eq_append_getElem hj, List.filter_append]; simp [hx]
  · have := congrArg (List.drop 1) h.rest
    simpa [List.drop_drop, Nat.add_comm] using this
theorem DelInv.keep {f : Int → Bool} {l : List Int} {w j : Nat} {row : List Int} (h : DelInv f l w j row) (hj : j < l.length) (hx' : (!f (row.getD j 0)) = true) : DelInv f l (w + 1) (j + 1) (row.set w (row.getD j 0)) := by
  have hx : f (row.getD j 0) = false := by simpa using hx'
  have hlt := h.lt
  have hlen := h.len
  rw [h.get hj] at hx ⊢
  refine ⟨by omega, by omega, by simpa using hlen, ?_, ?_⟩
  · rw [List.take_succ_eq_append_getElem (by simp; omega), List.take_set_of_le (by omega), h.kept, List.take_succ_eq_append_getElem hj, List.filter_append]
    simp [hx]
  · rw [List.drop_set_of_lt (by omega)]
    have := congrArg (List.drop 1) h.rest
    simpa [List.drop_drop, Nat.add_comm] using this
theorem DelInv.done {f : Int → Bool} {l : List Int} {w j : Nat} {row : List Int} (h : DelInv f l w j row) (hj : ¬ j < l.length) : row.take w = l.filter (fun x => !f x) := by
  have := h.le
  rw [h.kept, List.take_of_length_le (by omega)]
theorem idx_all {f : Int → Bool} {l : List Int} (h : l.any f = false) : l.filter (fun x => !f x) = l := by
  rw [List.filter_eq_self]; intro x hx
  have : ∀ x ∈ l, f x = false := by simpa using h
  simp [this x hx]
def cstep (acc : List Int) (x : Int) : List Int := if acc.getLast? = some x then acc else acc ++ [x]
def spCompact (l : List Int) : List Int := l.foldl cstep []
theorem getD_getElem {l : List Int} {i : Nat} (hi : i < l.length) : l.getD i 0 = l[i] := by simp [List.getD_eq_getElem?_getD, List.getElem?_eq_getElem hi]
theorem compact_next {l : List Int} {j : Nat} (hj : j < l.length) : spCompact (l.take (j + 1)) = cstep (spCompact (l.take j)) l[j] := by
  unfold spCompact
  rw [List.take_succ_eq_append_getElem hj, List.foldl_append]; rfl
theorem compact_last {l : List Int} {j : Nat} (hj : j < l.length) : (spCompact (l.take (j + 1))).getLast? = some l[j] := by
  rw [compact_next hj]
  unfold cstep
  split
  · assumption
  · simp
theorem compact_same {l : List Int} {j : Nat} (hj : j + 1 < l.length) (he : l[j + 1] = l[j]) : spCompact (l.take (j + 2)) = spCompact (l.take (j + 1)) := by
  rw [compact_next hj, cstep, if_pos]
  rw [compact_last (by omega), he]
theorem compact_new {l : List Int} {j : Nat} (hj : j + 1 < l.length) (he : l[j + 1] ≠ l[j]) : spCompact (l.take (j + 2)) = spCompact (l.take (j + 1)) ++ [l[j + 1]] := by
  rw [compact_next hj, cstep, if_neg]
  rw [compact_last (by omega)]
  intro h; exact he (Option.some.inj h).symm
theorem compact_one {l : List Int} (h : 1 ≤ l.length) : spCompact (l.take 1) = l.take 1 := by
  cases l with
  | nil => simp at h
  | cons x l => rfl
theorem compact_short {l : List Int} (h : l.length < 2) : spCompact l = l := by
  match l with
  | [] => rfl
  | [x] => rfl
  | x :: y :: l => simp at h; omega
structure CmpInv (l : List Int) (w j : Nat) (row : List Int) : Prop where
  lt : w + 1 ≤ j
  le : j ≤ l.length
  len : row.length = l.length
  kept : row.take w = spCompact (l.take j)
  rest : row.drop (j - 1) = l.drop (j - 1)
theorem CmpInv.get {l : List Int} {w j : Nat} {row : List Int} (h : CmpInv l w j row) (i : Nat) (hi : j - 1 ≤ i) (hil : i < l.length) : row.getD i 0 = l[i] := by
  have h2 := congrArg (fun m => m[i - (j - 1)]?) h.rest
  simp only [List.getElem?_drop] at h2
  rw [show j - 1 + (i - (j - 1)) = i by omega] at h2
  rw [List.getD_eq_getElem?_getD, h2, List.getElem?_eq_getElem hil]; rfl
theorem CmpInv.start {l : List Int} {k : Nat} (hk : 1 ≤ k) (hkl : k < l.length) (h : spCompact (l.take k) = l.take k) (he : l.getD k 0 = l.getD (k - 1) 0) : CmpInv l k (k + 1) l := by
  refine ⟨by omega, by omega, rfl, ?_, rfl⟩
  obtain ⟨m, rfl⟩ : ∃ m, k = m + 1 := ⟨k - 1, by omega⟩
  rw [getD_getElem hkl, getD_getElem (by omega)] at he
  rw [compact_same hkl he, h]
theorem CmpInv.same {l : List Int} {w j : Nat} {row : List Int} (h : CmpInv l w j row) (hj : j < l.length) (he : row.getD j 0 = row.getD (j - 1) 0) : CmpInv l w (j + 1) row := by
  have hlt := h.lt
  rw [h.get j (by omega) hj, h.get (j - 1) (by omega) (by omega)] at he
  obtain ⟨m, rfl⟩ : ∃ m, j = m + 1 := ⟨j - 1, by omega⟩
  refine ⟨by omega, by omega, h.len, ?_, ?_⟩
  · rw [compact_same hj he]; exact h.kept
  · have := congrArg (List.drop 1) h.rest
    simpa [List.drop_drop, Nat.add_comm] using this
theorem CmpInv.new {l : List Int} {w j : Nat} {row : List Int} (h : CmpInv l w j row) (hj : j < l.length) (he : row.getD j 0 ≠ row.getD (j - 1) 0) : CmpInv l (w + 1) (j + 1) (row.set w (row.getD j 0)) := by
  have hlt := h.lt
  have hlen := h.len
  have hg := h.get j (by omega) hj
  rw [hg, h.get (j - 1) (by omega) (by omega)] at he
  rw [hg]
  obtain ⟨m, rfl⟩ : ∃ m, j = m + 1 := ⟨j - 1, by omega⟩
  refine ⟨by omega, by omega, by simpa using hlen, ?_, ?_⟩
  · rw [compact_new hj he, List.take_succ_eq_append_getElem (by simp; omega), List.take_set_of_le (by omega), h.kept]
    simp
  · rw [List.drop_set_of_lt (by omega)]
    have := congrArg (List.drop 1) h.rest
    simpa [List.drop_drop, Nat.add_comm] using this
theorem CmpInv.done {l : List Int} {w j : Nat} {row : List Int} (h : CmpInv l w j row) (hj : ¬ j < l.length) : row.take w = spCompact l := by
  have := h.le
  rw [h.kept, List.take_of_length_le (by omega)]
theorem compact_go {l : List Int} {k : Nat} (hk : 1 ≤ k) (hkl : k < l.length) (h : spCompact (l.take k) = l.take k) (he : l.getD k 0 ≠ l.getD (k - 1) 0) : spCompact (l.take (k + 1)) = l.take (k + 1) := by
  obtain ⟨m, rfl⟩ : ∃ m, k = m + 1 := ⟨k - 1, by omega⟩
  rw [getD_getElem hkl, getD_getElem (by omega)] at he
  rw [compact_new hkl he, h, ← List.take_succ_eq_append_getElem hkl]
structure S90 (p : ByteArray) : Prop where
  is : p.size = 90
  u : True
  v : True
structure NE (l : List Int) (p : ByteArray) : Prop where
  is : l = [] ∨ p.size = 90
  u : True
  v : True
theorem NE.of {l : List Int} {p : ByteArray} {i : Nat} (h : NE l p) (hi : i < l.length) : S90 p := by
  rcases h.is with e | e
  · subst e; simp at hi
  · exact ⟨e, trivial, trivial⟩
theorem NE.of' {l : List Int} {p : ByteArray} {i : Nat} (h : NE l p) (hi : decide (Int.ofNat i < (l.length : Int)) = true) : S90 p := h.of (i := i) (by simpa using hi)
noncomputable def veil {α : Type} (x : α) : α := Classical.choose (⟨x, rfl⟩ : ∃ y, y = x)
theorem veil_eq {α : Type} (x : α) : veil x = x := Classical.choose_spec (⟨x, rfl⟩ : ∃ y, y = x)
end Go.X

namespace Go.X
open Go
structure SM (a : Int) : Prop where
  lo : -1000 ≤ a
  hi : a ≤ 1000
  u : True
theorem SM.of {a : Int} (h : -1000 ≤ a) (h' : a ≤ 1000) : SM a := ⟨h, h', trivial⟩
structure Dir (a b : Int) : Prop where
  is : (a = 1 ∧ b = 0) ∨ (a = -1 ∧ b = 0) ∨ (a = 0 ∧ b = 1) ∨ (a = 0 ∧ b = -1)
  u : True
  v : True

theorem file_bd (n : Int) : -1 ≤ spFile n ∧ spFile n ≤ 8 := by
  unfold spFile; split
  · omega
  · omega
theorem rank_bd (n : Int) : -1 ≤ spRank n ∧ spRank n ≤ 9 := by
  unfold spRank; split
  · rename_i h; have := isSquare_iff.1 h; omega
  · omega
theorem square_bd (f r : Int) : -1 ≤ spSquare f r ∧ spSquare f r < 90 := by
  unfold spSquare; split
  · rename_i h; simp at h; omega
  · omega
def spStep (fr a b : Int) : Int := spSquare (spFile fr + a) (spRank fr + b)
theorem step_bd (fr a b : Int) : -1 ≤ spStep fr a b ∧ spStep fr a b < 90 := square_bd _ _
theorem step_wrap {fr a b : Int} (ha : SM a) (hb : SM b) : spSquare (IntKind.i64.wrap (spFile fr + a)) (IntKind.i64.wrap (spRank fr + b)) = spStep fr a b := by
  have h1 := file_bd fr
  have h2 := rank_bd fr
  have h3 := ha.lo; have h4 := ha.hi; have h5 := hb.lo; have h6 := hb.hi
  rw [wrap64 (by omega) (by omega), wrap64 (by omega) (by omega)]; rfl
theorem neg_wrap {a : Int} (ha : SM a) : IntKind.i64.wrap (0 - a) = -a := by
  have h3 := ha.lo; have h4 := ha.hi
  rw [wrap64 (by omega) (by omega)]; omega
theorem SM.neg {a : Int} (ha : SM a) : SM (-a) := by
  have h3 := ha.lo; have h4 := ha.hi
  exact .of (by omega) (by omega)
def spFour (fr a b : Int) : List Int := [spStep fr a b, spStep fr (-a) b, spStep fr a (-b), spStep fr (-a) (-b)]
def spEmpty (p : ByteArray) (n : Int) : Bool := spIsSquare n && (byteAt p n.toNat == 46)
def ray (fr a b : Int) : Nat → Int → List Int
  | 0, _ => []
  | k + 1, i => if spIsSquare (spStep fr (i * a) (i * b)) then spStep fr (i * a) (i * b) :: ray fr a b k (i + 1) else []
def way (fr a b : Int) : List Int := ray fr a b 12 1
def free (p : ByteArray) (n : Int) : Bool := byteAt p n.toNat == 46
def blk (p : ByteArray) (l : List Int) : List Int := l.filter fun n => !free p n
def nth (l : List Int) (i : Nat) : Int := l.getD i (-1)
def spFree (p : ByteArray) (fr a b : Int) : List Int := (way fr a b).takeWhile (free p)
def spFirst2 (p : ByteArray) (fr a b : Int) (i : Nat) : Int := nth (blk p (way fr a b)) i
theorem ray_len (fr a b : Int) (k : Nat) : ∀ i, (ray fr a b k i).length ≤ k := by
  induction k with
  | zero => intro i; simp [ray]
  | succ k ih => intro i; unfold ray; split
                 · simp; exact ih _
                 · simp
theorem way_len (fr a b : Int) : (way fr a b).length ≤ 12 := ray_len _ _ _ _ _
theorem dir_stop {fr a b i : Int} (hd : Dir a b) (hi : 10 ≤ i) : spIsSquare (spStep fr (i * a) (i * b)) = false := by
  have h1 := file_bd fr
  have h2 := rank_bd fr
  have : spStep fr (i * a) (i * b) = -1 := by
    unfold spStep spSquare
    rw [if_neg]
    simp only [Bool.and_eq_true, decide_eq_true_eq, not_and, Int.not_le, Int.not_lt]
    rcases hd.is with ⟨rfl, rfl⟩ | ⟨rfl, rfl⟩ | ⟨rfl, rfl⟩ | ⟨rfl, rfl⟩
    · intro h; omega
    · intro h; omega
    · rintro ⟨h, h3⟩
      have : spFile fr ≠ -1 := by omega
      have : spRank fr ≠ -1 := by
        intro h4
        apply this
        unfold spRank at h4; unfold spFile
        split at h4
        · rename_i h5; have := isSquare_iff.1 h5; omega
        · rename_i h5; rw [if_neg h5]
      omega
    · intro h; omega
  rw [this]; rfl
structure Scan (fr a b : Int) (d : List Int) : Prop where
  le : d.length ≤ 9
  eq : way fr a b = d ++ ray fr a b (12 - d.length) (Int.ofNat (d.length + 1))
theorem Scan.start {fr a b : Int} : Scan fr a b [] := ⟨by simp, rfl⟩
theorem Scan.next {fr a b : Int} {d : List Int} (h : Scan fr a b d) (hd : Dir a b) (hs : spIsSquare (spStep fr (Int.ofNat (d.length + 1) * a) (Int.ofNat (d.length + 1) * b)) = true) :
    Scan fr a b (d ++ [spStep fr (Int.ofNat (d.length + 1) * a) (Int.ofNat (d.length + 1) * b)]) := by
  have hle := h.le
  have h9 : d.length ≤ 8 := by
    by_cases h9 : d.length ≤ 8
    · exact h9
    · rw [dir_stop hd (by simp; omega)] at hs; cases hs
  refine ⟨by simp; omega, ?_⟩
  have e := h.eq
  rw [show 12 - d.length = (12 - (d.length + 1)) + 1 by omega, ray, if_pos hs] at e
  rw [e]
  simp [List.append_assoc]
theorem Scan.stop {fr a b : Int} {d : List Int} (h : Scan fr a b d) (hs : spIsSquare (spStep fr (Int.ofNat (d.length + 1) * a) (Int.ofNat (d.length + 1) * b)) = false) : way fr a b = d := by
  have e := h.eq
  have hle := h.le
  rw [show 12 - d.length = (12 - (d.length + 1)) + 1 by omega, ray, if_neg (by rw [hs]; simp), List.append_nil] at e
  exact e
theorem blk_app (p : ByteArray) (l m : List Int) : blk p (l ++ m) = blk p l ++ blk p m := by simp [blk]
theorem Scan.two {p : ByteArray} {fr a b : Int} {d : List Int} (h : Scan fr a b d) (h2 : 2 ≤ (blk p d).length) :
    spFree p fr a b = d.takeWhile (free p) ∧ spFirst2 p fr a b 0 = nth (blk p d) 0 ∧ spFirst2 p fr a b 1 = nth (blk p d) 1 := by
  unfold spFree spFirst2
  rw [h.eq, blk_app]
  refine ⟨?_, ?_, ?_⟩
  · rw [List.takeWhile_append, if_neg]
    intro h3
    have : blk p d = [] := by
      have : d.takeWhile (free p) = d := List.IsPrefix.eq_of_length (List.takeWhile_prefix _) h3
      unfold blk
      rw [List.filter_eq_nil_iff]
      intro x hx
      have := List.all_takeWhile (p := free p) (l := d)
      rename_i e
      rw [e, List.all_eq_true] at this
      simp [this x hx]
    rw [this] at h2; simp at h2
  · unfold nth; simp only [List.getD_eq_getElem?_getD]; rw [List.getElem?_append_left (by omega)]
  · unfold nth; simp only [List.getD_eq_getElem?_getD]; rw [List.getElem?_append_left (by omega)]
theorem free_more {p : ByteArray} {d : List Int} {n : Int} (h0 : (blk p d).length = 0) (hn : free p n = true) : (d ++ [n]).takeWhile (free p) = d.takeWhile (free p) ++ [n] := by
  have : ∀ x ∈ d, free p x = true := by
    have : blk p d = [] := List.length_eq_zero_iff.1 h0
    unfold blk at this
    rw [List.filter_eq_nil_iff] at this
    intro x hx; simpa using this x hx
  have e : d.takeWhile (free p) = d := by
    clear h0
    induction d with
    | nil => rfl
    | cons x l ih => rw [List.takeWhile_cons, if_pos (this x (by simp)), ih (fun y hy => this y (by simp [hy]))]
  rw [List.takeWhile_append, e, if_pos rfl]
  simp [hn]
theorem free_same {p : ByteArray} {d : List Int} {n : Int} (h0 : (blk p d).length ≠ 0) : (d ++ [n]).takeWhile (free p) = d.takeWhile (free p) := by
  rw [List.takeWhile_append, if_neg]
  intro h3
  apply h0
  have e : d.takeWhile (free p) = d := List.IsPrefix.eq_of_length (List.takeWhile_prefix _) h3
  rw [List.length_eq_zero_iff]
  unfold blk
  rw [List.filter_eq_nil_iff]
  intro x hx
  have := List.all_takeWhile (p := free p) (l := d)
  rw [e, List.all_eq_true] at this
  simp [this x hx]
theorem free_none {p : ByteArray} {d : List Int} {n : Int} (hn : free p n = false) : (d ++ [n]).takeWhile (free p) = d.takeWhile (free p) := by
  rw [List.takeWhile_append]
  split
  · rename_i h
    have e : d.takeWhile (free p) = d := List.IsPrefix.eq_of_length (List.takeWhile_prefix _) h
    rw [e]; simp [hn]
  · rfl
theorem blk_free {p : ByteArray} {d : List Int} {n : Int} (hn : free p n = true) : blk p (d ++ [n]) = blk p d := by simp [blk, hn]
theorem blk_more {p : ByteArray} {d : List Int} {n : Int} (hn : free p n = false) : blk p (d ++ [n]) = blk p d ++ [n] := by simp [blk, hn]
end Go.X

namespace Go.X
open Go

def spOk (n side : Int) : Bool := decide (0 ≤ n) && decide (n < 90) && (side == 0 || side == 1)
theorem ok_bad {n side : Int} (h : (decide (n < 0) || decide (n > 89) || side != 0 && side != 1) = true) : spOk n side = false := by
  simp [spOk] at *; omega
theorem ok_good {n side : Int} (h : (decide (n < 0) || decide (n > 89) || side != 0 && side != 1) = false) : spOk n side = true := by
  simp [spOk] at *; omega
def spTurned (n side : Int) : Int := if side = 1 then 89 - n else n
def spSF (n side : Int) : Int := if spOk n side then spTurned n side % 9 else 0
def spSR (n side : Int) : Int := if spOk n side then spTurned n side / 9 else 0
def spPal (f r : Int) : Bool := decide (3 ≤ f) && decide (f ≤ 5) && decide (r ≤ 2)
def spOvr (r : Int) : Bool := decide (5 ≤ r)
def spAdv (f r : Int) : Bool := spPal f r && ((IntKind.i64.wrap (f + r)).tmod 2 == 1)
def spEle (f r : Int) : Bool := decide (r ≤ 4) && (r.tmod 2 == 0) && (f.tmod 4 == IntKind.i64.wrap (2 - r.tmod 4))
def spPwn (f r : Int) : Bool := spOvr r || (decide (3 ≤ r) && (f.tmod 2 == 0))
def spMay (c n : Int) : Bool :=
  if spOk n (spSide c) then
    (if spKind c = 75 then spPal (spSF n (spSide c)) (spSR n (spSide c))
    else if spKind c = 65 then spAdv (spSF n (spSide c)) (spSR n (spSide c))
    else if spKind c = 66 then spEle (spSF n (spSide c)) (spSR n (spSide c))
    else if spKind c = 80 then spPwn (spSF n (spSide c)) (spSR n (spSide c))
    else true)
  else false
def spOver (n side : Int) : Bool := spOk n side && spOvr (spSR n side)

end Go.X

namespace Go.X
open Go

def spOf (side c : Int) : Bool := decide (0 ≤ side) && (spSide c == side)
def spUpTo (p : ByteArray) (f : Int → Bool) : Nat → BS
  | 0 => (0, 0)
  | n + 1 => if f (byteAt p n) then spWith (spUpTo p f n) n else spUpTo p f n
def spSet (p : ByteArray) (f : Int → Bool) : BS := if spIs p then spUpTo p f 90 else (0, 0)
theorem upTo_lt (p : ByteArray) (f : Int → Bool) (n : Nat) : (spUpTo p f n).1 < 2 ^ 45 ∧ (spUpTo p f n).2 < 2 ^ 45 := by
  induction n with
  | zero => exact ⟨by show (0 : Nat) < 2 ^ 45; decide, by show (0 : Nat) < 2 ^ 45; decide⟩
  | succ n ih => unfold spUpTo; split; exact or_lt _ _; exact ih
theorem wrapS {i : Nat} (h : i < 1000) : IntKind.i64.wrap (Int.ofNat i + 1) = Int.ofNat (i + 1) := by
  rw [wrap64] <;> simp <;> omega
theorem set_lt (p : ByteArray) (f : Int → Bool) : (spSet p f).1 < 2 ^ 45 ∧ (spSet p f).2 < 2 ^ 45 := by
  unfold spSet
  split
  · exact upTo_lt _ _ _
  · exact ⟨by show (0 : Nat) < 2 ^ 45; decide, by show (0 : Nat) < 2 ^ 45; decide⟩
end Go.X

namespace Go.X
open Go

theorem side_bd (c : Int) : -1 ≤ spSide c ∧ spSide c ≤ 1 := by
  unfold spSide; split
  · omega
  · split <;> omega
def spGen (fr pc : Int) : List Int := (spFour fr 1 0 ++ spFour fr 0 1).filter (spMay pc)
def spAdvL (fr pc : Int) : List Int := (spFour fr 1 1).filter (spMay pc)
def spEleL (p : ByteArray) (fr pc : Int) : List Int := ((spFour fr 2 2).filter (spMay pc)).filter fun n => spEmpty p ((fr + n) / 2)
def dirs : List (Int × Int) := [(1, 0), (-1, 0), (0, 1), (0, -1)]
def horse1 (p : ByteArray) (fr : Int) (w : Int × Int) : List Int := if spEmpty p (spStep fr w.1 w.2) then [spStep fr (2 * w.1 + w.2) (2 * w.2 + w.1), spStep fr (2 * w.1 - w.2) (2 * w.2 - w.1)] else []
def spHorse (p : ByteArray) (fr : Int) : List Int := dirs.flatMap (horse1 p fr)
def line1 (p : ByteArray) (fr : Int) (second : Bool) (w : Int × Int) : List Int := spFree p fr w.1 w.2 ++ [spFirst2 p fr w.1 w.2 (if second then 1 else 0)]
def spLines (p : ByteArray) (fr : Int) (second : Bool) : List Int := dirs.flatMap (line1 p fr second)
def spPawnL (fr pc : Int) : List Int := [spStep fr 0 (1 - 2 * spSide pc)] ++ if spOver fr (spSide pc) then [spStep fr 1 0, spStep fr (-1) 0] else []
def spWay (p : ByteArray) (fr pc : Int) : List Int :=
  if spKind pc = 75 then spGen fr pc else if spKind pc = 65 then spAdvL fr pc else if spKind pc = 66 then spEleL p fr pc
  else if spKind pc = 78 then spHorse p fr else if spKind pc = 82 then spLines p fr false else if spKind pc = 67 then spLines p fr true
  else if spKind pc = 80 then spPawnL fr pc else []
theorem dirs_dir {i : Nat} (h : i < 4) : Dir (dirs.getD i (0, 0)).1 (dirs.getD i (0, 0)).2 := by
  refine ⟨?_, trivial, trivial⟩
  rcases (by omega : i = 0 ∨ i = 1 ∨ i = 2 ∨ i = 3) with rfl | rfl | rfl | rfl <;> simp [dirs]
theorem dir_w1 {a b : Int} (h : Dir a b) : IntKind.i64.wrap (IntKind.i64.wrap (2 * a) + b) = 2 * a + b := by
  rcases h.is with ⟨rfl, rfl⟩ | ⟨rfl, rfl⟩ | ⟨rfl, rfl⟩ | ⟨rfl, rfl⟩ <;> decide
theorem dir_w2 {a b : Int} (h : Dir a b) : IntKind.i64.wrap (IntKind.i64.wrap (2 * b) + a) = 2 * b + a := by
  rcases h.is with ⟨rfl, rfl⟩ | ⟨rfl, rfl⟩ | ⟨rfl, rfl⟩ | ⟨rfl, rfl⟩ <;> decide
theorem dir_w3 {a b : Int} (h : Dir a b) : IntKind.i64.wrap (IntKind.i64.wrap (2 * a) - b) = 2 * a - b := by
  rcases h.is with ⟨rfl, rfl⟩ | ⟨rfl, rfl⟩ | ⟨rfl, rfl⟩ | ⟨rfl, rfl⟩ <;> decide
theorem dir_w4 {a b : Int} (h : Dir a b) : IntKind.i64.wrap (IntKind.i64.wrap (2 * b) - a) = 2 * b - a := by
  rcases h.is with ⟨rfl, rfl⟩ | ⟨rfl, rfl⟩ | ⟨rfl, rfl⟩ | ⟨rfl, rfl⟩ <;> decide
theorem dir_sm {a b : Int} (h : Dir a b) : SM a ∧ SM b ∧ SM (2 * a + b) ∧ SM (2 * b + a) ∧ SM (2 * a - b) ∧ SM (2 * b - a) := by
  rcases h.is with ⟨rfl, rfl⟩ | ⟨rfl, rfl⟩ | ⟨rfl, rfl⟩ | ⟨rfl, rfl⟩ <;> refine ⟨.of ?_ ?_, .of ?_ ?_, .of ?_ ?_, .of ?_ ?_, .of ?_ ?_, .of ?_ ?_⟩ <;> decide
theorem dirs_next {i : Nat} (h : i < 4) (f : Int × Int → List Int) : (dirs.take (i + 1)).flatMap f = (dirs.take i).flatMap f ++ f (dirs.getD i (0, 0)) := by
  rcases (by omega : i = 0 ∨ i = 1 ∨ i = 2 ∨ i = 3) with rfl | rfl | rfl | rfl <;> simp [dirs]
theorem dirs_len {f : Int × Int → List Int} (h : ∀ w, (f w).length ≤ 13) {i : Nat} (hi : i ≤ 4) : ((dirs.take i).flatMap f).length ≤ 52 := by
  have h1 := h (1, 0); have h2 := h (-1, 0); have h3 := h (0, 1); have h4 := h (0, -1)
  rcases (by omega : i = 0 ∨ i = 1 ∨ i = 2 ∨ i = 3 ∨ i = 4) with rfl | rfl | rfl | rfl | rfl <;> simp [dirs] <;> omega
theorem free_len (p : ByteArray) (fr a b : Int) : (spFree p fr a b).length ≤ 12 := Nat.le_trans ((List.takeWhile_prefix _).length_le) (way_len _ _ _)
theorem line1_len (p : ByteArray) (fr : Int) (s : Bool) (w : Int × Int) : (line1 p fr s w).length ≤ 13 := by
  have := free_len p fr w.1 w.2
  simp [line1]; omega
structure Sq (n : Int) : Prop where
  lo : 0 ≤ n
  hi : n < 90
  u : True
end Go.X

namespace Go.X
open Go.RowKit Go.Sort

def sortI (l : List Int) : List Int := l.mergeSort fun x y => decide (x ≤ y)
def cSortI (T : TypeId) : Con
  | [.row id ⟨T', .int .i64, l, true⟩] => if T' = T then some ⟨[l.length ≤ 4000000000], .tup [], [], [(id, ⟨T', .int .i64, sortI l, true⟩)]⟩ else none
  | _ => none
theorem sortI_len (l : List Int) : (sortI l).length = l.length := List.length_mergeSort _

theorem valsI (l : List Int) : valsOf (.int .i64) l = l.map (Value.int .i64) := by
  unfold valsOf
  induction l with
  | nil => rfl
  | cons x l ih => simp only [List.flatMap_cons, EK.vals, List.map_cons, List.singleton_append]; rw [← ih]; rfl

theorem con_sort {P : Program} {G : Nat → World → Prop} {f : FuncId} {fn : Func} {T : TypeId} (hf : P.funcs[f]? = some fn) (hb : fn.body.isSome = true) (hname : (fn.name == "runtime.NumGoroutine") = false)
    (hs : ∀ (blk off cap : Nat) (zs : List Int) (w : World), Holds (Value.int .i64) w blk off zs.toArray → blk < w.heap.size → zs.length < 4611686018427387904 →
      Calls P f #[.slice (some ⟨blk, off, none⟩) zs.length cap] w fun e w' => e = .returned (.tuple #[]) ∧ ∃ n os, w' = grow (putRow (Value.int .i64) (Sort.ahead w n) blk off (zs.mergeSort fun x y => decide (x ≤ y)).toArray) os)
    (hn : ∀ (p : Option Addr) (cap : Nat) (w : World), Calls P f #[.slice p 0 cap] w fun e w' => e = .returned (.tuple #[]) ∧ w' = w) : ConOK P G f (cSortI T) := by
  intro c e st w avs rvs cr vals fb fr hG hh hres hargs hcr hpre _ _
  refine ⟨⟨fn, hf, hb, hname⟩, ?_⟩
  unfold cSortI at hcr
  split at hcr
  · rename_i id T' l
    split at hcr
    · cases hcr
      have hlen := hpre _ (List.mem_singleton.2 rfl)
      obtain ⟨v, rfl⟩ : ∃ v, avs = [v] := by
        cases avs with
        | nil => simp [allRes] at hres
        | cons v l' => cases l' with
          | nil => exact ⟨v, rfl⟩
          | cons u l'' =>
            simp only [allRes] at hres
            split at hres
            · split at hres
              · rename_i m hm
                split at hm
                · split at hm
                  · cases hm; cases hres
                  · cases hm
                · cases hm
              · cases hres
            · cases hres
      obtain ⟨x, xs, rfl, hx, hxs⟩ := hargs
      simp only [RL] at hxs
      subst hxs
      simp only [allRes] at hres
      split at hres
      · rename_i rv hrv
        simp only [Option.some.injEq, List.cons.injEq, and_true] at hres
        subst hres
        unfold resolve at hrv
        cases v with
        | row id' =>
          simp only [resolveF] at hrv
          split at hrv
          · rename_i r hr
            simp only [Option.some.injEq, RV.row.injEq] at hrv
            obtain ⟨rfl, rfl⟩ := hrv
            obtain ⟨_, rfl⟩ := hx
            obtain ⟨hpos, hown, hmine⟩ := hh.row _ _ hr
            have hnew : ∀ w', HeapOK c e ⟨st.tmps, st.boxes, putAt none st.rows id' (some ⟨T', .int .i64, sortI l, true⟩), st.ys, st.pin⟩ w' → Pres st e ⟨st.tmps, st.boxes, putAt none st.rows id' (some ⟨T', .int .i64, sortI l, true⟩), st.ys, st.pin⟩ e [] →
                ∃ v e', Ending.returned (.tuple #[]) = .returned v ∧ HeapOK c e' ((CR.eff ⟨[l.length ≤ 4000000000], .tup [], [], [(id', ⟨T', .int .i64, sortI l, true⟩)]⟩ fb fr).apply fb fr st) w' ∧
                  Pres st e ((CR.eff ⟨[l.length ≤ 4000000000], .tup [], [], [(id', ⟨T', .int .i64, sortI l, true⟩)]⟩ fb fr).apply fb fr st) e' [] ∧
                  R ((CR.eff ⟨[l.length ≤ 4000000000], .tup [], [], [(id', ⟨T', .int .i64, sortI l, true⟩)]⟩ fb fr).apply fb fr st) e' (.tup []) v := by
              intro w' h1 h2
              refine ⟨.tuple #[], e, rfl, ?_, ?_, ⟨[], rfl, rfl⟩⟩
              · obtain ⟨ts, bs, rs, ys, pn⟩ := st; exact h1
              · obtain ⟨ts, bs, rs, ys, pn⟩ := st; exact h2
            rcases hown with ⟨hv, hl0⟩ | ⟨g, cap, cur, fz, hv, hgg, hfz, hnc, hcm, hcs, htake⟩
            · -- nil
              have hl0' : l = [] := hl0
              subst hl0'
              rw [hv]
              refine (hn none 0 w).mono ?_
              rintro en w' ⟨rfl, rfl⟩
              have hs0 : sortI [] = [] := by simp [sortI]
              refine hnew _ ?_ ?_
              all_goals
                have hsame : ∀ i, getK none st.rows i = getK none (putAt none st.rows id' (some ⟨T', .int .i64, sortI [], true⟩)) i := by
                  intro i
                  rw [getK_putAt, hs0]
                  by_cases hi : i = id'
                  · subst hi; rw [if_pos rfl]; exact hr
                  · rw [if_neg hi]
                have hx := ext_heap (c := c) (e := e) (w := w') (st := st) (st' := ⟨st.tmps, st.boxes, putAt none st.rows id' (some ⟨T', .int .i64, sortI [], true⟩), st.ys, st.pin⟩) (fun _ => rfl) hsame rfl rfl
              · exact hx.2 hh
              · refine pres_of rfl rfl (fun i b hi => ⟨⟨b, hi⟩, rfl⟩) (fun i q _ hq => ⟨⟨q, by rw [← hsame]; exact hq, rfl, Nat.le_refl _⟩, rfl⟩)
            · have hlen' : l.length ≤ 4000000000 := hlen
              rw [hv]
              have htake' : cur.toList.take l.length = l.map (Value.int .i64) := by
                have := htake
                rw [valsI] at this
                simpa [EK.size] using this
              have hcs' : cur.size = cap := by simpa [EK.size] using hcs
              have hnc' : l.length ≤ cap := hnc
              have hfz' : fz = (0, 0) := hfz
              subst hfz'
              have hglt : g < w.heap.size := (Array.getElem?_eq_some_iff.1 hgg).1
              have hat : ∀ j, j < l.length → cur[j]? = some (.int .i64 (l.toArray[j]!)) := by
                intro j hj
                have h1 := congrArg (fun m => m[j]?) htake'
                simp only [List.getElem?_take, if_pos hj, List.getElem?_map, List.getElem?_eq_getElem hj, Option.map_some, Array.getElem?_toList] at h1
                rw [h1]; simp [hj]
              have hholds : Holds (Value.int .i64) w g 0 l.toArray := by
                intro j hj
                have hj' : j < l.length := by simpa using hj
                refine ⟨?_, ?_⟩
                · unfold World.cell?
                  simp only [hgg, Nat.zero_add]
                  rw [hat j hj']; rfl
                · unfold World.frozen?
                  simp [hgg]
              refine (hs g 0 cap l w hholds hglt (by omega)).mono ?_
              rintro en w' ⟨rfl, n, os, rfl⟩
              obtain ⟨w1, h1, h2, h3⟩ := turnRowL (P := P) (id := id') (r := ⟨T', .int .i64, l, true⟩) (lo := 0) (m := sortI l) hh hr rfl (by rw [sortI_len]; simp) hv
              have hst := run_storeCells_fz P g 0 T' (0, 0) (valsOf (.int .i64) (sortI l)) 0 cur w hgg (by rw [valsI, List.length_map, sortI_len]; omega) (fun v hv' => by
                rw [valsI, List.mem_map] at hv'; obtain ⟨q, _, rfl⟩ := hv'; rfl) (.inr rfl)
              have hadd : (⟨g, 0, none⟩ : Addr).add (0 * (EK.int IntKind.i64).size) = ⟨g, 0, none⟩ := by simp [Addr.add_lit]
              rw [hadd, hst] at h1
              cases h1
              have hrow : (l.take 0 ++ sortI l ++ l.drop (0 + (sortI l).length)) = sortI l := by simp [sortI_len]
              have e1 : (⟨T', .int .i64, (⟨T', .int .i64, l, true⟩ : Row).l.take 0 ++ sortI l ++ (⟨T', .int .i64, l, true⟩ : Row).l.drop (0 + (sortI l).length), true⟩ : Row) = ⟨T', .int .i64, sortI l, true⟩ := by
                show (⟨T', .int .i64, l.take 0 ++ sortI l ++ l.drop (0 + (sortI l).length), true⟩ : Row) = _
                rw [hrow]
              rw [e1] at h2 h3
              refine hnew _ (h2.moved ⟨rfl, rfl, rfl, ?_, fun k hk => ?_⟩) h3
              · simp [grow, putRow, mapBlock, Sort.ahead, World.setRow]
              · have hk' : k < w.heap.size := by simpa [World.setRow] using hk
                have hL : (grow (putRow (Value.int .i64) (Sort.ahead w n) g 0 (l.mergeSort fun x y => decide (x ≤ y)).toArray) os).heap[k]? = (w.heap.modify g (onCells (putCells (Value.int .i64) 0 (sortI l).toArray)))[k]? := by
                  show (w.heap.modify g _ ++ os)[k]? = _
                  rw [Array.getElem?_append_left (by simpa using hk')]; rfl
                rw [hL, Array.getElem?_modify]
                by_cases hkg : g = k
                · subst hkg
                  rw [if_pos rfl, hgg, setRow_heap w g cur _ T' (0, 0) hgg]
                  simp only [Option.map_some, onCells]
                  congr 2
                  apply Array.ext_getElem?
                  intro j
                  simp only [putCells, Array.getElem?_mapIdx, Nat.zero_le, true_and, Nat.zero_add, Nat.sub_zero, List.getElem?_toArray, List.take_zero, List.nil_append, List.size_toArray, Nat.add_zero]
                  rw [valsI]
                  by_cases hj : j < (sortI l).length
                  · have hjc : j < cur.size := by rw [sortI_len] at hj; omega
                    rw [List.getElem?_append_left (by simpa using hj), List.getElem?_map, List.getElem?_eq_getElem hj, Array.getElem?_eq_getElem hjc]
                    simp [hj]
                  · rw [List.getElem?_append_right (by simp; omega), List.getElem?_drop, List.length_map]
                    rw [show (sortI l).length + (j - (sortI l).length) = j by omega, Array.getElem?_toList]
                    cases cur[j]? with
                    | none => rfl
                    | some y => simp [hj]
                · rw [if_neg hkg, setRow_below k (fun h => hkg h.symm)]
          · cases hrv
        | _ =>
          simp only [resolveF] at hrv
          first
            | (cases hrv; done)
            | (split at hrv <;> first | (cases hrv; done) | (split at hrv <;> cases hrv))
      · cases hres
    · cases hcr
  · cases hcr
end Go.X

namespace Go.X
open Go
structure WayOk (p : ByteArray) (fr pc : Int) : Prop where
  is : spKind pc ≠ 0 → p.size = 90 ∧ 0 ≤ fr ∧ fr < 90
  u : True
  v : True
theorem WayOk.s90 {p : ByteArray} {fr pc k : Int} (h : WayOk p fr pc) (hk : (spKind pc == k) = true) (h0 : k ≠ 0) : S90 p := ⟨(h.is (by rw [beqT hk]; exact h0)).1, trivial, trivial⟩
theorem WayOk.sq {p : ByteArray} {fr pc k : Int} (h : WayOk p fr pc) (hk : (spKind pc == k) = true) (h0 : k ≠ 0) : Sq fr := by
  have := h.is (by rw [beqT hk]; exact h0)
  exact ⟨by omega, by omega, trivial⟩
def spTaken (p : ByteArray) (pc n : Int) : Bool := !spIsSquare n || (spSide (byteAt p n.toNat) == spSide pc)
def spAllOf (p : ByteArray) (fr pc : Int) : List Int := spCompact (sortI ((spWay p fr pc).filter fun n => !spTaken p pc n))
def spAll (p : ByteArray) (fr : Int) : List Int := spAllOf p fr (spAt p fr)
def spCan (p : ByteArray) (fr to : Int) : Bool := (spAll p fr).any fun x => to == x
theorem way_none {p : ByteArray} {fr pc : Int} (h : spKind pc = 0) : spWay p fr pc = [] := by simp [spWay, h]
theorem kind_dot : spKind 46 = 0 := by decide
theorem at_ok {p : ByteArray} {fr : Int} (h : spKind (spAt p fr) ≠ 0) : spIs p = true ∧ 0 ≤ fr ∧ fr < 90 := by
  unfold spAt at h
  split at h
  · rename_i h1
    simp only [Bool.and_eq_true, isSquare_iff] at h1
    exact ⟨h1.2, h1.1⟩
  · exact absurd kind_dot h
theorem way_ok (p : ByteArray) (fr : Int) : WayOk p fr (spAt p fr) := ⟨fun h => ⟨spIs_size (at_ok h).1, (at_ok h).2⟩, trivial, trivial⟩
theorem way_len' (p : ByteArray) (fr pc : Int) : (spWay p fr pc).length ≤ 100 := by
  have hh : (spHorse p fr).length ≤ 52 := by have := dirs_len (f := horse1 p fr) (fun w => by unfold horse1; split <;> simp) (Nat.le_refl 4); simpa [spHorse, dirs] using this
  have hl : ∀ s, (spLines p fr s).length ≤ 52 := fun s => by have := dirs_len (f := line1 p fr s) (fun w => line1_len _ _ _ w) (Nat.le_refl 4); simpa [spLines, dirs] using this
  have h1 : (spGen fr pc).length ≤ 8 := List.length_filter_le _ _
  have h2 : (spAdvL fr pc).length ≤ 4 := List.length_filter_le _ _
  have h3 : (spEleL p fr pc).length ≤ 4 := Nat.le_trans (List.length_filter_le _ _) (List.length_filter_le _ _)
  have h4 : (spPawnL fr pc).length ≤ 3 := by unfold spPawnL; split <;> simp
  have h5 := hl false; have h6 := hl true
  unfold spWay
  repeat' split
  all_goals first | omega | simp
theorem way_ne (p : ByteArray) (fr : Int) : NE (spWay p fr (spAt p fr)) p := by
  refine ⟨?_, trivial, trivial⟩
  by_cases h : spKind (spAt p fr) = 0
  · exact .inl (way_none h)
  · exact .inr (spIs_size (at_ok h).1)
theorem cstep_len (acc : List Int) (x : Int) : (cstep acc x).length ≤ acc.length + 1 := by unfold cstep; split <;> simp
theorem foldl_len (l : List Int) : ∀ acc, (l.foldl cstep acc).length ≤ acc.length + l.length := by
  induction l with
  | nil => intro acc; simp
  | cons x l ih => intro acc; have := ih (cstep acc x); have := cstep_len acc x; simp only [List.foldl_cons, List.length_cons]; omega
theorem compact_len (l : List Int) : (spCompact l).length ≤ l.length := by have := foldl_len l []; simpa [spCompact] using this
theorem taken_len (p : ByteArray) (fr pc : Int) (f : Int → Bool) : ((spWay p fr pc).filter f).length ≤ 100 := Nat.le_trans (List.length_filter_le _ _) (way_len' _ _ _)
theorem all_len (p : ByteArray) (fr : Int) : (spAll p fr).length ≤ 100 := by
  unfold spAll spAllOf
  refine Nat.le_trans (compact_len _) ?_
  rw [sortI_len]; exact taken_len _ _ _ _
theorem may_sq {c n : Int} (h : spMay c n = true) : 0 ≤ n ∧ n < 90 := by
  unfold spMay at h
  split at h
  · rename_i ho; simp [spOk] at ho; omega
  · cases h
end Go.X

namespace Go.X
open Go
def cntGo (p : ByteArray) (s m : Int) : Nat → Int → Int
  | 0, _ => 0
  | k + 1, i => if i < m then (if byteAt p i.toNat = 46 then 0 else 1) + cntGo p s m k (i + s) else 0
def imin (a b : Int) : Int := if b < a then b else a
def imax (a b : Int) : Int := if b > a then b else a
def spCnt (p : ByteArray) (a b s : Int) : Int := cntGo p s (imax a b) 90 (imin a b + s)
def spBetween (p : ByteArray) (a b : Int) : Int :=
  if !spIs p || !spIsSquare a || !spIsSquare b || a == b then -1
  else if spRank a = spRank b then spCnt p a b 1 else if spFile a = spFile b then spCnt p a b 9 else -1
def spIsSide (s : Int) : Bool := (s == 0) || (s == 1)
def spFind (p : ByteArray) (c : Int) : List Int := spList (spSet p (· == c))
def spPieces (p : ByteArray) (side : Int) : List Int := spList (spSet p (spOf side))
def pawnOf (side : Int) : Int := byteAt (.mk #[112, 80]) side.toNat
def kingOf (side : Int) : Int := byteAt (.mk #[75, 107]) side.toNat
def spGeneral (p : ByteArray) (side : Int) : Int := if spIsSide side then (spFind p (kingOf side)).headD (-1) else -1
def spAttackers (p : ByteArray) (n side : Int) : List Int :=
  if spIsSide side && decide (0 ≤ spFile n) then (spPieces (spPut p n (pawnOf side)) side).filter fun fr => spCan (spPut p n (pawnOf side)) fr n else []
def spFacing (p : ByteArray) : Bool := decide (0 ≤ spGeneral p 0) && decide (0 ≤ spGeneral p 1) && (spFile (spGeneral p 0) == spFile (spGeneral p 1)) && (spBetween p (spGeneral p 0) (spGeneral p 1) == 0)
def spIn (p : ByteArray) (side : Int) : Bool := decide (0 ≤ spGeneral p side) && decide (0 < (spAttackers p (spGeneral p side) (1 - side)).length)

theorem side_in {s : Int} (h : spIsSide s = true) : 0 ≤ s ∧ s < 2 := by simp [spIsSide] at h; omega
theorem pieces_len (p : ByteArray) (side : Int) : (spPieces p side).length ≤ 90 := spList_len _
end Go.X

namespace Go.X
open Go
structure InR (p : ByteArray) (n : Int) : Prop where
  lo : 0 ≤ n
  hi : n < p.size
  u : True
def spMoved (p : ByteArray) (fr to : Int) : ByteArray := spPut (spPut p to (byteAt p fr.toNat)) fr 46
def spSafe (p : ByteArray) (side fr to : Int) : Bool := if spKind (byteAt p to.toNat) = 75 then false else !spFacing (spMoved p fr to) && !spIn (spMoved p fr to) side
def spGCan (p : ByteArray) (side fr to : Int) : Bool :=
  decide (0 ≤ spSide (spAt p fr)) && (spSide (spAt p fr) == side) && spCan p fr to && spSafe p side fr to
def spGuarded (p : ByteArray) (fr to : Int) : Bool :=
  if spGCan p (spSide (spAt p fr)) fr to then (spAttackers (spMoved p fr to) to (1 - spSide (spAt p fr))).any fun n => spGCan (spMoved p fr to) (1 - spSide (spAt p fr)) n to else false
def spTo1 (p : ByteArray) (fr : Int) : List (Int × Int) := ((spAll p fr).filter fun to => byteAt p to.toNat != 46).map fun to => (fr, to)
def spReached (p : ByteArray) (side : Int) : List (Int × Int) := (spPieces p side).flatMap (spTo1 p)
def spTakes (p : ByteArray) (side : Int) : List (Int × Int) := (spReached p side).filter fun m => spSafe p side m.1 m.2

theorem mem_compact {x : Int} (l : List Int) : x ∈ spCompact l ↔ x ∈ l := by
  unfold spCompact
  have : ∀ (l acc : List Int), x ∈ l.foldl cstep acc ↔ x ∈ acc ∨ x ∈ l := by
    intro l
    induction l with
    | nil => intro acc; simp
    | cons y l ih =>
      intro acc
      rw [List.foldl_cons, ih]
      unfold cstep
      split
      · rename_i h
        have hy : y ∈ acc := List.mem_of_getLast? h
        simp only [List.mem_cons]
        constructor
        · rintro (h | h)
          · exact .inl h
          · exact .inr (.inr h)
        · rintro (h | rfl | h)
          · exact .inl h
          · exact .inl hy
          · exact .inr h
      · simp only [List.mem_append, List.mem_singleton, List.mem_cons, or_assoc, List.not_mem_nil, or_false]
  rw [this]; simp
theorem mem_sortI {x : Int} (l : List Int) : x ∈ sortI l ↔ x ∈ l := by unfold sortI; exact List.mem_mergeSort
theorem mem_all {p : ByteArray} {fr x : Int} : x ∈ spAll p fr ↔ x ∈ spWay p fr (spAt p fr) ∧ 0 ≤ x ∧ x < 90 ∧ spSide (byteAt p x.toNat) ≠ spSide (spAt p fr) := by
  unfold spAll spAllOf
  rw [mem_compact, mem_sortI, List.mem_filter]
  simp only [spTaken, Bool.not_or, Bool.not_not, Bool.and_eq_true, isSquare_iff, Bool.not_eq_true', beq_eq_false_iff_ne, ne_eq, and_assoc]
theorem all_is {p : ByteArray} {fr x : Int} (h : x ∈ spAll p fr) : spIs p = true ∧ (0 ≤ fr ∧ fr < 90) ∧ 0 ≤ x ∧ x < 90 := by
  rw [mem_all] at h
  have hk : spKind (spAt p fr) ≠ 0 := fun hk => by rw [way_none hk] at h; simp at h
  exact ⟨(at_ok hk).1, (at_ok hk).2, h.2.1, h.2.2.1⟩
theorem can_mem {p : ByteArray} {fr to : Int} : spCan p fr to = true ↔ to ∈ spAll p fr := by
  unfold spCan
  rw [List.any_eq_true]
  constructor
  · rintro ⟨x, h1, h2⟩; rw [beqT h2]; exact h1
  · intro h; exact ⟨to, h, by simp⟩
theorem can_in {p : ByteArray} {fr to : Int} (h : spCan p fr to = true) : InR p fr ∧ InR p to := by
  have h := all_is (can_mem.1 h)
  have h90 := spIs_size h.1
  exact ⟨⟨h.2.1.1, by omega, trivial⟩, ⟨h.2.2.1, by omega, trivial⟩⟩
theorem att_len (p : ByteArray) (n side : Int) : (spAttackers p n side).length ≤ 90 := by
  unfold spAttackers; split
  · exact Nat.le_trans (List.length_filter_le _ _) (pieces_len _ _)
  · simp
theorem gcan_in {p : ByteArray} {side fr to : Int} (h : spGCan p side fr to = true) : InR p fr ∧ InR p to := by
  unfold spGCan at h; simp only [Bool.and_eq_true] at h; exact can_in h.1.2
theorem wrap_side (c : Int) : IntKind.i64.wrap (1 - spSide c) = 1 - spSide c := by
  have := side_bd c
  exact wrap64 (by omega) (by omega)
def outT (p : ByteArray) (side : Int) (i : Nat) : List (Int × Int) := (((spPieces p side).take i).flatMap (spTo1 p)).filter fun m => spSafe p side m.1 m.2
def inT (p : ByteArray) (side fr : Int) (j : Nat) : List (Int × Int) := ((((spAll p fr).take j).filter fun to => byteAt p to.toNat != 46).map fun to => (fr, to)).filter fun m => spSafe p side m.1 m.2
theorem inT_len (p : ByteArray) (side fr : Int) {j : Nat} (h : j ≤ (spAll p fr).length) : (inT p side fr j).length ≤ 100 := by
  refine Nat.le_trans (List.length_filter_le _ _) ?_
  rw [List.length_map]
  refine Nat.le_trans (List.length_filter_le _ _) ?_
  have := all_len p fr
  rw [List.length_take]; omega
theorem outT_len (p : ByteArray) (side : Int) {i : Nat} (h : i ≤ (spPieces p side).length) : (outT p side i).length ≤ 9000 := by
  refine Nat.le_trans (List.length_filter_le _ _) ?_
  have key : ∀ l : List Int, (l.flatMap (spTo1 p)).length ≤ 100 * l.length := by
    intro l
    induction l with
    | nil => simp
    | cons x l ih =>
      rw [List.flatMap_cons, List.length_append, List.length_cons]
      have : (spTo1 p x).length ≤ 100 := by
        unfold spTo1; rw [List.length_map]; exact Nat.le_trans (List.length_filter_le _ _) (all_len _ _)
      omega
  refine Nat.le_trans (key _) ?_
  have := pieces_len p side
  rw [List.length_take]; omega
theorem outT_next (p : ByteArray) (side : Int) {i : Nat} (h : i < (spPieces p side).length) : outT p side (i + 1) = outT p side i ++ inT p side ((spPieces p side).getD i 0) (spAll p ((spPieces p side).getD i 0)).length := by
  unfold outT inT
  rw [List.take_succ_eq_append_getElem h, List.flatMap_append, List.filter_append, getD_getElem h, List.take_length]
  simp [spTo1]
theorem inT_next (p : ByteArray) (side fr : Int) {j : Nat} (h : j < (spAll p fr).length) : inT p side fr (j + 1) = inT p side fr j ++ if byteAt p ((spAll p fr).getD j 0).toNat != 46 && spSafe p side fr ((spAll p fr).getD j 0) then [(fr, (spAll p fr).getD j 0)] else [] := by
  unfold inT
  rw [List.take_succ_eq_append_getElem h, List.filter_append, List.map_append, List.filter_append, getD_getElem h]
  congr 1
  by_cases h1 : (byteAt p ((spAll p fr)[j]).toNat != 46) = true
  · rw [List.filter_cons_of_pos (by simpa using h1)]
    by_cases h2 : spSafe p side fr (spAll p fr)[j] = true
    · simp [h1, h2]
    · simp [h1, h2]
  · rw [List.filter_cons_of_neg (by simpa using h1)]
    simp [h1]
theorem outT_all (p : ByteArray) (side : Int) : outT p side (spPieces p side).length = spTakes p side := by
  unfold outT spTakes spReached; rw [List.take_length]
end Go.X

namespace Go.X
open Go Go.Proofs
theorem td1 : TDOK Tryz.prog 1 ⟨.func, 1, 8, [.nilf], none, none, false⟩ := tdok_of (info_of Tryz.type1) rfl ⟨_, _, _, Tryz.underlying1⟩ ⟨rfl, rfl, rfl⟩ rfl (.inl ⟨rfl, rfl⟩) (.inl rfl)
theorem td2 : TDOK Tryz.prog 2 ⟨.int .i64, 1, 8, [.i .i64 0], some (.int .i64), none, false⟩ := tdok_of (info_of Tryz.type2) rfl Tryz.underlying2 ⟨rfl, rfl, rfl⟩ rfl (.inl ⟨rfl, rfl⟩) (.inr ⟨_, rfl, rfl, by decide, rfl⟩)
theorem td3 : TDOK Tryz.prog 3 ⟨.int .i64, 1, 8, [.i .i64 0], some (.int .i64), none, false⟩ := tdok_of (info_of Tryz.type3) rfl Tryz.underlying3 ⟨rfl, rfl, rfl⟩ rfl (.inl ⟨rfl, rfl⟩) (.inr ⟨_, rfl, rfl, by decide, rfl⟩)
theorem td4 : TDOK Tryz.prog 4 ⟨.bool, 1, 1, [.b false], some .bool, none, false⟩ := tdok_of (info_of Tryz.type4) rfl Tryz.underlying4 ⟨rfl, rfl, rfl⟩ rfl (.inl ⟨rfl, rfl⟩) (.inr ⟨_, rfl, rfl, by decide, rfl⟩)
theorem td5 : TDOK Tryz.prog 5 ⟨.int .u8, 1, 1, [.i .u8 0], some (.int .u8), none, false⟩ := tdok_of (info_of Tryz.type5) rfl Tryz.underlying5 ⟨rfl, rfl, rfl⟩ rfl (.inl ⟨rfl, rfl⟩) (.inr ⟨_, rfl, rfl, by decide, rfl⟩)
theorem td6 : TDOK Tryz.prog 6 ⟨.int .u8, 1, 1, [.i .u8 0], some (.int .u8), none, false⟩ := tdok_of (info_of Tryz.type6) rfl Tryz.underlying6 ⟨rfl, rfl, rfl⟩ rfl (.inl ⟨rfl, rfl⟩) (.inr ⟨_, rfl, rfl, by decide, rfl⟩)
theorem td7 : TDOK Tryz.prog 7 ⟨.struct [(0, 2), (1, 3), (2, 4), (3, 6)], 4, 24, [.i .i64 0, .i .i64 0, .b false, .i .u8 0], some (.pair (.int .i64) (.pair (.int .i64) (.pair .bool (.int .u8)))), none, false⟩ := tdok_of (info_of Tryz.type7) rfl ⟨_, Tryz.underlying7, rfl⟩ ⟨rfl, rfl, rfl⟩ rfl (.inl ⟨rfl, rfl⟩) (.inr ⟨_, rfl, rfl, by decide, rfl⟩)
theorem td8 : TDOK Tryz.prog 8 ⟨.struct [(0, 2), (1, 3), (2, 4), (3, 6)], 4, 24, [.i .i64 0, .i .i64 0, .b false, .i .u8 0], some (.pair (.int .i64) (.pair (.int .i64) (.pair .bool (.int .u8)))), none, false⟩ := tdok_of (info_of Tryz.type8) rfl ⟨_, Tryz.underlying8, rfl⟩ ⟨rfl, rfl, rfl⟩ rfl (.inl ⟨rfl, rfl⟩) (.inr ⟨_, rfl, rfl, by decide, rfl⟩)
theorem td9 : TDOK Tryz.prog 9 ⟨.str, 1, 16, [.s ByteArray.empty], some .str, none, false⟩ := tdok_of (info_of Tryz.type9) rfl Tryz.underlying9 ⟨rfl, rfl, rfl⟩ rfl (.inl ⟨rfl, rfl⟩) (.inr ⟨_, rfl, rfl, by decide, rfl⟩)
theorem td10 : TDOK Tryz.prog 10 ⟨.str, 1, 16, [.s ByteArray.empty], some .str, none, false⟩ := tdok_of (info_of Tryz.type10) rfl Tryz.underlying10 ⟨rfl, rfl, rfl⟩ rfl (.inl ⟨rfl, rfl⟩) (.inr ⟨_, rfl, rfl, by decide, rfl⟩)
theorem td11 : TDOK Tryz.prog 11 ⟨.str, 1, 16, [.s ByteArray.empty], some .str, none, false⟩ := tdok_of (info_of Tryz.type11) rfl Tryz.underlying11 ⟨rfl, rfl, rfl⟩ rfl (.inl ⟨rfl, rfl⟩) (.inr ⟨_, rfl, rfl, by decide, rfl⟩)
theorem td12 : TDOK Tryz.prog 12 ⟨.int .u64, 1, 8, [.i .u64 0], some (.int .u64), none, false⟩ := tdok_of (info_of Tryz.type12) rfl Tryz.underlying12 ⟨rfl, rfl, rfl⟩ rfl (.inl ⟨rfl, rfl⟩) (.inr ⟨_, rfl, rfl, by decide, rfl⟩)
theorem td13 : TDOK Tryz.prog 13 ⟨.struct [(0, 9), (1, 12)], 2, 24, [.s ByteArray.empty, .i .u64 0], some (.pair .str (.int .u64)), none, false⟩ := tdok_of (info_of Tryz.type13) rfl ⟨_, Tryz.underlying13, rfl⟩ ⟨rfl, rfl, rfl⟩ rfl (.inl ⟨rfl, rfl⟩) (.inr ⟨_, rfl, rfl, by decide, rfl⟩)
theorem td14 : TDOK Tryz.prog 14 ⟨.struct [(0, 9), (1, 12)], 2, 24, [.s ByteArray.empty, .i .u64 0], some (.pair .str (.int .u64)), none, false⟩ := tdok_of (info_of Tryz.type14) rfl ⟨_, Tryz.underlying14, rfl⟩ ⟨rfl, rfl, rfl⟩ rfl (.inl ⟨rfl, rfl⟩) (.inr ⟨_, rfl, rfl, by decide, rfl⟩)
theorem td15 : TDOK Tryz.prog 15 ⟨.ptr 135, 1, 8, [.nilp], none, none, false⟩ := tdok_of (info_of Tryz.type15) rfl Tryz.underlying15 ⟨rfl, rfl, rfl⟩ rfl (.inl ⟨rfl, rfl⟩) (.inl rfl)
theorem td16 : TDOK Tryz.prog 16 ⟨.ptr 138, 1, 8, [.nilp], none, none, false⟩ := tdok_of (info_of Tryz.type16) rfl Tryz.underlying16 ⟨rfl, rfl, rfl⟩ rfl (.inl ⟨rfl, rfl⟩) (.inl rfl)
theorem td17 : TDOK Tryz.prog 17 ⟨.ptr 146, 1, 8, [.nilp], none, none, false⟩ := tdok_of (info_of Tryz.type17) rfl Tryz.underlying17 ⟨rfl, rfl, rfl⟩ rfl (.inl ⟨rfl, rfl⟩) (.inl rfl)
theorem td18 : TDOK Tryz.prog 18 ⟨.struct [(0, 17)], 1, 8, [.nilp], none, none, false⟩ := tdok_of (info_of Tryz.type18) rfl ⟨_, Tryz.underlying18, rfl⟩ ⟨rfl, rfl, rfl⟩ rfl (.inl ⟨rfl, rfl⟩) (.inl rfl)
theorem td19 : TDOK Tryz.prog 19 ⟨.struct [(0, 17)], 1, 8, [.nilp], none, none, false⟩ := tdok_of (info_of Tryz.type19) rfl ⟨_, Tryz.underlying19, rfl⟩ ⟨rfl, rfl, rfl⟩ rfl (.inl ⟨rfl, rfl⟩) (.inl rfl)
theorem td20 : TDOK Tryz.prog 20 ⟨.iface, 1, 16, [.nili], none, none, false⟩ := tdok_of (info_of Tryz.type20) rfl ⟨_, Tryz.underlying20⟩ ⟨rfl, rfl, rfl⟩ rfl (.inl ⟨rfl, rfl⟩) (.inl rfl)
theorem td21 : TDOK Tryz.prog 21 ⟨.int .i32, 1, 4, [.i .i32 0], some (.int .i32), none, false⟩ := tdok_of (info_of Tryz.type21) rfl Tryz.underlying21 ⟨rfl, rfl, rfl⟩ rfl (.inl ⟨rfl, rfl⟩) (.inr ⟨_, rfl, rfl, by decide, rfl⟩)
theorem td22 : TDOK Tryz.prog 22 ⟨.struct [(0, 3), (1, 3)], 2, 16, [.i .i64 0, .i .i64 0], some (.pair (.int .i64) (.int .i64)), none, false⟩ := tdok_of (info_of Tryz.type22) rfl ⟨_, Tryz.underlying22, rfl⟩ ⟨rfl, rfl, rfl⟩ rfl (.inl ⟨rfl, rfl⟩) (.inr ⟨_, rfl, rfl, by decide, rfl⟩)
theorem eqs23 : ∀ (x y : EK.ty (.pair (.int .i64) (.int .i64))) (w : World), (Op.equalIn 10000 23 (.agg (EK.vals (.pair (.int .i64) (.int .i64)) x).toArray) (.agg (EK.vals (.pair (.int .i64) (.int .i64)) y).toArray)).run Tryz.prog w = .ok (EK.eqb (.pair (.int .i64) (.int .i64)) x y) w := by
  intro x y w
  rw [run_equalIn_agg w 9999 23 _ _ (by rw [fo Tryz.underlying23]; exact Tryz.underlying23) Tryz.stoodInHeld23, fo Tryz.underlying23]
  simp only [EK.vals, List.cons_append, List.nil_append, EK.eqb]
  have p0 : ∀ (a0 a1 : Value), (part 3 #[a0, a1] 0).run Tryz.prog w = .ok a0 w := fun a0 a1 => part_run td3 [a0, a1] 0
  have p1 : ∀ (a0 a1 : Value), (part 3 #[a0, a1] 1).run Tryz.prog w = .ok a1 w := fun a0 a1 => part_run td3 [a0, a1] 1
  simp [Op.eqFields, p0, p1, run_equalIn_int w 9998 3 .i64 .i64 _ _ Tryz.underlying3]
  by_cases h1 : x.1 = y.1 <;> by_cases h2 : x.2 = y.2 <;> simp [h1, h2]

theorem td23 : TDOK Tryz.prog 23 ⟨.struct [(0, 3), (1, 3)], 2, 16, [.i .i64 0, .i .i64 0], some (.pair (.int .i64) (.int .i64)), none, true⟩ := tdok_of (info_of Tryz.type23) rfl ⟨_, Tryz.underlying23, rfl⟩ ⟨rfl, rfl, rfl⟩ rfl (.inl ⟨rfl, rfl⟩) (.inr ⟨_, rfl, rfl, by decide, rfl⟩) (fun _ k hk => by cases hk; exact ⟨Tryz.eqGuardType23, eqs23⟩)
theorem td24 : TDOK Tryz.prog 24 ⟨.func, 1, 8, [.nilf], none, none, false⟩ := tdok_of (info_of Tryz.type24) rfl ⟨_, _, _, Tryz.underlying24⟩ ⟨rfl, rfl, rfl⟩ rfl (.inl ⟨rfl, rfl⟩) (.inl rfl)
theorem td25 : TDOK Tryz.prog 25 ⟨.func, 1, 8, [.nilf], none, none, false⟩ := tdok_of (info_of Tryz.type25) rfl ⟨_, _, _, Tryz.underlying25⟩ ⟨rfl, rfl, rfl⟩ rfl (.inl ⟨rfl, rfl⟩) (.inl rfl)
theorem td26 : TDOK Tryz.prog 26 ⟨.slice 23, 1, 24, [.nils], none, none, false⟩ := tdok_of (info_of Tryz.type26) rfl Tryz.underlying26 ⟨rfl, rfl, rfl⟩ rfl (.inl ⟨rfl, rfl⟩) (.inl rfl)
theorem td27 : TDOK Tryz.prog 27 ⟨.func, 1, 8, [.nilf], none, none, false⟩ := tdok_of (info_of Tryz.type27) rfl ⟨_, _, _, Tryz.underlying27⟩ ⟨rfl, rfl, rfl⟩ rfl (.inl ⟨rfl, rfl⟩) (.inl rfl)
theorem td28 : TDOK Tryz.prog 28 ⟨.func, 1, 8, [.nilf], none, none, false⟩ := tdok_of (info_of Tryz.type28) rfl ⟨_, _, _, Tryz.underlying28⟩ ⟨rfl, rfl, rfl⟩ rfl (.inl ⟨rfl, rfl⟩) (.inl rfl)
theorem td29 : TDOK Tryz.prog 29 ⟨.func, 1, 8, [.nilf], none, none, false⟩ := tdok_of (info_of Tryz.type29) rfl ⟨_, _, _, Tryz.underlying29⟩ ⟨rfl, rfl, rfl⟩ rfl (.inl ⟨rfl, rfl⟩) (.inl rfl)
theorem td30 : TDOK Tryz.prog 30 ⟨.struct [(0, 9), (1, 3), (2, 3), (3, 3)], 4, 40, [.s ByteArray.empty, .i .i64 0, .i .i64 0, .i .i64 0], some (.pair .str (.pair (.int .i64) (.pair (.int .i64) (.int .i64)))), none, false⟩ := tdok_of (info_of Tryz.type30) rfl ⟨_, Tryz.underlying30, rfl⟩ ⟨rfl, rfl, rfl⟩ rfl (.inl ⟨rfl, rfl⟩) (.inr ⟨_, rfl, rfl, by decide, rfl⟩)
theorem td31 : TDOK Tryz.prog 31 ⟨.struct [(0, 9), (1, 3), (2, 3), (3, 3)], 4, 40, [.s ByteArray.empty, .i .i64 0, .i .i64 0, .i .i64 0], some (.pair .str (.pair (.int .i64) (.pair (.int .i64) (.int .i64)))), none, false⟩ := tdok_of (info_of Tryz.type31) rfl ⟨_, Tryz.underlying31, rfl⟩ ⟨rfl, rfl, rfl⟩ rfl (.inl ⟨rfl, rfl⟩) (.inr ⟨_, rfl, rfl, by decide, rfl⟩)
theorem td32 : TDOK Tryz.prog 32 ⟨.func, 1, 8, [.nilf], none, none, false⟩ := tdok_of (info_of Tryz.type32) rfl ⟨_, _, _, Tryz.underlying32⟩ ⟨rfl, rfl, rfl⟩ rfl (.inl ⟨rfl, rfl⟩) (.inl rfl)
theorem td33 : TDOK Tryz.prog 33 ⟨.func, 1, 8, [.nilf], none, none, false⟩ := tdok_of (info_of Tryz.type33) rfl ⟨_, _, _, Tryz.underlying33⟩ ⟨rfl, rfl, rfl⟩ rfl (.inl ⟨rfl, rfl⟩) (.inl rfl)
theorem td34 : TDOK Tryz.prog 34 ⟨.func, 1, 8, [.nilf], none, none, false⟩ := tdok_of (info_of Tryz.type34) rfl ⟨_, _, _, Tryz.underlying34⟩ ⟨rfl, rfl, rfl⟩ rfl (.inl ⟨rfl, rfl⟩) (.inl rfl)
theorem td35 : TDOK Tryz.prog 35 ⟨.int .i64, 1, 8, [.i .i64 0], some (.int .i64), none, false⟩ := tdok_of (info_of Tryz.type35) rfl Tryz.underlying35 ⟨rfl, rfl, rfl⟩ rfl (.inl ⟨rfl, rfl⟩) (.inr ⟨_, rfl, rfl, by decide, rfl⟩)
theorem td37 : TDOK Tryz.prog 37 ⟨.func, 1, 8, [.nilf], none, none, false⟩ := tdok_of (info_of Tryz.type37) rfl ⟨_, _, _, Tryz.underlying37⟩ ⟨rfl, rfl, rfl⟩ rfl (.inl ⟨rfl, rfl⟩) (.inl rfl)
theorem td38 : TDOK Tryz.prog 38 ⟨.func, 1, 8, [.nilf], none, none, false⟩ := tdok_of (info_of Tryz.type38) rfl ⟨_, _, _, Tryz.underlying38⟩ ⟨rfl, rfl, rfl⟩ rfl (.inl ⟨rfl, rfl⟩) (.inl rfl)
theorem td39 : TDOK Tryz.prog 39 ⟨.slice 3, 1, 24, [.nils], none, none, false⟩ := tdok_of (info_of Tryz.type39) rfl Tryz.underlying39 ⟨rfl, rfl, rfl⟩ rfl (.inl ⟨rfl, rfl⟩) (.inl rfl)
theorem td40 : TDOK Tryz.prog 40 ⟨.func, 1, 8, [.nilf], none, none, false⟩ := tdok_of (info_of Tryz.type40) rfl ⟨_, _, _, Tryz.underlying40⟩ ⟨rfl, rfl, rfl⟩ rfl (.inl ⟨rfl, rfl⟩) (.inl rfl)
theorem td41 : TDOK Tryz.prog 41 ⟨.func, 1, 8, [.nilf], none, none, false⟩ := tdok_of (info_of Tryz.type41) rfl ⟨_, _, _, Tryz.underlying41⟩ ⟨rfl, rfl, rfl⟩ rfl (.inl ⟨rfl, rfl⟩) (.inl rfl)
theorem td42 : TDOK Tryz.prog 42 ⟨.func, 1, 8, [.nilf], none, none, false⟩ := tdok_of (info_of Tryz.type42) rfl ⟨_, _, _, Tryz.underlying42⟩ ⟨rfl, rfl, rfl⟩ rfl (.inl ⟨rfl, rfl⟩) (.inl rfl)
theorem td43 : TDOK Tryz.prog 43 ⟨.func, 1, 8, [.nilf], none, none, false⟩ := tdok_of (info_of Tryz.type43) rfl ⟨_, _, _, Tryz.underlying43⟩ ⟨rfl, rfl, rfl⟩ rfl (.inl ⟨rfl, rfl⟩) (.inl rfl)
theorem td44 : TDOK Tryz.prog 44 ⟨.func, 1, 8, [.nilf], none, none, false⟩ := tdok_of (info_of Tryz.type44) rfl ⟨_, _, _, Tryz.underlying44⟩ ⟨rfl, rfl, rfl⟩ rfl (.inl ⟨rfl, rfl⟩) (.inl rfl)
theorem td45 : TDOK Tryz.prog 45 ⟨.func, 1, 8, [.nilf], none, none, false⟩ := tdok_of (info_of Tryz.type45) rfl ⟨_, _, _, Tryz.underlying45⟩ ⟨rfl, rfl, rfl⟩ rfl (.inl ⟨rfl, rfl⟩) (.inl rfl)
theorem td46 : TDOK Tryz.prog 46 ⟨.func, 1, 8, [.nilf], none, none, false⟩ := tdok_of (info_of Tryz.type46) rfl ⟨_, _, _, Tryz.underlying46⟩ ⟨rfl, rfl, rfl⟩ rfl (.inl ⟨rfl, rfl⟩) (.inl rfl)
theorem td47 : TDOK Tryz.prog 47 ⟨.func, 1, 8, [.nilf], none, none, false⟩ := tdok_of (info_of Tryz.type47) rfl ⟨_, _, _, Tryz.underlying47⟩ ⟨rfl, rfl, rfl⟩ rfl (.inl ⟨rfl, rfl⟩) (.inl rfl)
theorem td48 : TDOK Tryz.prog 48 ⟨.func, 1, 8, [.nilf], none, none, false⟩ := tdok_of (info_of Tryz.type48) rfl ⟨_, _, _, Tryz.underlying48⟩ ⟨rfl, rfl, rfl⟩ rfl (.inl ⟨rfl, rfl⟩) (.inl rfl)
theorem td49 : TDOK Tryz.prog 49 ⟨.func, 1, 8, [.nilf], none, none, false⟩ := tdok_of (info_of Tryz.type49) rfl ⟨_, _, _, Tryz.underlying49⟩ ⟨rfl, rfl, rfl⟩ rfl (.inl ⟨rfl, rfl⟩) (.inl rfl)
theorem td50 : TDOK Tryz.prog 50 ⟨.func, 1, 8, [.nilf], none, none, false⟩ := tdok_of (info_of Tryz.type50) rfl ⟨_, _, _, Tryz.underlying50⟩ ⟨rfl, rfl, rfl⟩ rfl (.inl ⟨rfl, rfl⟩) (.inl rfl)
theorem td51 : TDOK Tryz.prog 51 ⟨.func, 1, 8, [.nilf], none, none, false⟩ := tdok_of (info_of Tryz.type51) rfl ⟨_, _, _, Tryz.underlying51⟩ ⟨rfl, rfl, rfl⟩ rfl (.inl ⟨rfl, rfl⟩) (.inl rfl)
theorem td52 : TDOK Tryz.prog 52 ⟨.func, 1, 8, [.nilf], none, none, false⟩ := tdok_of (info_of Tryz.type52) rfl ⟨_, _, _, Tryz.underlying52⟩ ⟨rfl, rfl, rfl⟩ rfl (.inl ⟨rfl, rfl⟩) (.inl rfl)
theorem td53 : TDOK Tryz.prog 53 ⟨.func, 1, 8, [.nilf], none, none, false⟩ := tdok_of (info_of Tryz.type53) rfl ⟨_, _, _, Tryz.underlying53⟩ ⟨rfl, rfl, rfl⟩ rfl (.inl ⟨rfl, rfl⟩) (.inl rfl)
theorem td54 : TDOK Tryz.prog 54 ⟨.func, 1, 8, [.nilf], none, none, false⟩ := tdok_of (info_of Tryz.type54) rfl ⟨_, _, _, Tryz.underlying54⟩ ⟨rfl, rfl, rfl⟩ rfl (.inl ⟨rfl, rfl⟩) (.inl rfl)
theorem td55 : TDOK Tryz.prog 55 ⟨.func, 1, 8, [.nilf], none, none, false⟩ := tdok_of (info_of Tryz.type55) rfl ⟨_, _, _, Tryz.underlying55⟩ ⟨rfl, rfl, rfl⟩ rfl (.inl ⟨rfl, rfl⟩) (.inl rfl)
theorem td56 : TDOK Tryz.prog 56 ⟨.func, 1, 8, [.nilf], none, none, false⟩ := tdok_of (info_of Tryz.type56) rfl ⟨_, _, _, Tryz.underlying56⟩ ⟨rfl, rfl, rfl⟩ rfl (.inl ⟨rfl, rfl⟩) (.inl rfl)
theorem td57 : TDOK Tryz.prog 57 ⟨.slice 5, 1, 24, [.nils], none, none, false⟩ := tdok_of (info_of Tryz.type57) rfl Tryz.underlying57 ⟨rfl, rfl, rfl⟩ rfl (.inl ⟨rfl, rfl⟩) (.inl rfl)
theorem td58 : TDOK Tryz.prog 58 ⟨.func, 1, 8, [.nilf], none, none, false⟩ := tdok_of (info_of Tryz.type58) rfl ⟨_, _, _, Tryz.underlying58⟩ ⟨rfl, rfl, rfl⟩ rfl (.inl ⟨rfl, rfl⟩) (.inl rfl)
theorem td59 : TDOK Tryz.prog 59 ⟨.func, 1, 8, [.nilf], none, none, false⟩ := tdok_of (info_of Tryz.type59) rfl ⟨_, _, _, Tryz.underlying59⟩ ⟨rfl, rfl, rfl⟩ rfl (.inl ⟨rfl, rfl⟩) (.inl rfl)
theorem td60 : TDOK Tryz.prog 60 ⟨.func, 1, 8, [.nilf], none, none, false⟩ := tdok_of (info_of Tryz.type60) rfl ⟨_, _, _, Tryz.underlying60⟩ ⟨rfl, rfl, rfl⟩ rfl (.inl ⟨rfl, rfl⟩) (.inl rfl)
theorem td61 : TDOK Tryz.prog 61 ⟨.func, 1, 8, [.nilf], none, none, false⟩ := tdok_of (info_of Tryz.type61) rfl ⟨_, _, _, Tryz.underlying61⟩ ⟨rfl, rfl, rfl⟩ rfl (.inl ⟨rfl, rfl⟩) (.inl rfl)
theorem td62 : TDOK Tryz.prog 62 ⟨.func, 1, 8, [.nilf], none, none, false⟩ := tdok_of (info_of Tryz.type62) rfl ⟨_, _, _, Tryz.underlying62⟩ ⟨rfl, rfl, rfl⟩ rfl (.inl ⟨rfl, rfl⟩) (.inl rfl)
theorem td63 : TDOK Tryz.prog 63 ⟨.func, 1, 8, [.nilf], none, none, false⟩ := tdok_of (info_of Tryz.type63) rfl ⟨_, _, _, Tryz.underlying63⟩ ⟨rfl, rfl, rfl⟩ rfl (.inl ⟨rfl, rfl⟩) (.inl rfl)
theorem td64 : TDOK Tryz.prog 64 ⟨.func, 1, 8, [.nilf], none, none, false⟩ := tdok_of (info_of Tryz.type64) rfl ⟨_, _, _, Tryz.underlying64⟩ ⟨rfl, rfl, rfl⟩ rfl (.inl ⟨rfl, rfl⟩) (.inl rfl)
theorem td65 : TDOK Tryz.prog 65 ⟨.func, 1, 8, [.nilf], none, none, false⟩ := tdok_of (info_of Tryz.type65) rfl ⟨_, _, _, Tryz.underlying65⟩ ⟨rfl, rfl, rfl⟩ rfl (.inl ⟨rfl, rfl⟩) (.inl rfl)
theorem td66 : TDOK Tryz.prog 66 ⟨.int .u64, 1, 8, [.i .u64 0], some (.int .u64), none, false⟩ := tdok_of (info_of Tryz.type66) rfl Tryz.underlying66 ⟨rfl, rfl, rfl⟩ rfl (.inl ⟨rfl, rfl⟩) (.inr ⟨_, rfl, rfl, by decide, rfl⟩)
theorem td67 : TDOK Tryz.prog 67 ⟨.struct [(0, 66), (1, 66)], 2, 16, [.i .u64 0, .i .u64 0], some (.pair (.int .u64) (.int .u64)), none, false⟩ := tdok_of (info_of Tryz.type67) rfl ⟨_, Tryz.underlying67, rfl⟩ ⟨rfl, rfl, rfl⟩ rfl (.inl ⟨rfl, rfl⟩) (.inr ⟨_, rfl, rfl, by decide, rfl⟩)
theorem eqs68 : ∀ (x y : EK.ty (.pair (.int .u64) (.int .u64))) (w : World), (Op.equalIn 10000 68 (.agg (EK.vals (.pair (.int .u64) (.int .u64)) x).toArray) (.agg (EK.vals (.pair (.int .u64) (.int .u64)) y).toArray)).run Tryz.prog w = .ok (EK.eqb (.pair (.int .u64) (.int .u64)) x y) w := by
  intro x y w
  rw [run_equalIn_agg w 9999 68 _ _ (by rw [fo Tryz.underlying68]; exact Tryz.underlying68) Tryz.stoodInHeld68, fo Tryz.underlying68]
  simp only [EK.vals, List.cons_append, List.nil_append, EK.eqb]
  have p0 : ∀ (a0 a1 : Value), (part 66 #[a0, a1] 0).run Tryz.prog w = .ok a0 w := fun a0 a1 => part_run td66 [a0, a1] 0
  have p1 : ∀ (a0 a1 : Value), (part 66 #[a0, a1] 1).run Tryz.prog w = .ok a1 w := fun a0 a1 => part_run td66 [a0, a1] 1
  simp [Op.eqFields, p0, p1, run_equalIn_int w 9998 66 .u64 .u64 _ _ Tryz.underlying66]
  by_cases h1 : x.1 = y.1 <;> by_cases h2 : x.2 = y.2 <;> simp [h1, h2]

theorem td68 : TDOK Tryz.prog 68 ⟨.struct [(0, 66), (1, 66)], 2, 16, [.i .u64 0, .i .u64 0], some (.pair (.int .u64) (.int .u64)), none, true⟩ := tdok_of (info_of Tryz.type68) rfl ⟨_, Tryz.underlying68, rfl⟩ ⟨rfl, rfl, rfl⟩ rfl (.inl ⟨rfl, rfl⟩) (.inr ⟨_, rfl, rfl, by decide, rfl⟩) (fun _ k hk => by cases hk; exact ⟨Tryz.eqGuardType68, eqs68⟩)
theorem td69 : TDOK Tryz.prog 69 ⟨.func, 1, 8, [.nilf], none, none, false⟩ := tdok_of (info_of Tryz.type69) rfl ⟨_, _, _, Tryz.underlying69⟩ ⟨rfl, rfl, rfl⟩ rfl (.inl ⟨rfl, rfl⟩) (.inl rfl)
theorem td70 : TDOK Tryz.prog 70 ⟨.func, 1, 8, [.nilf], none, none, false⟩ := tdok_of (info_of Tryz.type70) rfl ⟨_, _, _, Tryz.underlying70⟩ ⟨rfl, rfl, rfl⟩ rfl (.inl ⟨rfl, rfl⟩) (.inl rfl)
theorem td71 : TDOK Tryz.prog 71 ⟨.func, 1, 8, [.nilf], none, none, false⟩ := tdok_of (info_of Tryz.type71) rfl ⟨_, _, _, Tryz.underlying71⟩ ⟨rfl, rfl, rfl⟩ rfl (.inl ⟨rfl, rfl⟩) (.inl rfl)
theorem td72 : TDOK Tryz.prog 72 ⟨.struct [(0, 9), (1, 3), (2, 5)], 3, 32, [.s ByteArray.empty, .i .i64 0, .i .u8 0], some (.pair .str (.pair (.int .i64) (.int .u8))), none, false⟩ := tdok_of (info_of Tryz.type72) rfl ⟨_, Tryz.underlying72, rfl⟩ ⟨rfl, rfl, rfl⟩ rfl (.inl ⟨rfl, rfl⟩) (.inr ⟨_, rfl, rfl, by decide, rfl⟩)
theorem td73 : TDOK Tryz.prog 73 ⟨.struct [(0, 9), (1, 3), (2, 5)], 3, 32, [.s ByteArray.empty, .i .i64 0, .i .u8 0], some (.pair .str (.pair (.int .i64) (.int .u8))), none, false⟩ := tdok_of (info_of Tryz.type73) rfl ⟨_, Tryz.underlying73, rfl⟩ ⟨rfl, rfl, rfl⟩ rfl (.inl ⟨rfl, rfl⟩) (.inr ⟨_, rfl, rfl, by decide, rfl⟩)
theorem td74 : TDOK Tryz.prog 74 ⟨.func, 1, 8, [.nilf], none, none, false⟩ := tdok_of (info_of Tryz.type74) rfl ⟨_, _, _, Tryz.underlying74⟩ ⟨rfl, rfl, rfl⟩ rfl (.inl ⟨rfl, rfl⟩) (.inl rfl)
theorem td75 : TDOK Tryz.prog 75 ⟨.func, 1, 8, [.nilf], none, none, false⟩ := tdok_of (info_of Tryz.type75) rfl ⟨_, _, _, Tryz.underlying75⟩ ⟨rfl, rfl, rfl⟩ rfl (.inl ⟨rfl, rfl⟩) (.inl rfl)
theorem td76 : TDOK Tryz.prog 76 ⟨.func, 1, 8, [.nilf], none, none, false⟩ := tdok_of (info_of Tryz.type76) rfl ⟨_, _, _, Tryz.underlying76⟩ ⟨rfl, rfl, rfl⟩ rfl (.inl ⟨rfl, rfl⟩) (.inl rfl)
theorem td77 : TDOK Tryz.prog 77 ⟨.func, 1, 8, [.nilf], none, none, false⟩ := tdok_of (info_of Tryz.type77) rfl ⟨_, _, _, Tryz.underlying77⟩ ⟨rfl, rfl, rfl⟩ rfl (.inl ⟨rfl, rfl⟩) (.inl rfl)
theorem td78 : TDOK Tryz.prog 78 ⟨.func, 1, 8, [.nilf], none, none, false⟩ := tdok_of (info_of Tryz.type78) rfl ⟨_, _, _, Tryz.underlying78⟩ ⟨rfl, rfl, rfl⟩ rfl (.inl ⟨rfl, rfl⟩) (.inl rfl)
theorem td79 : TDOK Tryz.prog 79 ⟨.func, 1, 8, [.nilf], none, none, false⟩ := tdok_of (info_of Tryz.type79) rfl ⟨_, _, _, Tryz.underlying79⟩ ⟨rfl, rfl, rfl⟩ rfl (.inl ⟨rfl, rfl⟩) (.inl rfl)
theorem td80 : TDOK Tryz.prog 80 ⟨.func, 1, 8, [.nilf], none, none, false⟩ := tdok_of (info_of Tryz.type80) rfl ⟨_, _, _, Tryz.underlying80⟩ ⟨rfl, rfl, rfl⟩ rfl (.inl ⟨rfl, rfl⟩) (.inl rfl)
theorem td81 : TDOK Tryz.prog 81 ⟨.func, 1, 8, [.nilf], none, none, false⟩ := tdok_of (info_of Tryz.type81) rfl ⟨_, _, _, Tryz.underlying81⟩ ⟨rfl, rfl, rfl⟩ rfl (.inl ⟨rfl, rfl⟩) (.inl rfl)
theorem td82 : TDOK Tryz.prog 82 ⟨.func, 1, 8, [.nilf], none, none, false⟩ := tdok_of (info_of Tryz.type82) rfl ⟨_, _, _, Tryz.underlying82⟩ ⟨rfl, rfl, rfl⟩ rfl (.inl ⟨rfl, rfl⟩) (.inl rfl)
theorem td83 : TDOK Tryz.prog 83 ⟨.func, 1, 8, [.nilf], none, none, false⟩ := tdok_of (info_of Tryz.type83) rfl ⟨_, _, _, Tryz.underlying83⟩ ⟨rfl, rfl, rfl⟩ rfl (.inl ⟨rfl, rfl⟩) (.inl rfl)
theorem td84 : TDOK Tryz.prog 84 ⟨.func, 1, 8, [.nilf], none, none, false⟩ := tdok_of (info_of Tryz.type84) rfl ⟨_, _, _, Tryz.underlying84⟩ ⟨rfl, rfl, rfl⟩ rfl (.inl ⟨rfl, rfl⟩) (.inl rfl)
theorem td85 : TDOK Tryz.prog 85 ⟨.func, 1, 8, [.nilf], none, none, false⟩ := tdok_of (info_of Tryz.type85) rfl ⟨_, _, _, Tryz.underlying85⟩ ⟨rfl, rfl, rfl⟩ rfl (.inl ⟨rfl, rfl⟩) (.inl rfl)
theorem td86 : TDOK Tryz.prog 86 ⟨.func, 1, 8, [.nilf], none, none, false⟩ := tdok_of (info_of Tryz.type86) rfl ⟨_, _, _, Tryz.underlying86⟩ ⟨rfl, rfl, rfl⟩ rfl (.inl ⟨rfl, rfl⟩) (.inl rfl)
theorem td87 : TDOK Tryz.prog 87 ⟨.func, 1, 8, [.nilf], none, none, false⟩ := tdok_of (info_of Tryz.type87) rfl ⟨_, _, _, Tryz.underlying87⟩ ⟨rfl, rfl, rfl⟩ rfl (.inl ⟨rfl, rfl⟩) (.inl rfl)
theorem td88 : TDOK Tryz.prog 88 ⟨.func, 1, 8, [.nilf], none, none, false⟩ := tdok_of (info_of Tryz.type88) rfl ⟨_, _, _, Tryz.underlying88⟩ ⟨rfl, rfl, rfl⟩ rfl (.inl ⟨rfl, rfl⟩) (.inl rfl)
theorem td89 : TDOK Tryz.prog 89 ⟨.func, 1, 8, [.nilf], none, none, false⟩ := tdok_of (info_of Tryz.type89) rfl ⟨_, _, _, Tryz.underlying89⟩ ⟨rfl, rfl, rfl⟩ rfl (.inl ⟨rfl, rfl⟩) (.inl rfl)
theorem td90 : TDOK Tryz.prog 90 ⟨.func, 1, 8, [.nilf], none, none, false⟩ := tdok_of (info_of Tryz.type90) rfl ⟨_, _, _, Tryz.underlying90⟩ ⟨rfl, rfl, rfl⟩ rfl (.inl ⟨rfl, rfl⟩) (.inl rfl)
theorem td91 : TDOK Tryz.prog 91 ⟨.int .u64, 1, 8, [.i .u64 0], some (.int .u64), none, false⟩ := tdok_of (info_of Tryz.type91) rfl Tryz.underlying91 ⟨rfl, rfl, rfl⟩ rfl (.inl ⟨rfl, rfl⟩) (.inr ⟨_, rfl, rfl, by decide, rfl⟩)
theorem td92 : TDOK Tryz.prog 92 ⟨.func, 1, 8, [.nilf], none, none, false⟩ := tdok_of (info_of Tryz.type92) rfl ⟨_, _, _, Tryz.underlying92⟩ ⟨rfl, rfl, rfl⟩ rfl (.inl ⟨rfl, rfl⟩) (.inl rfl)
theorem td93 : TDOK Tryz.prog 93 ⟨.func, 1, 8, [.nilf], none, none, false⟩ := tdok_of (info_of Tryz.type93) rfl ⟨_, _, _, Tryz.underlying93⟩ ⟨rfl, rfl, rfl⟩ rfl (.inl ⟨rfl, rfl⟩) (.inl rfl)
theorem td94 : TDOK Tryz.prog 94 ⟨.func, 1, 8, [.nilf], none, none, false⟩ := tdok_of (info_of Tryz.type94) rfl ⟨_, _, _, Tryz.underlying94⟩ ⟨rfl, rfl, rfl⟩ rfl (.inl ⟨rfl, rfl⟩) (.inl rfl)
theorem td95 : TDOK Tryz.prog 95 ⟨.func, 1, 8, [.nilf], none, none, false⟩ := tdok_of (info_of Tryz.type95) rfl ⟨_, _, _, Tryz.underlying95⟩ ⟨rfl, rfl, rfl⟩ rfl (.inl ⟨rfl, rfl⟩) (.inl rfl)
theorem td96 : TDOK Tryz.prog 96 ⟨.func, 1, 8, [.nilf], none, none, false⟩ := tdok_of (info_of Tryz.type96) rfl ⟨_, _, _, Tryz.underlying96⟩ ⟨rfl, rfl, rfl⟩ rfl (.inl ⟨rfl, rfl⟩) (.inl rfl)
theorem td97 : TDOK Tryz.prog 97 ⟨.func, 1, 8, [.nilf], none, none, false⟩ := tdok_of (info_of Tryz.type97) rfl ⟨_, _, _, Tryz.underlying97⟩ ⟨rfl, rfl, rfl⟩ rfl (.inl ⟨rfl, rfl⟩) (.inl rfl)
theorem td98 : TDOK Tryz.prog 98 ⟨.func, 1, 8, [.nilf], none, none, false⟩ := tdok_of (info_of Tryz.type98) rfl ⟨_, _, _, Tryz.underlying98⟩ ⟨rfl, rfl, rfl⟩ rfl (.inl ⟨rfl, rfl⟩) (.inl rfl)
theorem td99 : TDOK Tryz.prog 99 ⟨.func, 1, 8, [.nilf], none, none, false⟩ := tdok_of (info_of Tryz.type99) rfl ⟨_, _, _, Tryz.underlying99⟩ ⟨rfl, rfl, rfl⟩ rfl (.inl ⟨rfl, rfl⟩) (.inl rfl)
theorem td100 : TDOK Tryz.prog 100 ⟨.func, 1, 8, [.nilf], none, none, false⟩ := tdok_of (info_of Tryz.type100) rfl ⟨_, _, _, Tryz.underlying100⟩ ⟨rfl, rfl, rfl⟩ rfl (.inl ⟨rfl, rfl⟩) (.inl rfl)
theorem td101 : TDOK Tryz.prog 101 ⟨.arr 2 3, 2, 16, [.i .i64 0, .i .i64 0], some (.pair (.int .i64) (.int .i64)), none, false⟩ := tdok_of (info_of Tryz.type101) rfl Tryz.underlying101 ⟨rfl, rfl, rfl⟩ rfl (.inl ⟨rfl, rfl⟩) (.inr ⟨_, rfl, rfl, by decide, rfl⟩)
theorem td102 : TDOK Tryz.prog 102 ⟨.slice 101, 1, 24, [.nils], none, none, false⟩ := tdok_of (info_of Tryz.type102) rfl Tryz.underlying102 ⟨rfl, rfl, rfl⟩ rfl (.inl ⟨rfl, rfl⟩) (.inl rfl)
theorem td103 : TDOK Tryz.prog 103 ⟨.func, 1, 8, [.nilf], none, none, false⟩ := tdok_of (info_of Tryz.type103) rfl ⟨_, _, _, Tryz.underlying103⟩ ⟨rfl, rfl, rfl⟩ rfl (.inl ⟨rfl, rfl⟩) (.inl rfl)
theorem td104 : TDOK Tryz.prog 104 ⟨.func, 1, 8, [.nilf], none, none, false⟩ := tdok_of (info_of Tryz.type104) rfl ⟨_, _, _, Tryz.underlying104⟩ ⟨rfl, rfl, rfl⟩ rfl (.inl ⟨rfl, rfl⟩) (.inl rfl)
theorem td105 : TDOK Tryz.prog 105 ⟨.int .i64, 1, 8, [.i .i64 0], some (.int .i64), none, false⟩ := tdok_of (info_of Tryz.type105) rfl Tryz.underlying105 ⟨rfl, rfl, rfl⟩ rfl (.inl ⟨rfl, rfl⟩) (.inr ⟨_, rfl, rfl, by decide, rfl⟩)
theorem td107 : TDOK Tryz.prog 107 ⟨.func, 1, 8, [.nilf], none, none, false⟩ := tdok_of (info_of Tryz.type107) rfl ⟨_, _, _, Tryz.underlying107⟩ ⟨rfl, rfl, rfl⟩ rfl (.inl ⟨rfl, rfl⟩) (.inl rfl)
theorem td108 : TDOK Tryz.prog 108 ⟨.func, 1, 8, [.nilf], none, none, false⟩ := tdok_of (info_of Tryz.type108) rfl ⟨_, _, _, Tryz.underlying108⟩ ⟨rfl, rfl, rfl⟩ rfl (.inl ⟨rfl, rfl⟩) (.inl rfl)
theorem td109 : TDOK Tryz.prog 109 ⟨.func, 1, 8, [.nilf], none, none, false⟩ := tdok_of (info_of Tryz.type109) rfl ⟨_, _, _, Tryz.underlying109⟩ ⟨rfl, rfl, rfl⟩ rfl (.inl ⟨rfl, rfl⟩) (.inl rfl)
theorem td111 : TDOK Tryz.prog 111 ⟨.func, 1, 8, [.nilf], none, none, false⟩ := tdok_of (info_of Tryz.type111) rfl ⟨_, _, _, Tryz.underlying111⟩ ⟨rfl, rfl, rfl⟩ rfl (.inl ⟨rfl, rfl⟩) (.inl rfl)
theorem td112 : TDOK Tryz.prog 112 ⟨.func, 1, 8, [.nilf], none, none, false⟩ := tdok_of (info_of Tryz.type112) rfl ⟨_, _, _, Tryz.underlying112⟩ ⟨rfl, rfl, rfl⟩ rfl (.inl ⟨rfl, rfl⟩) (.inl rfl)
theorem td113 : TDOK Tryz.prog 113 ⟨.int .u32, 1, 4, [.i .u32 0], some (.int .u32), none, false⟩ := tdok_of (info_of Tryz.type113) rfl Tryz.underlying113 ⟨rfl, rfl, rfl⟩ rfl (.inl ⟨rfl, rfl⟩) (.inr ⟨_, rfl, rfl, by decide, rfl⟩)
theorem td114 : TDOK Tryz.prog 114 ⟨.func, 1, 8, [.nilf], none, none, false⟩ := tdok_of (info_of Tryz.type114) rfl ⟨_, _, _, Tryz.underlying114⟩ ⟨rfl, rfl, rfl⟩ rfl (.inl ⟨rfl, rfl⟩) (.inl rfl)
theorem td116 : TDOK Tryz.prog 116 ⟨.func, 1, 8, [.nilf], none, none, false⟩ := tdok_of (info_of Tryz.type116) rfl ⟨_, _, _, Tryz.underlying116⟩ ⟨rfl, rfl, rfl⟩ rfl (.inl ⟨rfl, rfl⟩) (.inl rfl)
theorem td117 : TDOK Tryz.prog 117 ⟨.struct [(0, 3), (1, 3)], 2, 16, [.i .i64 0, .i .i64 0], some (.pair (.int .i64) (.int .i64)), none, false⟩ := tdok_of (info_of Tryz.type117) rfl ⟨_, Tryz.underlying117, rfl⟩ ⟨rfl, rfl, rfl⟩ rfl (.inl ⟨rfl, rfl⟩) (.inr ⟨_, rfl, rfl, by decide, rfl⟩)
theorem eqs118 : ∀ (x y : EK.ty (.pair (.int .i64) (.int .i64))) (w : World), (Op.equalIn 10000 118 (.agg (EK.vals (.pair (.int .i64) (.int .i64)) x).toArray) (.agg (EK.vals (.pair (.int .i64) (.int .i64)) y).toArray)).run Tryz.prog w = .ok (EK.eqb (.pair (.int .i64) (.int .i64)) x y) w := by
  intro x y w
  rw [run_equalIn_agg w 9999 118 _ _ (by rw [fo Tryz.underlying118]; exact Tryz.underlying118) Tryz.stoodInHeld118, fo Tryz.underlying118]
  simp only [EK.vals, List.cons_append, List.nil_append, EK.eqb]
  have p0 : ∀ (a0 a1 : Value), (part 3 #[a0, a1] 0).run Tryz.prog w = .ok a0 w := fun a0 a1 => part_run td3 [a0, a1] 0
  have p1 : ∀ (a0 a1 : Value), (part 3 #[a0, a1] 1).run Tryz.prog w = .ok a1 w := fun a0 a1 => part_run td3 [a0, a1] 1
  simp [Op.eqFields, p0, p1, run_equalIn_int w 9998 3 .i64 .i64 _ _ Tryz.underlying3]
  by_cases h1 : x.1 = y.1 <;> by_cases h2 : x.2 = y.2 <;> simp [h1, h2]

theorem td118 : TDOK Tryz.prog 118 ⟨.struct [(0, 3), (1, 3)], 2, 16, [.i .i64 0, .i .i64 0], some (.pair (.int .i64) (.int .i64)), none, true⟩ := tdok_of (info_of Tryz.type118) rfl ⟨_, Tryz.underlying118, rfl⟩ ⟨rfl, rfl, rfl⟩ rfl (.inl ⟨rfl, rfl⟩) (.inr ⟨_, rfl, rfl, by decide, rfl⟩) (fun _ k hk => by cases hk; exact ⟨Tryz.eqGuardType118, eqs118⟩)
theorem td120 : TDOK Tryz.prog 120 ⟨.func, 1, 8, [.nilf], none, none, false⟩ := tdok_of (info_of Tryz.type120) rfl ⟨_, _, _, Tryz.underlying120⟩ ⟨rfl, rfl, rfl⟩ rfl (.inl ⟨rfl, rfl⟩) (.inl rfl)
theorem td121 : TDOK Tryz.prog 121 ⟨.int .u64, 1, 8, [.i .u64 0], some (.int .u64), none, false⟩ := tdok_of (info_of Tryz.type121) rfl Tryz.underlying121 ⟨rfl, rfl, rfl⟩ rfl (.inl ⟨rfl, rfl⟩) (.inr ⟨_, rfl, rfl, by decide, rfl⟩)
theorem td122 : TDOK Tryz.prog 122 ⟨.func, 1, 8, [.nilf], none, none, false⟩ := tdok_of (info_of Tryz.type122) rfl ⟨_, _, _, Tryz.underlying122⟩ ⟨rfl, rfl, rfl⟩ rfl (.inl ⟨rfl, rfl⟩) (.inl rfl)
theorem td123 : TDOK Tryz.prog 123 ⟨.func, 1, 8, [.nilf], none, none, false⟩ := tdok_of (info_of Tryz.type123) rfl ⟨_, _, _, Tryz.underlying123⟩ ⟨rfl, rfl, rfl⟩ rfl (.inl ⟨rfl, rfl⟩) (.inl rfl)
theorem td124 : TDOK Tryz.prog 124 ⟨.func, 1, 8, [.nilf], none, none, false⟩ := tdok_of (info_of Tryz.type124) rfl ⟨_, _, _, Tryz.underlying124⟩ ⟨rfl, rfl, rfl⟩ rfl (.inl ⟨rfl, rfl⟩) (.inl rfl)
theorem td125 : TDOK Tryz.prog 125 ⟨.ptr 3, 1, 8, [.nilp], none, none, false⟩ := tdok_of (info_of Tryz.type125) rfl Tryz.underlying125 ⟨rfl, rfl, rfl⟩ rfl (.inl ⟨rfl, rfl⟩) (.inl rfl)
theorem td126 : TDOK Tryz.prog 126 ⟨.func, 1, 8, [.nilf], none, none, false⟩ := tdok_of (info_of Tryz.type126) rfl ⟨_, _, _, Tryz.underlying126⟩ ⟨rfl, rfl, rfl⟩ rfl (.inl ⟨rfl, rfl⟩) (.inl rfl)
theorem td127 : TDOK Tryz.prog 127 ⟨.arr 64 5, 64, 64, [], none, some ((.int .u8), 64), false⟩ := tdok_of (info_of Tryz.type127) rfl Tryz.underlying127 ⟨rfl, rfl, rfl⟩ rfl (.inr ⟨_, _, rfl, rfl, by decide, by decide⟩) (.inl rfl)
theorem td128 : TDOK Tryz.prog 128 ⟨.func, 1, 8, [.nilf], none, none, false⟩ := tdok_of (info_of Tryz.type128) rfl ⟨_, _, _, Tryz.underlying128⟩ ⟨rfl, rfl, rfl⟩ rfl (.inl ⟨rfl, rfl⟩) (.inl rfl)
theorem td129 : TDOK Tryz.prog 129 ⟨.arr 4 128, 4, 32, [.nilf, .nilf, .nilf, .nilf], none, none, false⟩ := tdok_of (info_of Tryz.type129) rfl Tryz.underlying129 ⟨rfl, rfl, rfl⟩ rfl (.inl ⟨rfl, rfl⟩) (.inl rfl)
theorem td130 : TDOK Tryz.prog 130 ⟨.ptr 121, 1, 8, [.nilp], none, none, false⟩ := tdok_of (info_of Tryz.type130) rfl Tryz.underlying130 ⟨rfl, rfl, rfl⟩ rfl (.inl ⟨rfl, rfl⟩) (.inl rfl)
theorem td132 : TDOK Tryz.prog 132 ⟨.func, 1, 8, [.nilf], none, none, false⟩ := tdok_of (info_of Tryz.type132) rfl ⟨_, _, _, Tryz.underlying132⟩ ⟨rfl, rfl, rfl⟩ rfl (.inl ⟨rfl, rfl⟩) (.inl rfl)
theorem td133 : TDOK Tryz.prog 133 ⟨.func, 1, 8, [.nilf], none, none, false⟩ := tdok_of (info_of Tryz.type133) rfl ⟨_, _, _, Tryz.underlying133⟩ ⟨rfl, rfl, rfl⟩ rfl (.inl ⟨rfl, rfl⟩) (.inl rfl)
theorem td134 : TDOK Tryz.prog 134 ⟨.struct [(0, 17), (1, 17), (2, 17), (3, 9)], 4, 40, [.nilp, .nilp, .nilp, .s ByteArray.empty], none, none, false⟩ := tdok_of (info_of Tryz.type134) rfl ⟨_, Tryz.underlying134, rfl⟩ ⟨rfl, rfl, rfl⟩ rfl (.inl ⟨rfl, rfl⟩) (.inl rfl)
theorem td135 : TDOK Tryz.prog 135 ⟨.struct [(0, 17), (1, 17), (2, 17), (3, 9)], 4, 40, [.nilp, .nilp, .nilp, .s ByteArray.empty], none, none, false⟩ := tdok_of (info_of Tryz.type135) rfl ⟨_, Tryz.underlying135, rfl⟩ ⟨rfl, rfl, rfl⟩ rfl (.inl ⟨rfl, rfl⟩) (.inl rfl)
theorem td136 : TDOK Tryz.prog 136 ⟨.arr 0 16, 0, 0, [], none, none, false⟩ := tdok_of (info_of Tryz.type136) rfl Tryz.underlying136 ⟨rfl, rfl, rfl⟩ rfl (.inl ⟨rfl, rfl⟩) (.inl rfl)
theorem td137 : TDOK Tryz.prog 137 ⟨.struct [(0, 136)], 0, 0, [], none, none, false⟩ := tdok_of (info_of Tryz.type137) rfl ⟨_, Tryz.underlying137, rfl⟩ ⟨rfl, rfl, rfl⟩ rfl (.inl ⟨rfl, rfl⟩) (.inl rfl)
theorem td138 : TDOK Tryz.prog 138 ⟨.struct [(0, 136)], 0, 0, [], none, none, false⟩ := tdok_of (info_of Tryz.type138) rfl ⟨_, Tryz.underlying138, rfl⟩ ⟨rfl, rfl, rfl⟩ rfl (.inl ⟨rfl, rfl⟩) (.inl rfl)
theorem td139 : TDOK Tryz.prog 139 ⟨.int .u8, 1, 1, [.i .u8 0], some (.int .u8), none, false⟩ := tdok_of (info_of Tryz.type139) rfl Tryz.underlying139 ⟨rfl, rfl, rfl⟩ rfl (.inl ⟨rfl, rfl⟩) (.inr ⟨_, rfl, rfl, by decide, rfl⟩)
theorem td140 : TDOK Tryz.prog 140 ⟨.int .u8, 1, 1, [.i .u8 0], some (.int .u8), none, false⟩ := tdok_of (info_of Tryz.type140) rfl Tryz.underlying140 ⟨rfl, rfl, rfl⟩ rfl (.inl ⟨rfl, rfl⟩) (.inr ⟨_, rfl, rfl, by decide, rfl⟩)
theorem td141 : TDOK Tryz.prog 141 ⟨.func, 1, 8, [.nilf], none, none, false⟩ := tdok_of (info_of Tryz.type141) rfl ⟨_, _, _, Tryz.underlying141⟩ ⟨rfl, rfl, rfl⟩ rfl (.inl ⟨rfl, rfl⟩) (.inl rfl)
theorem td142 : TDOK Tryz.prog 142 ⟨.ptr 5, 1, 8, [.nilp], none, none, false⟩ := tdok_of (info_of Tryz.type142) rfl Tryz.underlying142 ⟨rfl, rfl, rfl⟩ rfl (.inl ⟨rfl, rfl⟩) (.inl rfl)
theorem td143 : TDOK Tryz.prog 143 ⟨.int .i32, 1, 4, [.i .i32 0], some (.int .i32), none, false⟩ := tdok_of (info_of Tryz.type143) rfl Tryz.underlying143 ⟨rfl, rfl, rfl⟩ rfl (.inl ⟨rfl, rfl⟩) (.inr ⟨_, rfl, rfl, by decide, rfl⟩)
theorem td144 : TDOK Tryz.prog 144 ⟨.int .i32, 1, 4, [.i .i32 0], some (.int .i32), none, false⟩ := tdok_of (info_of Tryz.type144) rfl Tryz.underlying144 ⟨rfl, rfl, rfl⟩ rfl (.inl ⟨rfl, rfl⟩) (.inr ⟨_, rfl, rfl, by decide, rfl⟩)
theorem td145 : TDOK Tryz.prog 145 ⟨.struct [(0, 12), (1, 12), (2, 113), (3, 139), (4, 5), (5, 5), (6, 140), (7, 141), (8, 142), (9, 143), (10, 144)], 11, 48, [.i .u64 0, .i .u64 0, .i .u32 0, .i .u8 0, .i .u8 0, .i .u8 0, .i .u8 0, .nilf, .nilp, .i .i32 0, .i .i32 0], none, none, false⟩ := tdok_of (info_of Tryz.type145) rfl ⟨_, Tryz.underlying145, rfl⟩ ⟨rfl, rfl, rfl⟩ rfl (.inl ⟨rfl, rfl⟩) (.inl rfl)
theorem td146 : TDOK Tryz.prog 146 ⟨.struct [(0, 12), (1, 12), (2, 113), (3, 139), (4, 5), (5, 5), (6, 140), (7, 141), (8, 142), (9, 143), (10, 144)], 11, 48, [.i .u64 0, .i .u64 0, .i .u32 0, .i .u8 0, .i .u8 0, .i .u8 0, .i .u8 0, .nilf, .nilp, .i .i32 0, .i .i32 0], none, none, false⟩ := tdok_of (info_of Tryz.type146) rfl ⟨_, Tryz.underlying146, rfl⟩ ⟨rfl, rfl, rfl⟩ rfl (.inl ⟨rfl, rfl⟩) (.inl rfl)
def tds : List (Nat × TD) := [
  (1, ⟨.func, 1, 8, [.nilf], none, none, false⟩),
  (2, ⟨.int .i64, 1, 8, [.i .i64 0], some (.int .i64), none, false⟩),
  (3, ⟨.int .i64, 1, 8, [.i .i64 0], some (.int .i64), none, false⟩),
  (4, ⟨.bool, 1, 1, [.b false], some .bool, none, false⟩),
  (5, ⟨.int .u8, 1, 1, [.i .u8 0], some (.int .u8), none, false⟩),
  (6, ⟨.int .u8, 1, 1, [.i .u8 0], some (.int .u8), none, false⟩),
  (7, ⟨.struct [(0, 2), (1, 3), (2, 4), (3, 6)], 4, 24, [.i .i64 0, .i .i64 0, .b false, .i .u8 0], some (.pair (.int .i64) (.pair (.int .i64) (.pair .bool (.int .u8)))), none, false⟩),
  (8, ⟨.struct [(0, 2), (1, 3), (2, 4), (3, 6)], 4, 24, [.i .i64 0, .i .i64 0, .b false, .i .u8 0], some (.pair (.int .i64) (.pair (.int .i64) (.pair .bool (.int .u8)))), none, false⟩),
  (9, ⟨.str, 1, 16, [.s ByteArray.empty], some .str, none, false⟩),
  (10, ⟨.str, 1, 16, [.s ByteArray.empty], some .str, none, false⟩),
  (11, ⟨.str, 1, 16, [.s ByteArray.empty], some .str, none, false⟩),
  (12, ⟨.int .u64, 1, 8, [.i .u64 0], some (.int .u64), none, false⟩),
  (13, ⟨.struct [(0, 9), (1, 12)], 2, 24, [.s ByteArray.empty, .i .u64 0], some (.pair .str (.int .u64)), none, false⟩),
  (14, ⟨.struct [(0, 9), (1, 12)], 2, 24, [.s ByteArray.empty, .i .u64 0], some (.pair .str (.int .u64)), none, false⟩),
  (15, ⟨.ptr 135, 1, 8, [.nilp], none, none, false⟩),
  (16, ⟨.ptr 138, 1, 8, [.nilp], none, none, false⟩),
  (17, ⟨.ptr 146, 1, 8, [.nilp], none, none, false⟩),
  (18, ⟨.struct [(0, 17)], 1, 8, [.nilp], none, none, false⟩),
  (19, ⟨.struct [(0, 17)], 1, 8, [.nilp], none, none, false⟩),
  (20, ⟨.iface, 1, 16, [.nili], none, none, false⟩),
  (21, ⟨.int .i32, 1, 4, [.i .i32 0], some (.int .i32), none, false⟩),
  (22, ⟨.struct [(0, 3), (1, 3)], 2, 16, [.i .i64 0, .i .i64 0], some (.pair (.int .i64) (.int .i64)), none, false⟩),
  (23, ⟨.struct [(0, 3), (1, 3)], 2, 16, [.i .i64 0, .i .i64 0], some (.pair (.int .i64) (.int .i64)), none, true⟩),
  (24, ⟨.func, 1, 8, [.nilf], none, none, false⟩),
  (25, ⟨.func, 1, 8, [.nilf], none, none, false⟩),
  (26, ⟨.slice 23, 1, 24, [.nils], none, none, false⟩),
  (27, ⟨.func, 1, 8, [.nilf], none, none, false⟩),
  (28, ⟨.func, 1, 8, [.nilf], none, none, false⟩),
  (29, ⟨.func, 1, 8, [.nilf], none, none, false⟩),
  (30, ⟨.struct [(0, 9), (1, 3), (2, 3), (3, 3)], 4, 40, [.s ByteArray.empty, .i .i64 0, .i .i64 0, .i .i64 0], some (.pair .str (.pair (.int .i64) (.pair (.int .i64) (.int .i64)))), none, false⟩),
  (31, ⟨.struct [(0, 9), (1, 3), (2, 3), (3, 3)], 4, 40, [.s ByteArray.empty, .i .i64 0, .i .i64 0, .i .i64 0], some (.pair .str (.pair (.int .i64) (.pair (.int .i64) (.int .i64)))), none, false⟩),
  (32, ⟨.func, 1, 8, [.nilf], none, none, false⟩),
  (33, ⟨.func, 1, 8, [.nilf], none, none, false⟩),
  (34, ⟨.func, 1, 8, [.nilf], none, none, false⟩),
  (35, ⟨.int .i64, 1, 8, [.i .i64 0], some (.int .i64), none, false⟩),
  (37, ⟨.func, 1, 8, [.nilf], none, none, false⟩),
  (38, ⟨.func, 1, 8, [.nilf], none, none, false⟩),
  (39, ⟨.slice 3, 1, 24, [.nils], none, none, false⟩),
  (40, ⟨.func, 1, 8, [.nilf], none, none, false⟩),
  (41, ⟨.func, 1, 8, [.nilf], none, none, false⟩),
  (42, ⟨.func, 1, 8, [.nilf], none, none, false⟩),
  (43, ⟨.func, 1, 8, [.nilf], none, none, false⟩),
  (44, ⟨.func, 1, 8, [.nilf], none, none, false⟩),
  (45, ⟨.func, 1, 8, [.nilf], none, none, false⟩),
  (46, ⟨.func, 1, 8, [.nilf], none, none, false⟩),
  (47, ⟨.func, 1, 8, [.nilf], none, none, false⟩),
  (48, ⟨.func, 1, 8, [.nilf], none, none, false⟩),
  (49, ⟨.func, 1, 8, [.nilf], none, none, false⟩),
  (50, ⟨.func, 1, 8, [.nilf], none, none, false⟩),
  (51, ⟨.func, 1, 8, [.nilf], none, none, false⟩),
  (52, ⟨.func, 1, 8, [.nilf], none, none, false⟩),
  (53, ⟨.func, 1, 8, [.nilf], none, none, false⟩),
  (54, ⟨.func, 1, 8, [.nilf], none, none, false⟩),
  (55, ⟨.func, 1, 8, [.nilf], none, none, false⟩),
  (56, ⟨.func, 1, 8, [.nilf], none, none, false⟩),
  (57, ⟨.slice 5, 1, 24, [.nils], none, none, false⟩),
  (58, ⟨.func, 1, 8, [.nilf], none, none, false⟩),
  (59, ⟨.func, 1, 8, [.nilf], none, none, false⟩),
  (60, ⟨.func, 1, 8, [.nilf], none, none, false⟩),
  (61, ⟨.func, 1, 8, [.nilf], none, none, false⟩),
  (62, ⟨.func, 1, 8, [.nilf], none, none, false⟩),
  (63, ⟨.func, 1, 8, [.nilf], none, none, false⟩),
  (64, ⟨.func, 1, 8, [.nilf], none, none, false⟩),
  (65, ⟨.func, 1, 8, [.nilf], none, none, false⟩),
  (66, ⟨.int .u64, 1, 8, [.i .u64 0], some (.int .u64), none, false⟩),
  (67, ⟨.struct [(0, 66), (1, 66)], 2, 16, [.i .u64 0, .i .u64 0], some (.pair (.int .u64) (.int .u64)), none, false⟩),
  (68, ⟨.struct [(0, 66), (1, 66)], 2, 16, [.i .u64 0, .i .u64 0], some (.pair (.int .u64) (.int .u64)), none, true⟩),
  (69, ⟨.func, 1, 8, [.nilf], none, none, false⟩),
  (70, ⟨.func, 1, 8, [.nilf], none, none, false⟩),
  (71, ⟨.func, 1, 8, [.nilf], none, none, false⟩),
  (72, ⟨.struct [(0, 9), (1, 3), (2, 5)], 3, 32, [.s ByteArray.empty, .i .i64 0, .i .u8 0], some (.pair .str (.pair (.int .i64) (.int .u8))), none, false⟩),
  (73, ⟨.struct [(0, 9), (1, 3), (2, 5)], 3, 32, [.s ByteArray.empty, .i .i64 0, .i .u8 0], some (.pair .str (.pair (.int .i64) (.int .u8))), none, false⟩),
  (74, ⟨.func, 1, 8, [.nilf], none, none, false⟩),
  (75, ⟨.func, 1, 8, [.nilf], none, none, false⟩),
  (76, ⟨.func, 1, 8, [.nilf], none, none, false⟩),
  (77, ⟨.func, 1, 8, [.nilf], none, none, false⟩),
  (78, ⟨.func, 1, 8, [.nilf], none, none, false⟩),
  (79, ⟨.func, 1, 8, [.nilf], none, none, false⟩),
  (80, ⟨.func, 1, 8, [.nilf], none, none, false⟩),
  (81, ⟨.func, 1, 8, [.nilf], none, none, false⟩),
  (82, ⟨.func, 1, 8, [.nilf], none, none, false⟩),
  (83, ⟨.func, 1, 8, [.nilf], none, none, false⟩),
  (84, ⟨.func, 1, 8, [.nilf], none, none, false⟩),
  (85, ⟨.func, 1, 8, [.nilf], none, none, false⟩),
  (86, ⟨.func, 1, 8, [.nilf], none, none, false⟩),
  (87, ⟨.func, 1, 8, [.nilf], none, none, false⟩),
  (88, ⟨.func, 1, 8, [.nilf], none, none, false⟩),
  (89, ⟨.func, 1, 8, [.nilf], none, none, false⟩),
  (90, ⟨.func, 1, 8, [.nilf], none, none, false⟩),
  (91, ⟨.int .u64, 1, 8, [.i .u64 0], some (.int .u64), none, false⟩),
  (92, ⟨.func, 1, 8, [.nilf], none, none, false⟩),
  (93, ⟨.func, 1, 8, [.nilf], none, none, false⟩),
  (94, ⟨.func, 1, 8, [.nilf], none, none, false⟩),
  (95, ⟨.func, 1, 8, [.nilf], none, none, false⟩),
  (96, ⟨.func, 1, 8, [.nilf], none, none, false⟩),
  (97, ⟨.func, 1, 8, [.nilf], none, none, false⟩),
  (98, ⟨.func, 1, 8, [.nilf], none, none, false⟩),
  (99, ⟨.func, 1, 8, [.nilf], none, none, false⟩),
  (100, ⟨.func, 1, 8, [.nilf], none, none, false⟩),
  (101, ⟨.arr 2 3, 2, 16, [.i .i64 0, .i .i64 0], some (.pair (.int .i64) (.int .i64)), none, false⟩),
  (102, ⟨.slice 101, 1, 24, [.nils], none, none, false⟩),
  (103, ⟨.func, 1, 8, [.nilf], none, none, false⟩),
  (104, ⟨.func, 1, 8, [.nilf], none, none, false⟩),
  (105, ⟨.int .i64, 1, 8, [.i .i64 0], some (.int .i64), none, false⟩),
  (107, ⟨.func, 1, 8, [.nilf], none, none, false⟩),
  (108, ⟨.func, 1, 8, [.nilf], none, none, false⟩),
  (109, ⟨.func, 1, 8, [.nilf], none, none, false⟩),
  (111, ⟨.func, 1, 8, [.nilf], none, none, false⟩),
  (112, ⟨.func, 1, 8, [.nilf], none, none, false⟩),
  (113, ⟨.int .u32, 1, 4, [.i .u32 0], some (.int .u32), none, false⟩),
  (114, ⟨.func, 1, 8, [.nilf], none, none, false⟩),
  (116, ⟨.func, 1, 8, [.nilf], none, none, false⟩),
  (117, ⟨.struct [(0, 3), (1, 3)], 2, 16, [.i .i64 0, .i .i64 0], some (.pair (.int .i64) (.int .i64)), none, false⟩),
  (118, ⟨.struct [(0, 3), (1, 3)], 2, 16, [.i .i64 0, .i .i64 0], some (.pair (.int .i64) (.int .i64)), none, true⟩),
  (120, ⟨.func, 1, 8, [.nilf], none, none, false⟩),
  (121, ⟨.int .u64, 1, 8, [.i .u64 0], some (.int .u64), none, false⟩),
  (122, ⟨.func, 1, 8, [.nilf], none, none, false⟩),
  (123, ⟨.func, 1, 8, [.nilf], none, none, false⟩),
  (124, ⟨.func, 1, 8, [.nilf], none, none, false⟩),
  (125, ⟨.ptr 3, 1, 8, [.nilp], none, none, false⟩),
  (126, ⟨.func, 1, 8, [.nilf], none, none, false⟩),
  (127, ⟨.arr 64 5, 64, 64, [], none, some ((.int .u8), 64), false⟩),
  (128, ⟨.func, 1, 8, [.nilf], none, none, false⟩),
  (129, ⟨.arr 4 128, 4, 32, [.nilf, .nilf, .nilf, .nilf], none, none, false⟩),
  (130, ⟨.ptr 121, 1, 8, [.nilp], none, none, false⟩),
  (132, ⟨.func, 1, 8, [.nilf], none, none, false⟩),
  (133, ⟨.func, 1, 8, [.nilf], none, none, false⟩),
  (134, ⟨.struct [(0, 17), (1, 17), (2, 17), (3, 9)], 4, 40, [.nilp, .nilp, .nilp, .s ByteArray.empty], none, none, false⟩),
  (135, ⟨.struct [(0, 17), (1, 17), (2, 17), (3, 9)], 4, 40, [.nilp, .nilp, .nilp, .s ByteArray.empty], none, none, false⟩),
  (136, ⟨.arr 0 16, 0, 0, [], none, none, false⟩),
  (137, ⟨.struct [(0, 136)], 0, 0, [], none, none, false⟩),
  (138, ⟨.struct [(0, 136)], 0, 0, [], none, none, false⟩),
  (139, ⟨.int .u8, 1, 1, [.i .u8 0], some (.int .u8), none, false⟩),
  (140, ⟨.int .u8, 1, 1, [.i .u8 0], some (.int .u8), none, false⟩),
  (141, ⟨.func, 1, 8, [.nilf], none, none, false⟩),
  (142, ⟨.ptr 5, 1, 8, [.nilp], none, none, false⟩),
  (143, ⟨.int .i32, 1, 4, [.i .i32 0], some (.int .i32), none, false⟩),
  (144, ⟨.int .i32, 1, 4, [.i .i32 0], some (.int .i32), none, false⟩),
  (145, ⟨.struct [(0, 12), (1, 12), (2, 113), (3, 139), (4, 5), (5, 5), (6, 140), (7, 141), (8, 142), (9, 143), (10, 144)], 11, 48, [.i .u64 0, .i .u64 0, .i .u32 0, .i .u8 0, .i .u8 0, .i .u8 0, .i .u8 0, .nilf, .nilp, .i .i32 0, .i .i32 0], none, none, false⟩),
  (146, ⟨.struct [(0, 12), (1, 12), (2, 113), (3, 139), (4, 5), (5, 5), (6, 140), (7, 141), (8, 142), (9, 143), (10, 144)], 11, 48, [.i .u64 0, .i .u64 0, .i .u32 0, .i .u8 0, .i .u8 0, .i .u8 0, .i .u8 0, .nilf, .nilp, .i .i32 0, .i .i32 0], none, none, false⟩)]
abbrev TT : TypeId → Option TD := tabT tds
theorem tt_ok : TTOK Tryz.prog TT := tabT_ok tds (by
  intro p hp
  simp only [tds, List.mem_cons, List.not_mem_nil, or_false] at hp
  rcases hp with rfl | rfl | rfl | rfl | rfl | rfl | rfl | rfl | rfl | rfl | rfl | rfl | rfl | rfl | rfl | rfl | rfl | rfl | rfl | rfl | rfl | rfl | rfl | rfl | rfl | rfl | rfl | rfl | rfl | rfl | rfl | rfl | rfl | rfl | rfl | rfl | rfl | rfl | rfl | rfl | rfl | rfl | rfl | rfl | rfl | rfl | rfl | rfl | rfl | rfl | rfl | rfl | rfl | rfl | rfl | rfl | rfl | rfl | rfl | rfl | rfl | rfl | rfl | rfl | rfl | rfl | rfl | rfl | rfl | rfl | rfl | rfl | rfl | rfl | rfl | rfl | rfl | rfl | rfl | rfl | rfl | rfl | rfl | rfl | rfl | rfl | rfl | rfl | rfl | rfl | rfl | rfl | rfl | rfl | rfl | rfl | rfl | rfl | rfl | rfl | rfl | rfl | rfl | rfl | rfl | rfl | rfl | rfl | rfl | rfl | rfl | rfl | rfl | rfl | rfl | rfl | rfl | rfl | rfl | rfl | rfl | rfl | rfl | rfl | rfl | rfl | rfl | rfl | rfl | rfl | rfl | rfl | rfl | rfl | rfl | rfl | rfl | rfl | rfl | rfl
  · exact td1
  · exact td2
  · exact td3
  · exact td4
  · exact td5
  · exact td6
  · exact td7
  · exact td8
  · exact td9
  · exact td10
  · exact td11
  · exact td12
  · exact td13
  · exact td14
  · exact td15
  · exact td16
  · exact td17
  · exact td18
  · exact td19
  · exact td20
  · exact td21
  · exact td22
  · exact td23
  · exact td24
  · exact td25
  · exact td26
  · exact td27
  · exact td28
  · exact td29
  · exact td30
  · exact td31
  · exact td32
  · exact td33
  · exact td34
  · exact td35
  · exact td37
  · exact td38
  · exact td39
  · exact td40
  · exact td41
  · exact td42
  · exact td43
  · exact td44
  · exact td45
  · exact td46
  · exact td47
  · exact td48
  · exact td49
  · exact td50
  · exact td51
  · exact td52
  · exact td53
  · exact td54
  · exact td55
  · exact td56
  · exact td57
  · exact td58
  · exact td59
  · exact td60
  · exact td61
  · exact td62
  · exact td63
  · exact td64
  · exact td65
  · exact td66
  · exact td67
  · exact td68
  · exact td69
  · exact td70
  · exact td71
  · exact td72
  · exact td73
  · exact td74
  · exact td75
  · exact td76
  · exact td77
  · exact td78
  · exact td79
  · exact td80
  · exact td81
  · exact td82
  · exact td83
  · exact td84
  · exact td85
  · exact td86
  · exact td87
  · exact td88
  · exact td89
  · exact td90
  · exact td91
  · exact td92
  · exact td93
  · exact td94
  · exact td95
  · exact td96
  · exact td97
  · exact td98
  · exact td99
  · exact td100
  · exact td101
  · exact td102
  · exact td103
  · exact td104
  · exact td105
  · exact td107
  · exact td108
  · exact td109
  · exact td111
  · exact td112
  · exact td113
  · exact td114
  · exact td116
  · exact td117
  · exact td118
  · exact td120
  · exact td121
  · exact td122
  · exact td123
  · exact td124
  · exact td125
  · exact td126
  · exact td127
  · exact td128
  · exact td129
  · exact td130
  · exact td132
  · exact td133
  · exact td134
  · exact td135
  · exact td136
  · exact td137
  · exact td138
  · exact td139
  · exact td140
  · exact td141
  · exact td142
  · exact td143
  · exact td144
  · exact td145
  · exact td146
  )
structure Hyp (G : Nat → World → Prop) : Prop where
  seat : Seat Tryz.prog G TT
  tab : ∀ g0 w, G g0 w → TabAt (Tryz.laysT29_ren.g 1) Lib.deBruijn64tab w
end Go.X

namespace Go.X
open Go.Proofs

def cIsSquare : Con
  | [.a (.i .i64 n)] => some ⟨[], .a (.b (spIsSquare n)), [], []⟩
  | _ => none
def cRank : Con
  | [.a (.i .i64 n)] => some ⟨[], .a (.i .i64 (spRank n)), [], []⟩
  | _ => none
def cFile : Con
  | [.a (.i .i64 n)] => some ⟨[], .a (.i .i64 (spFile n)), [], []⟩
  | _ => none
def cSquare : Con
  | [.a (.i .i64 f), .a (.i .i64 r)] => some ⟨[], .a (.i .i64 (spSquare f r)), [], []⟩
  | _ => none
def cIndexByte : Con
  | [.a (.s s), .a (.i .u8 c)] => some ⟨[], .a (.i .i64 (spIdxB s.data.toList c)), [], []⟩
  | _ => none
def cSide : Con
  | [.a (.i .u8 c)] => some ⟨[], .a (.i .i64 (spSide c)), [], []⟩
  | _ => none
def cIsCell : Con
  | [.a (.i .u8 c)] => some ⟨[], .a (.b (spIsCell c)), [], []⟩
  | _ => none
def cKind : Con
  | [.a (.i .u8 c)] => some ⟨[], .a (.i .u8 (spKind c)), [], []⟩
  | _ => none
def cBad : Con
  | [.a (.i .i32 (.ofNat r))] => some ⟨[], .a (.b (spBad r)), [], []⟩
  | _ => none
def cIndexFunc : Con
  | [.a (.s s), .fn 75 []] => some ⟨[], .a (.i .i64 (Lib.idxFunc spBad true s)), [], []⟩
  | _ => none
def cIs : Con
  | [.a (.s p)] => some ⟨[], .a (.b (spIs p)), [], []⟩
  | _ => none
def cAt : Con
  | [.a (.s p), .a (.i .i64 n)] => some ⟨[], .a (.i .u8 (spAt p n)), [], []⟩
  | _ => none
def cPut : Con
  | [.a (.s p), .a (.i .i64 n), .a (.i .u8 c)] => some ⟨[], .a (.s (spPut p n c)), [], []⟩
  | _ => none

section
variable {G : Nat → World → Prop}
theorem okIndexByte (_ : Hyp G) : ConOK Tryz.prog G 49 cIndexByte := by
  refine con_ext Tryz.func49 rfl rfl ?_
  intro rvs cr hcr hpre
  unfold cIndexByte at hcr
  split at hcr
  · cases hcr
    refine ⟨_, _, _, rfl, rfl, fun _ _ => rfl, fun g0 w _ _ => (Tryz.strings_IndexByte _ _ w).mono ?_⟩
    rintro e w' ⟨rfl, rfl⟩
    exact ⟨rfl, ⟨rfl, rfl, rfl, Nat.le_refl _, fun _ _ => rfl⟩⟩
  · cases hcr

set_option maxHeartbeats 4000000 in
set_option maxRecDepth 20000 in
theorem okIsSquare (hS : Hyp G) : ConOK Tryz.prog G 50 cIsSquare := by
  refine seat_con hS.seat [] [] trivial Tryz.func50 rfl rfl rfl ?_
  intro rvs cr hcr hpre
  unfold cIsSquare at hcr
  split at hcr
  · cases hcr
    refine ⟨⟨rfl, rfl, rfl⟩, fun c hc vs => ?_⟩
    repeat' (first | exact Bool.noConfusion ‹(!true) = true› | exact Bool.noConfusion ‹(!false) = false› | (intro h; exact h) | (intro h; rw [h]; rfl) | (intro h1 h2; rw [h1, h2]; rfl) | (intro _; assumption) | (intro _; exact rfl) | (intro h; exact Bool.noConfusion (h.symm.trans ‹_ = false›)) | refine ⟨fun _ => ?_, fun _ => ?_⟩ | refine ⟨?_⟩ | refine ⟨?_, ?_⟩ | fail)
    all_goals first | exact rfl | (refine chk_i ?_; simp_all [spIsSquare]; done) | (refine chk_i ?_; simp only [spIsSquare, decide_eq_true_eq, decide_eq_false_iff_not, Bool.not_eq_true', Bool.not_eq_false', Bool.or_eq_true, Bool.or_eq_false_iff, Bool.and_eq_true, Bool.and_eq_false_iff] at *; (repeat' split) <;> first | rfl | omega | (simp_all; done) | (simp_all; omega)) | (refine chk_b ?_; simp_all [spIsSquare]; done) | (refine chk_b ?_; simp only [spIsSquare, decide_eq_true_eq, decide_eq_false_iff_not, Bool.not_eq_true', Bool.not_eq_false', Bool.or_eq_true, Bool.or_eq_false_iff, Bool.and_eq_true, Bool.and_eq_false_iff] at *; (repeat' split) <;> first | rfl | omega | (simp_all; done) | (simp_all; omega)) | (refine chk_s ?_; simp_all [spIsSquare]; done) | (refine chk_s ?_; simp only [spIsSquare, decide_eq_true_eq, decide_eq_false_iff_not, Bool.not_eq_true', Bool.not_eq_false', Bool.or_eq_true, Bool.or_eq_false_iff, Bool.and_eq_true, Bool.and_eq_false_iff] at *; (repeat' split) <;> first | rfl | omega | (simp_all; done) | (simp_all; omega)) | (simp_all [spIsSquare]; done) | (simp_all [spIsSquare]; omega) | skip
  · cases hcr

set_option maxHeartbeats 4000000 in
set_option maxRecDepth 20000 in
theorem okFile (hS : Hyp G) : ConOK Tryz.prog G 59 cFile := by
  refine seat_con hS.seat [(50, cIsSquare)] [] ⟨okIsSquare hS, trivial⟩ Tryz.func59 rfl rfl rfl ?_
  intro rvs cr hcr hpre
  unfold cFile at hcr
  split at hcr
  · cases hcr
    refine ⟨⟨rfl, rfl, rfl⟩, fun c hc vs => ?_⟩
    repeat' (first | exact Bool.noConfusion ‹(!true) = true› | exact Bool.noConfusion ‹(!false) = false› | (intro h; exact h) | (intro h; rw [h]; rfl) | (intro h1 h2; rw [h1, h2]; rfl) | (intro _; assumption) | (intro _; exact rfl) | (intro h; exact Bool.noConfusion (h.symm.trans ‹_ = false›)) | refine ⟨fun _ => ?_, fun _ => ?_⟩ | refine ⟨?_⟩ | refine ⟨?_, ?_⟩ | fail)
    all_goals first | exact rfl | (refine chk_i ?_; simp_all [spFile]; done) | (refine chk_i ?_; simp only [spFile, decide_eq_true_eq, decide_eq_false_iff_not, Bool.not_eq_true', Bool.not_eq_false', Bool.or_eq_true, Bool.or_eq_false_iff, Bool.and_eq_true, Bool.and_eq_false_iff] at *; (repeat' split) <;> first | rfl | omega | (simp_all; done) | (simp_all; omega)) | (refine chk_b ?_; simp_all [spFile]; done) | (refine chk_b ?_; simp only [spFile, decide_eq_true_eq, decide_eq_false_iff_not, Bool.not_eq_true', Bool.not_eq_false', Bool.or_eq_true, Bool.or_eq_false_iff, Bool.and_eq_true, Bool.and_eq_false_iff] at *; (repeat' split) <;> first | rfl | omega | (simp_all; done) | (simp_all; omega)) | (refine chk_s ?_; simp_all [spFile]; done) | (refine chk_s ?_; simp only [spFile, decide_eq_true_eq, decide_eq_false_iff_not, Bool.not_eq_true', Bool.not_eq_false', Bool.or_eq_true, Bool.or_eq_false_iff, Bool.and_eq_true, Bool.and_eq_false_iff] at *; (repeat' split) <;> first | rfl | omega | (simp_all; done) | (simp_all; omega)) | (simp_all [spFile]; done) | (simp_all [spFile]; omega) | skip
    refine chk_i ?_
    have h := isSquare_iff.1 (by simpa using ‹(!spIsSquare _) = false›)
    rw [tmod9 h.1, spFile, if_pos (isSquare_iff.2 h)]
  · cases hcr

set_option maxHeartbeats 4000000 in
set_option maxRecDepth 20000 in
theorem okRank (hS : Hyp G) : ConOK Tryz.prog G 100 cRank := by
  refine seat_con hS.seat [(50, cIsSquare)] [] ⟨okIsSquare hS, trivial⟩ Tryz.func100 rfl rfl rfl ?_
  intro rvs cr hcr hpre
  unfold cRank at hcr
  split at hcr
  · cases hcr
    refine ⟨⟨rfl, rfl, rfl⟩, fun c hc vs => ?_⟩
    repeat' (first | exact Bool.noConfusion ‹(!true) = true› | exact Bool.noConfusion ‹(!false) = false› | (intro h; exact h) | (intro h; rw [h]; rfl) | (intro h1 h2; rw [h1, h2]; rfl) | (intro _; assumption) | (intro _; exact rfl) | (intro h; exact Bool.noConfusion (h.symm.trans ‹_ = false›)) | refine ⟨fun _ => ?_, fun _ => ?_⟩ | refine ⟨?_⟩ | refine ⟨?_, ?_⟩ | fail)
    all_goals first | exact rfl | (refine chk_i ?_; simp_all [spRank]; done) | (refine chk_i ?_; simp only [spRank, decide_eq_true_eq, decide_eq_false_iff_not, Bool.not_eq_true', Bool.not_eq_false', Bool.or_eq_true, Bool.or_eq_false_iff, Bool.and_eq_true, Bool.and_eq_false_iff] at *; (repeat' split) <;> first | rfl | omega | (simp_all; done) | (simp_all; omega)) | (refine chk_b ?_; simp_all [spRank]; done) | (refine chk_b ?_; simp only [spRank, decide_eq_true_eq, decide_eq_false_iff_not, Bool.not_eq_true', Bool.not_eq_false', Bool.or_eq_true, Bool.or_eq_false_iff, Bool.and_eq_true, Bool.and_eq_false_iff] at *; (repeat' split) <;> first | rfl | omega | (simp_all; done) | (simp_all; omega)) | (refine chk_s ?_; simp_all [spRank]; done) | (refine chk_s ?_; simp only [spRank, decide_eq_true_eq, decide_eq_false_iff_not, Bool.not_eq_true', Bool.not_eq_false', Bool.or_eq_true, Bool.or_eq_false_iff, Bool.and_eq_true, Bool.and_eq_false_iff] at *; (repeat' split) <;> first | rfl | omega | (simp_all; done) | (simp_all; omega)) | (simp_all [spRank]; done) | (simp_all [spRank]; omega) | skip
    refine chk_i ?_
    have h := isSquare_iff.1 (by simpa using ‹(!spIsSquare _) = false›)
    rw [tdiv9 h.1, spRank, if_pos (isSquare_iff.2 h), wrap64 (by omega) (by omega)]
  · cases hcr

set_option maxHeartbeats 4000000 in
set_option maxRecDepth 20000 in
theorem okSquare (hS : Hyp G) : ConOK Tryz.prog G 144 cSquare := by
  refine seat_con hS.seat [] [] trivial Tryz.func144 rfl rfl rfl ?_
  intro rvs cr hcr hpre
  unfold cSquare at hcr
  split at hcr
  · cases hcr
    refine ⟨⟨rfl, rfl, rfl⟩, fun c hc vs => ?_⟩
    repeat' (first | exact Bool.noConfusion ‹(!true) = true› | exact Bool.noConfusion ‹(!false) = false› | (intro h; exact h) | (intro h; rw [h]; rfl) | (intro h1 h2; rw [h1, h2]; rfl) | (intro _; assumption) | (intro _; exact rfl) | (intro h; exact Bool.noConfusion (h.symm.trans ‹_ = false›)) | refine ⟨fun _ => ?_, fun _ => ?_⟩ | refine ⟨?_⟩ | refine ⟨?_, ?_⟩ | fail)
    all_goals first | exact rfl | (refine chk_i ?_; simp_all [spSquare]; done) | (refine chk_i ?_; simp only [spSquare, decide_eq_true_eq, decide_eq_false_iff_not, Bool.not_eq_true', Bool.not_eq_false', Bool.or_eq_true, Bool.or_eq_false_iff, Bool.and_eq_true, Bool.and_eq_false_iff] at *; (repeat' split) <;> first | rfl | omega | (simp_all; done) | (simp_all; omega)) | (refine chk_b ?_; simp_all [spSquare]; done) | (refine chk_b ?_; simp only [spSquare, decide_eq_true_eq, decide_eq_false_iff_not, Bool.not_eq_true', Bool.not_eq_false', Bool.or_eq_true, Bool.or_eq_false_iff, Bool.and_eq_true, Bool.and_eq_false_iff] at *; (repeat' split) <;> first | rfl | omega | (simp_all; done) | (simp_all; omega)) | (refine chk_s ?_; simp_all [spSquare]; done) | (refine chk_s ?_; simp only [spSquare, decide_eq_true_eq, decide_eq_false_iff_not, Bool.not_eq_true', Bool.not_eq_false', Bool.or_eq_true, Bool.or_eq_false_iff, Bool.and_eq_true, Bool.and_eq_false_iff] at *; (repeat' split) <;> first | rfl | omega | (simp_all; done) | (simp_all; omega)) | (simp_all [spSquare]; done) | (simp_all [spSquare]; omega) | skip
    refine chk_i ?_
    simp only [Bool.or_eq_false_iff, decide_eq_false_iff_not] at *
    rw [wrap64 (x := 9 * _) (by omega) (by omega), wrap64 (by omega) (by omega), spSquare, if_pos (by simp; omega)]
    omega
  · cases hcr

set_option maxHeartbeats 4000000 in
set_option maxRecDepth 20000 in
theorem okSide (hS : Hyp G) : ConOK Tryz.prog G 29 cSide := by
  refine seat_con hS.seat [(49, cIndexByte)] [] ⟨okIndexByte hS, trivial⟩ Tryz.func29 rfl rfl rfl ?_
  intro rvs cr hcr hpre
  unfold cSide at hcr
  split at hcr
  · cases hcr
    refine ⟨⟨rfl, rfl, rfl⟩, fun c hc vs => ?_⟩
    repeat' (first | exact Bool.noConfusion ‹(!true) = true› | exact Bool.noConfusion ‹(!false) = false› | (intro h; exact h) | (intro h; rw [h]; rfl) | (intro h1 h2; rw [h1, h2]; rfl) | (intro _; assumption) | (intro _; exact rfl) | (intro h; exact Bool.noConfusion (h.symm.trans ‹_ = false›)) | refine ⟨fun _ => ?_, fun _ => ?_⟩ | refine ⟨?_⟩ | refine ⟨?_, ?_⟩ | fail)
    all_goals first | exact rfl | (refine chk_i ?_; simp_all [spSide]; done) | (refine chk_i ?_; simp only [spSide, decide_eq_true_eq, decide_eq_false_iff_not, Bool.not_eq_true', Bool.not_eq_false', Bool.or_eq_true, Bool.or_eq_false_iff, Bool.and_eq_true, Bool.and_eq_false_iff] at *; (repeat' split) <;> first | rfl | omega | (simp_all; done) | (simp_all; omega)) | (refine chk_b ?_; simp_all [spSide]; done) | (refine chk_b ?_; simp only [spSide, decide_eq_true_eq, decide_eq_false_iff_not, Bool.not_eq_true', Bool.not_eq_false', Bool.or_eq_true, Bool.or_eq_false_iff, Bool.and_eq_true, Bool.and_eq_false_iff] at *; (repeat' split) <;> first | rfl | omega | (simp_all; done) | (simp_all; omega)) | (refine chk_s ?_; simp_all [spSide]; done) | (refine chk_s ?_; simp only [spSide, decide_eq_true_eq, decide_eq_false_iff_not, Bool.not_eq_true', Bool.not_eq_false', Bool.or_eq_true, Bool.or_eq_false_iff, Bool.and_eq_true, Bool.and_eq_false_iff] at *; (repeat' split) <;> first | rfl | omega | (simp_all; done) | (simp_all; omega)) | (simp_all [spSide]; done) | (simp_all [spSide]; omega) | skip
  · cases hcr

set_option maxHeartbeats 4000000 in
set_option maxRecDepth 20000 in
theorem okIsCell (hS : Hyp G) : ConOK Tryz.prog G 76 cIsCell := by
  refine seat_con hS.seat [(29, cSide)] [] ⟨okSide hS, trivial⟩ Tryz.func76 rfl rfl rfl ?_
  intro rvs cr hcr hpre
  unfold cIsCell at hcr
  split at hcr
  · cases hcr
    refine ⟨⟨rfl, rfl, rfl⟩, fun c hc vs => ?_⟩
    repeat' (first | exact Bool.noConfusion ‹(!true) = true› | exact Bool.noConfusion ‹(!false) = false› | (intro h; exact h) | (intro h; rw [h]; rfl) | (intro h1 h2; rw [h1, h2]; rfl) | (intro _; assumption) | (intro _; exact rfl) | (intro h; exact Bool.noConfusion (h.symm.trans ‹_ = false›)) | refine ⟨fun _ => ?_, fun _ => ?_⟩ | refine ⟨?_⟩ | refine ⟨?_, ?_⟩ | fail)
    all_goals first | exact rfl | (refine chk_i ?_; simp_all [spIsCell]; done) | (refine chk_i ?_; simp only [spIsCell, decide_eq_true_eq, decide_eq_false_iff_not, Bool.not_eq_true', Bool.not_eq_false', Bool.or_eq_true, Bool.or_eq_false_iff, Bool.and_eq_true, Bool.and_eq_false_iff] at *; (repeat' split) <;> first | rfl | omega | (simp_all; done) | (simp_all; omega)) | (refine chk_b ?_; simp_all [spIsCell]; done) | (refine chk_b ?_; simp only [spIsCell, decide_eq_true_eq, decide_eq_false_iff_not, Bool.not_eq_true', Bool.not_eq_false', Bool.or_eq_true, Bool.or_eq_false_iff, Bool.and_eq_true, Bool.and_eq_false_iff] at *; (repeat' split) <;> first | rfl | omega | (simp_all; done) | (simp_all; omega)) | (refine chk_s ?_; simp_all [spIsCell]; done) | (refine chk_s ?_; simp only [spIsCell, decide_eq_true_eq, decide_eq_false_iff_not, Bool.not_eq_true', Bool.not_eq_false', Bool.or_eq_true, Bool.or_eq_false_iff, Bool.and_eq_true, Bool.and_eq_false_iff] at *; (repeat' split) <;> first | rfl | omega | (simp_all; done) | (simp_all; omega)) | (simp_all [spIsCell]; done) | (simp_all [spIsCell]; omega) | skip
  · cases hcr

set_option maxHeartbeats 4000000 in
set_option maxRecDepth 20000 in
theorem okKind (hS : Hyp G) : ConOK Tryz.prog G 45 cKind := by
  refine seat_con hS.seat [(29, cSide)] [] ⟨okSide hS, trivial⟩ Tryz.func45 rfl rfl rfl ?_
  intro rvs cr hcr hpre
  unfold cKind at hcr
  split at hcr
  · cases hcr
    refine ⟨⟨rfl, rfl, rfl⟩, fun c hc vs => ?_⟩
    repeat' (first | exact Bool.noConfusion ‹(!true) = true› | exact Bool.noConfusion ‹(!false) = false› | (intro h; exact h) | (intro h; rw [h]; rfl) | (intro h1 h2; rw [h1, h2]; rfl) | (intro _; assumption) | (intro _; exact rfl) | (intro h; exact Bool.noConfusion (h.symm.trans ‹_ = false›)) | refine ⟨fun _ => ?_, fun _ => ?_⟩ | refine ⟨?_⟩ | refine ⟨?_, ?_⟩ | fail)
    all_goals first | exact rfl | (refine chk_i ?_; simp_all [spKind]; done) | (refine chk_i ?_; simp only [spKind, decide_eq_true_eq, decide_eq_false_iff_not, Bool.not_eq_true', Bool.not_eq_false', Bool.or_eq_true, Bool.or_eq_false_iff, Bool.and_eq_true, Bool.and_eq_false_iff] at *; (repeat' split) <;> first | rfl | omega | (simp_all; done) | (simp_all; omega)) | (refine chk_b ?_; simp_all [spKind]; done) | (refine chk_b ?_; simp only [spKind, decide_eq_true_eq, decide_eq_false_iff_not, Bool.not_eq_true', Bool.not_eq_false', Bool.or_eq_true, Bool.or_eq_false_iff, Bool.and_eq_true, Bool.and_eq_false_iff] at *; (repeat' split) <;> first | rfl | omega | (simp_all; done) | (simp_all; omega)) | (refine chk_s ?_; simp_all [spKind]; done) | (refine chk_s ?_; simp only [spKind, decide_eq_true_eq, decide_eq_false_iff_not, Bool.not_eq_true', Bool.not_eq_false', Bool.or_eq_true, Bool.or_eq_false_iff, Bool.and_eq_true, Bool.and_eq_false_iff] at *; (repeat' split) <;> first | rfl | omega | (simp_all; done) | (simp_all; omega)) | (simp_all [spKind]; done) | (simp_all [spKind]; omega) | skip
  · cases hcr

set_option maxHeartbeats 4000000 in
set_option maxRecDepth 20000 in
theorem okBad (hS : Hyp G) : ConOK Tryz.prog G 75 cBad := by
  refine seat_con hS.seat [(76, cIsCell)] [] ⟨okIsCell hS, trivial⟩ Tryz.func75 rfl rfl rfl ?_
  intro rvs cr hcr hpre
  unfold cBad at hcr
  split at hcr
  · cases hcr
    refine ⟨⟨rfl, rfl, rfl⟩, fun c hc vs => ?_⟩
    repeat' (first | exact Bool.noConfusion ‹(!true) = true› | exact Bool.noConfusion ‹(!false) = false› | (intro h; exact h) | (intro h; rw [h]; rfl) | (intro h1 h2; rw [h1, h2]; rfl) | (intro _; assumption) | (intro _; exact rfl) | (intro h; exact Bool.noConfusion (h.symm.trans ‹_ = false›)) | refine ⟨fun _ => ?_, fun _ => ?_⟩ | refine ⟨?_⟩ | refine ⟨?_, ?_⟩ | fail)
    all_goals first | exact rfl | (refine chk_i ?_; simp_all [spBad]; done) | (refine chk_i ?_; simp only [spBad, decide_eq_true_eq, decide_eq_false_iff_not, Bool.not_eq_true', Bool.not_eq_false', Bool.or_eq_true, Bool.or_eq_false_iff, Bool.and_eq_true, Bool.and_eq_false_iff] at *; (repeat' split) <;> first | rfl | omega | (simp_all; done) | (simp_all; omega)) | (refine chk_b ?_; simp_all [spBad]; done) | (refine chk_b ?_; simp only [spBad, decide_eq_true_eq, decide_eq_false_iff_not, Bool.not_eq_true', Bool.not_eq_false', Bool.or_eq_true, Bool.or_eq_false_iff, Bool.and_eq_true, Bool.and_eq_false_iff] at *; (repeat' split) <;> first | rfl | omega | (simp_all; done) | (simp_all; omega)) | (refine chk_s ?_; simp_all [spBad]; done) | (refine chk_s ?_; simp only [spBad, decide_eq_true_eq, decide_eq_false_iff_not, Bool.not_eq_true', Bool.not_eq_false', Bool.or_eq_true, Bool.or_eq_false_iff, Bool.and_eq_true, Bool.and_eq_false_iff] at *; (repeat' split) <;> first | rfl | omega | (simp_all; done) | (simp_all; omega)) | (simp_all [spBad]; done) | (simp_all [spBad]; omega) | skip
  · cases hcr

theorem okIndexFunc (hS : Hyp G) : ConOK Tryz.prog G 74 cIndexFunc := by
  refine con_ext Tryz.func74 rfl rfl ?_
  intro rvs cr hcr hpre
  unfold cIndexFunc at hcr
  split at hcr
  · cases hcr
    refine ⟨_, _, _, rfl, rfl, fun _ _ => rfl, fun g0 w hg hG => Tryz.strings_IndexFunc_grows 75 #[] Tryz.call75 spBad _ w ?_⟩
    intro W x _ hb
    have hG' : G g0 W := hS.seat.good (topCtx g0 w hg) hG W ⟨hb.os, hb.tape, hb.output, hb.size, fun k h1 _ => hb.block k h1⟩
    refine (con_calls (avs := [.i .i32 (.ofNat x)]) (vals := [.int .i32 (.ofNat x)]) (okBad hS) (Nat.le_trans hg hb.size) hG' rfl ⟨_, _, rfl, rfl, rfl⟩ rfl (fun p hp => (by cases hp))).mono ?_
    rintro en w' ⟨v, e', rfl, h1, h2⟩
    refine ⟨?_, top_below h1.frame⟩
    simp only [R] at h2
    rw [h2]
  · cases hcr

set_option maxHeartbeats 4000000 in
set_option maxRecDepth 20000 in
theorem okIs (hS : Hyp G) : ConOK Tryz.prog G 51 cIs := by
  refine seat_con hS.seat [(74, cIndexFunc)] [] ⟨okIndexFunc hS, trivial⟩ Tryz.func51 rfl rfl rfl ?_
  intro rvs cr hcr hpre
  unfold cIs at hcr
  split at hcr
  · cases hcr
    refine ⟨⟨rfl, rfl, rfl⟩, fun c hc vs => ?_⟩
    repeat' (first | exact Bool.noConfusion ‹(!true) = true› | exact Bool.noConfusion ‹(!false) = false› | (intro h; exact h) | (intro h; rw [h]; rfl) | (intro h1 h2; rw [h1, h2]; rfl) | (intro _; assumption) | (intro _; exact rfl) | (intro h; exact Bool.noConfusion (h.symm.trans ‹_ = false›)) | refine ⟨fun _ => ?_, fun _ => ?_⟩ | refine ⟨?_⟩ | refine ⟨?_, ?_⟩ | fail)
    all_goals first | exact rfl | (refine chk_i ?_; simp_all [spIs]; done) | (refine chk_i ?_; simp only [spIs, decide_eq_true_eq, decide_eq_false_iff_not, Bool.not_eq_true', Bool.not_eq_false', Bool.or_eq_true, Bool.or_eq_false_iff, Bool.and_eq_true, Bool.and_eq_false_iff] at *; (repeat' split) <;> first | rfl | omega | (simp_all; done) | (simp_all; omega)) | (refine chk_b ?_; simp_all [spIs]; done) | (refine chk_b ?_; simp only [spIs, decide_eq_true_eq, decide_eq_false_iff_not, Bool.not_eq_true', Bool.not_eq_false', Bool.or_eq_true, Bool.or_eq_false_iff, Bool.and_eq_true, Bool.and_eq_false_iff] at *; (repeat' split) <;> first | rfl | omega | (simp_all; done) | (simp_all; omega)) | (refine chk_s ?_; simp_all [spIs]; done) | (refine chk_s ?_; simp only [spIs, decide_eq_true_eq, decide_eq_false_iff_not, Bool.not_eq_true', Bool.not_eq_false', Bool.or_eq_true, Bool.or_eq_false_iff, Bool.and_eq_true, Bool.and_eq_false_iff] at *; (repeat' split) <;> first | rfl | omega | (simp_all; done) | (simp_all; omega)) | (simp_all [spIs]; done) | (simp_all [spIs]; omega) | skip
  · cases hcr

set_option maxHeartbeats 4000000 in
set_option maxRecDepth 20000 in
theorem okAt (hS : Hyp G) : ConOK Tryz.prog G 30 cAt := by
  refine seat_con hS.seat [(50, cIsSquare), (51, cIs)] [] ⟨okIsSquare hS, okIs hS, trivial⟩ Tryz.func30 rfl rfl rfl ?_
  intro rvs cr hcr hpre
  unfold cAt at hcr
  split at hcr
  · cases hcr
    refine ⟨⟨rfl, rfl, rfl⟩, fun c hc vs => ?_⟩
    repeat' (first | exact Bool.noConfusion ‹(!true) = true› | exact Bool.noConfusion ‹(!false) = false› | (intro h; exact h) | (intro h; rw [h]; rfl) | (intro h1 h2; rw [h1, h2]; rfl) | (intro _; assumption) | (intro _; exact rfl) | (intro h; exact Bool.noConfusion (h.symm.trans ‹_ = false›)) | refine ⟨fun _ => ?_, fun _ => ?_⟩ | refine ⟨?_⟩ | refine ⟨?_, ?_⟩ | fail)
    all_goals first | exact rfl | (refine chk_i ?_; simp_all [spAt]; done) | (refine chk_i ?_; simp only [spAt, decide_eq_true_eq, decide_eq_false_iff_not, Bool.not_eq_true', Bool.not_eq_false', Bool.or_eq_true, Bool.or_eq_false_iff, Bool.and_eq_true, Bool.and_eq_false_iff] at *; (repeat' split) <;> first | rfl | omega | (simp_all; done) | (simp_all; omega)) | (refine chk_b ?_; simp_all [spAt]; done) | (refine chk_b ?_; simp only [spAt, decide_eq_true_eq, decide_eq_false_iff_not, Bool.not_eq_true', Bool.not_eq_false', Bool.or_eq_true, Bool.or_eq_false_iff, Bool.and_eq_true, Bool.and_eq_false_iff] at *; (repeat' split) <;> first | rfl | omega | (simp_all; done) | (simp_all; omega)) | (refine chk_s ?_; simp_all [spAt]; done) | (refine chk_s ?_; simp only [spAt, decide_eq_true_eq, decide_eq_false_iff_not, Bool.not_eq_true', Bool.not_eq_false', Bool.or_eq_true, Bool.or_eq_false_iff, Bool.and_eq_true, Bool.and_eq_false_iff] at *; (repeat' split) <;> first | rfl | omega | (simp_all; done) | (simp_all; omega)) | (simp_all [spAt]; done) | (simp_all [spAt]; omega) | skip
    all_goals
      have h := ‹(_ || _) = false›
      simp [isSquare_iff] at h
      have := spIs_size h.2
      omega
  · cases hcr

set_option maxHeartbeats 4000000 in
set_option maxRecDepth 20000 in
theorem okPut (hS : Hyp G) : ConOK Tryz.prog G 56 cPut := by
  refine seat_con hS.seat [(50, cIsSquare), (76, cIsCell), (51, cIs)] [] ⟨okIsSquare hS, okIsCell hS, okIs hS, trivial⟩ Tryz.func56 rfl rfl rfl ?_
  intro rvs cr hcr hpre
  unfold cPut at hcr
  split at hcr
  · cases hcr
    refine ⟨⟨rfl, rfl, rfl⟩, fun c hc vs => ?_⟩
    repeat' (first | exact Bool.noConfusion ‹(!true) = true› | exact Bool.noConfusion ‹(!false) = false› | (intro h; exact h) | (intro h; rw [h]; rfl) | (intro h1 h2; rw [h1, h2]; rfl) | (intro _; assumption) | (intro _; exact rfl) | (intro h; exact Bool.noConfusion (h.symm.trans ‹_ = false›)) | refine ⟨fun _ => ?_, fun _ => ?_⟩ | refine ⟨?_⟩ | refine ⟨?_, ?_⟩ | fail)
    all_goals first | exact rfl | (refine chk_i ?_; simp_all [spPut]; done) | (refine chk_i ?_; simp only [spPut, decide_eq_true_eq, decide_eq_false_iff_not, Bool.not_eq_true', Bool.not_eq_false', Bool.or_eq_true, Bool.or_eq_false_iff, Bool.and_eq_true, Bool.and_eq_false_iff] at *; (repeat' split) <;> first | rfl | omega | (simp_all; done) | (simp_all; omega)) | (refine chk_b ?_; simp_all [spPut]; done) | (refine chk_b ?_; simp only [spPut, decide_eq_true_eq, decide_eq_false_iff_not, Bool.not_eq_true', Bool.not_eq_false', Bool.or_eq_true, Bool.or_eq_false_iff, Bool.and_eq_true, Bool.and_eq_false_iff] at *; (repeat' split) <;> first | rfl | omega | (simp_all; done) | (simp_all; omega)) | (refine chk_s ?_; simp_all [spPut]; done) | (refine chk_s ?_; simp only [spPut, decide_eq_true_eq, decide_eq_false_iff_not, Bool.not_eq_true', Bool.not_eq_false', Bool.or_eq_true, Bool.or_eq_false_iff, Bool.and_eq_true, Bool.and_eq_false_iff] at *; (repeat' split) <;> first | rfl | omega | (simp_all; done) | (simp_all; omega)) | (simp_all [spPut]; done) | (simp_all [spPut]; omega) | skip
    all_goals
      have h := ‹(_ || _) = false›
      simp [isSquare_iff] at h
      have := spIs_size h.2
      have := bytesL_length ‹ByteArray›
      first | omega | (show _ < ((bytesL _).length : Int); omega)
  · cases hcr

end
end Go.X

namespace Go.X
open Go Go.Proofs

def cSeen : Con
  | [.a (.i .i64 n), .a (.i .i64 side)] => some ⟨[], .tup [.agg [.a (.i .i64 (spSF n side)), .a (.i .i64 (spSR n side))], .a (.b (spOk n side))], [], []⟩
  | _ => none
def cPal : Con
  | [.agg [.a (.i .i64 f), .a (.i .i64 r)]] => some ⟨[], .a (.b (spPal f r)), [], []⟩
  | _ => none
def cOvr : Con
  | [.agg [.a (.i .i64 _), .a (.i .i64 r)]] => some ⟨[], .a (.b (spOvr r)), [], []⟩
  | _ => none
def cAdv : Con
  | [.agg [.a (.i .i64 f), .a (.i .i64 r)]] => some ⟨[], .a (.b (spAdv f r)), [], []⟩
  | _ => none
def cEle : Con
  | [.agg [.a (.i .i64 f), .a (.i .i64 r)]] => some ⟨[], .a (.b (spEle f r)), [], []⟩
  | _ => none
def cPwn : Con
  | [.agg [.a (.i .i64 f), .a (.i .i64 r)]] => some ⟨[], .a (.b (spPwn f r)), [], []⟩
  | _ => none
def cMay : Con
  | [.a (.i .u8 c), .a (.i .i64 n)] => some ⟨[], .a (.b (spMay c n)), [], []⟩
  | _ => none
def cOver : Con
  | [.a (.i .i64 n), .a (.i .i64 side)] => some ⟨[], .a (.b (spOver n side)), [], []⟩
  | _ => none
section
variable {G : Nat → World → Prop}
set_option maxHeartbeats 4000000 in
set_option maxRecDepth 20000 in
theorem okSeen (hS : Hyp G) : ConOK Tryz.prog G 146 cSeen := by
  refine seat_con hS.seat [] [] trivial Tryz.func146 rfl rfl rfl ?_
  intro rvs cr hcr hpre
  unfold cSeen at hcr
  split at hcr
  · rename_i n side
    cases hcr
    refine ⟨⟨rfl, rfl, rfl⟩, fun c hc vs => ?_⟩
    repeat' (first | exact Bool.noConfusion ‹(!true) = true› | exact Bool.noConfusion ‹(!false) = false› | (intro h; exact h) | (intro h; rw [h]; rfl) | (intro h1 h2; rw [h1, h2]; rfl) | (intro _; assumption) | (intro _; exact rfl) | (intro h; exact Bool.noConfusion (h.symm.trans ‹_ = false›)) | refine ⟨fun _ => ?_, fun _ => ?_⟩ | refine ⟨?_⟩ | refine ⟨?_, ?_⟩ | fail)
    all_goals first | exact trivial | (refine (?_ : (_ : Int) ≠ _); decide) | exact rfl | skip
    · refine chk_i ?_; rw [spSF, if_neg]; rw [ok_bad ‹_›]; simp
    · refine chk_i ?_; rw [spSR, if_neg]; rw [ok_bad ‹_›]; simp
    · refine chk_b ?_; rw [ok_bad ‹_›]
    all_goals
      rename_i h hs
      have hok := ok_good h
      have hb : 0 ≤ n ∧ n < 90 := by simp [spOk] at hok; omega
      simp only [beq_iff_eq, beq_eq_false_iff_ne] at hs
    · refine chk_i ?_; rw [spSF, if_pos hok, spTurned, if_pos hs, wrap64 (by omega) (by omega), tmod9 (by omega)]
    · refine chk_i ?_; rw [spSR, if_pos hok, spTurned, if_pos hs, wrap64 (x := 89 - n) (by omega) (by omega), tdiv9 (by omega), wrap64 (by omega) (by omega)]
    · exact chk_b hok.symm
    · refine chk_i ?_; rw [spSF, if_pos hok, spTurned, if_neg hs, tmod9 (by omega)]
    · refine chk_i ?_; rw [spSR, if_pos hok, spTurned, if_neg hs, tdiv9 (by omega), wrap64 (by omega) (by omega)]
    · exact chk_b hok.symm
  · cases hcr
set_option maxHeartbeats 4000000 in
set_option maxRecDepth 20000 in
theorem okPal (hS : Hyp G) : ConOK Tryz.prog G 154 cPal := by
  refine seat_con hS.seat [] [] trivial Tryz.func154 rfl rfl rfl ?_
  intro rvs cr hcr hpre
  unfold cPal at hcr
  split at hcr
  · cases hcr
    refine ⟨⟨rfl, rfl, rfl⟩, fun c hc vs => ?_⟩
    repeat' (first | exact Bool.noConfusion ‹(!true) = true› | exact Bool.noConfusion ‹(!false) = false› | (intro h; exact h) | (intro h; rw [h]; rfl) | (intro h1 h2; rw [h1, h2]; rfl) | (intro _; assumption) | (intro _; exact rfl) | (intro h; exact Bool.noConfusion (h.symm.trans ‹_ = false›)) | refine ⟨fun _ => ?_, fun _ => ?_⟩ | refine ⟨?_⟩ | refine ⟨?_, ?_⟩ | fail)
    all_goals first | exact rfl | (refine chk_i ?_; simp_all [spPal]; done) | (refine chk_i ?_; simp only [spPal, decide_eq_true_eq, decide_eq_false_iff_not, Bool.not_eq_true', Bool.not_eq_false', Bool.or_eq_true, Bool.or_eq_false_iff, Bool.and_eq_true, Bool.and_eq_false_iff] at *; (repeat' split) <;> first | rfl | omega | (simp_all; done) | (simp_all; omega)) | (refine chk_b ?_; simp_all [spPal]; done) | (refine chk_b ?_; simp only [spPal, decide_eq_true_eq, decide_eq_false_iff_not, Bool.not_eq_true', Bool.not_eq_false', Bool.or_eq_true, Bool.or_eq_false_iff, Bool.and_eq_true, Bool.and_eq_false_iff] at *; (repeat' split) <;> first | rfl | omega | (simp_all; done) | (simp_all; omega)) | (refine chk_s ?_; simp_all [spPal]; done) | (refine chk_s ?_; simp only [spPal, decide_eq_true_eq, decide_eq_false_iff_not, Bool.not_eq_true', Bool.not_eq_false', Bool.or_eq_true, Bool.or_eq_false_iff, Bool.and_eq_true, Bool.and_eq_false_iff] at *; (repeat' split) <;> first | rfl | omega | (simp_all; done) | (simp_all; omega)) | (simp_all [spPal]; done) | (simp_all [spPal]; omega) | skip
  · cases hcr
set_option maxHeartbeats 4000000 in
set_option maxRecDepth 20000 in
theorem okOvr (hS : Hyp G) : ConOK Tryz.prog G 147 cOvr := by
  refine seat_con hS.seat [] [] trivial Tryz.func147 rfl rfl rfl ?_
  intro rvs cr hcr hpre
  unfold cOvr at hcr
  split at hcr
  · cases hcr
    refine ⟨⟨rfl, rfl, rfl⟩, fun c hc vs => ?_⟩
    repeat' (first | exact Bool.noConfusion ‹(!true) = true› | exact Bool.noConfusion ‹(!false) = false› | (intro h; exact h) | (intro h; rw [h]; rfl) | (intro h1 h2; rw [h1, h2]; rfl) | (intro _; assumption) | (intro _; exact rfl) | (intro h; exact Bool.noConfusion (h.symm.trans ‹_ = false›)) | refine ⟨fun _ => ?_, fun _ => ?_⟩ | refine ⟨?_⟩ | refine ⟨?_, ?_⟩ | fail)
    all_goals first | exact rfl | (refine chk_i ?_; simp_all [spOvr]; done) | (refine chk_i ?_; simp only [spOvr, decide_eq_true_eq, decide_eq_false_iff_not, Bool.not_eq_true', Bool.not_eq_false', Bool.or_eq_true, Bool.or_eq_false_iff, Bool.and_eq_true, Bool.and_eq_false_iff] at *; (repeat' split) <;> first | rfl | omega | (simp_all; done) | (simp_all; omega)) | (refine chk_b ?_; simp_all [spOvr]; done) | (refine chk_b ?_; simp only [spOvr, decide_eq_true_eq, decide_eq_false_iff_not, Bool.not_eq_true', Bool.not_eq_false', Bool.or_eq_true, Bool.or_eq_false_iff, Bool.and_eq_true, Bool.and_eq_false_iff] at *; (repeat' split) <;> first | rfl | omega | (simp_all; done) | (simp_all; omega)) | (refine chk_s ?_; simp_all [spOvr]; done) | (refine chk_s ?_; simp only [spOvr, decide_eq_true_eq, decide_eq_false_iff_not, Bool.not_eq_true', Bool.not_eq_false', Bool.or_eq_true, Bool.or_eq_false_iff, Bool.and_eq_true, Bool.and_eq_false_iff] at *; (repeat' split) <;> first | rfl | omega | (simp_all; done) | (simp_all; omega)) | (simp_all [spOvr]; done) | (simp_all [spOvr]; omega) | skip
  · cases hcr
set_option maxHeartbeats 4000000 in
set_option maxRecDepth 20000 in
theorem okAdv (hS : Hyp G) : ConOK Tryz.prog G 155 cAdv := by
  refine seat_con hS.seat [(154, cPal)] [] ⟨okPal hS, trivial⟩ Tryz.func155 rfl rfl rfl ?_
  intro rvs cr hcr hpre
  unfold cAdv at hcr
  split at hcr
  · cases hcr
    refine ⟨⟨rfl, rfl, rfl⟩, fun c hc vs => ?_⟩
    repeat' (first | exact Bool.noConfusion ‹(!true) = true› | exact Bool.noConfusion ‹(!false) = false› | (intro h; exact h) | (intro h; rw [h]; rfl) | (intro h1 h2; rw [h1, h2]; rfl) | (intro _; assumption) | (intro _; exact rfl) | (intro h; exact Bool.noConfusion (h.symm.trans ‹_ = false›)) | refine ⟨fun _ => ?_, fun _ => ?_⟩ | refine ⟨?_⟩ | refine ⟨?_, ?_⟩ | fail)
    all_goals first | exact rfl | (refine chk_i ?_; simp_all [spAdv]; done) | (refine chk_i ?_; simp only [spAdv, decide_eq_true_eq, decide_eq_false_iff_not, Bool.not_eq_true', Bool.not_eq_false', Bool.or_eq_true, Bool.or_eq_false_iff, Bool.and_eq_true, Bool.and_eq_false_iff] at *; (repeat' split) <;> first | rfl | omega | (simp_all; done) | (simp_all; omega)) | (refine chk_b ?_; simp_all [spAdv]; done) | (refine chk_b ?_; simp only [spAdv, decide_eq_true_eq, decide_eq_false_iff_not, Bool.not_eq_true', Bool.not_eq_false', Bool.or_eq_true, Bool.or_eq_false_iff, Bool.and_eq_true, Bool.and_eq_false_iff] at *; (repeat' split) <;> first | rfl | omega | (simp_all; done) | (simp_all; omega)) | (refine chk_s ?_; simp_all [spAdv]; done) | (refine chk_s ?_; simp only [spAdv, decide_eq_true_eq, decide_eq_false_iff_not, Bool.not_eq_true', Bool.not_eq_false', Bool.or_eq_true, Bool.or_eq_false_iff, Bool.and_eq_true, Bool.and_eq_false_iff] at *; (repeat' split) <;> first | rfl | omega | (simp_all; done) | (simp_all; omega)) | (simp_all [spAdv]; done) | (simp_all [spAdv]; omega) | skip
  · cases hcr
set_option maxHeartbeats 4000000 in
set_option maxRecDepth 20000 in
theorem okEle (hS : Hyp G) : ConOK Tryz.prog G 156 cEle := by
  refine seat_con hS.seat [] [] trivial Tryz.func156 rfl rfl rfl ?_
  intro rvs cr hcr hpre
  unfold cEle at hcr
  split at hcr
  · cases hcr
    refine ⟨⟨rfl, rfl, rfl⟩, fun c hc vs => ?_⟩
    repeat' (first | exact Bool.noConfusion ‹(!true) = true› | exact Bool.noConfusion ‹(!false) = false› | (intro h; exact h) | (intro h; rw [h]; rfl) | (intro h1 h2; rw [h1, h2]; rfl) | (intro _; assumption) | (intro _; exact rfl) | (intro h; exact Bool.noConfusion (h.symm.trans ‹_ = false›)) | refine ⟨fun _ => ?_, fun _ => ?_⟩ | refine ⟨?_⟩ | refine ⟨?_, ?_⟩ | fail)
    all_goals first | exact rfl | (refine chk_i ?_; simp_all [spEle]; done) | (refine chk_i ?_; simp only [spEle, decide_eq_true_eq, decide_eq_false_iff_not, Bool.not_eq_true', Bool.not_eq_false', Bool.or_eq_true, Bool.or_eq_false_iff, Bool.and_eq_true, Bool.and_eq_false_iff] at *; (repeat' split) <;> first | rfl | omega | (simp_all; done) | (simp_all; omega)) | (refine chk_b ?_; simp_all [spEle]; done) | (refine chk_b ?_; simp only [spEle, decide_eq_true_eq, decide_eq_false_iff_not, Bool.not_eq_true', Bool.not_eq_false', Bool.or_eq_true, Bool.or_eq_false_iff, Bool.and_eq_true, Bool.and_eq_false_iff] at *; (repeat' split) <;> first | rfl | omega | (simp_all; done) | (simp_all; omega)) | (refine chk_s ?_; simp_all [spEle]; done) | (refine chk_s ?_; simp only [spEle, decide_eq_true_eq, decide_eq_false_iff_not, Bool.not_eq_true', Bool.not_eq_false', Bool.or_eq_true, Bool.or_eq_false_iff, Bool.and_eq_true, Bool.and_eq_false_iff] at *; (repeat' split) <;> first | rfl | omega | (simp_all; done) | (simp_all; omega)) | (simp_all [spEle]; done) | (simp_all [spEle]; omega) | skip
  · cases hcr
set_option maxHeartbeats 4000000 in
set_option maxRecDepth 20000 in
theorem okPwn (hS : Hyp G) : ConOK Tryz.prog G 157 cPwn := by
  refine seat_con hS.seat [(147, cOvr)] [] ⟨okOvr hS, trivial⟩ Tryz.func157 rfl rfl rfl ?_
  intro rvs cr hcr hpre
  unfold cPwn at hcr
  split at hcr
  · cases hcr
    refine ⟨⟨rfl, rfl, rfl⟩, fun c hc vs => ?_⟩
    repeat' (first | exact Bool.noConfusion ‹(!true) = true› | exact Bool.noConfusion ‹(!false) = false› | (intro h; exact h) | (intro h; rw [h]; rfl) | (intro h1 h2; rw [h1, h2]; rfl) | (intro _; assumption) | (intro _; exact rfl) | (intro h; exact Bool.noConfusion (h.symm.trans ‹_ = false›)) | refine ⟨fun _ => ?_, fun _ => ?_⟩ | refine ⟨?_⟩ | refine ⟨?_, ?_⟩ | fail)
    all_goals first | exact rfl | (refine chk_i ?_; simp_all [spPwn]; done) | (refine chk_i ?_; simp only [spPwn, decide_eq_true_eq, decide_eq_false_iff_not, Bool.not_eq_true', Bool.not_eq_false', Bool.or_eq_true, Bool.or_eq_false_iff, Bool.and_eq_true, Bool.and_eq_false_iff] at *; (repeat' split) <;> first | rfl | omega | (simp_all; done) | (simp_all; omega)) | (refine chk_b ?_; simp_all [spPwn]; done) | (refine chk_b ?_; simp only [spPwn, decide_eq_true_eq, decide_eq_false_iff_not, Bool.not_eq_true', Bool.not_eq_false', Bool.or_eq_true, Bool.or_eq_false_iff, Bool.and_eq_true, Bool.and_eq_false_iff] at *; (repeat' split) <;> first | rfl | omega | (simp_all; done) | (simp_all; omega)) | (refine chk_s ?_; simp_all [spPwn]; done) | (refine chk_s ?_; simp only [spPwn, decide_eq_true_eq, decide_eq_false_iff_not, Bool.not_eq_true', Bool.not_eq_false', Bool.or_eq_true, Bool.or_eq_false_iff, Bool.and_eq_true, Bool.and_eq_false_iff] at *; (repeat' split) <;> first | rfl | omega | (simp_all; done) | (simp_all; omega)) | (simp_all [spPwn]; done) | (simp_all [spPwn]; omega) | skip
  · cases hcr
set_option maxHeartbeats 4000000 in
set_option maxRecDepth 20000 in
theorem okMay (hS : Hyp G) : ConOK Tryz.prog G 143 cMay := by
  refine seat_con hS.seat [(29, cSide), (45, cKind), (146, cSeen), (154, cPal), (155, cAdv), (156, cEle), (157, cPwn)] [] ⟨okSide hS, okKind hS, okSeen hS, okPal hS, okAdv hS, okEle hS, okPwn hS, trivial⟩ Tryz.func143 rfl rfl rfl ?_
  intro rvs cr hcr hpre
  unfold cMay at hcr
  split at hcr
  · cases hcr
    refine ⟨⟨rfl, rfl, rfl⟩, fun c hc vs => ?_⟩
    repeat' (first | exact Bool.noConfusion ‹(!true) = true› | exact Bool.noConfusion ‹(!false) = false› | (intro h; exact h) | (intro h; rw [h]; rfl) | (intro h1 h2; rw [h1, h2]; rfl) | (intro _; assumption) | (intro _; exact rfl) | (intro h; exact Bool.noConfusion (h.symm.trans ‹_ = false›)) | refine ⟨fun _ => ?_, fun _ => ?_⟩ | refine ⟨?_⟩ | refine ⟨?_, ?_⟩ | fail)
    all_goals first | exact rfl | (refine chk_i ?_; simp_all [spMay]; done) | (refine chk_i ?_; simp only [spMay, decide_eq_true_eq, decide_eq_false_iff_not, Bool.not_eq_true', Bool.not_eq_false', Bool.or_eq_true, Bool.or_eq_false_iff, Bool.and_eq_true, Bool.and_eq_false_iff] at *; (repeat' split) <;> first | rfl | omega | (simp_all; done) | (simp_all; omega)) | (refine chk_b ?_; simp_all [spMay]; done) | (refine chk_b ?_; simp only [spMay, decide_eq_true_eq, decide_eq_false_iff_not, Bool.not_eq_true', Bool.not_eq_false', Bool.or_eq_true, Bool.or_eq_false_iff, Bool.and_eq_true, Bool.and_eq_false_iff] at *; (repeat' split) <;> first | rfl | omega | (simp_all; done) | (simp_all; omega)) | (refine chk_s ?_; simp_all [spMay]; done) | (refine chk_s ?_; simp only [spMay, decide_eq_true_eq, decide_eq_false_iff_not, Bool.not_eq_true', Bool.not_eq_false', Bool.or_eq_true, Bool.or_eq_false_iff, Bool.and_eq_true, Bool.and_eq_false_iff] at *; (repeat' split) <;> first | rfl | omega | (simp_all; done) | (simp_all; omega)) | (simp_all [spMay]; done) | (simp_all [spMay]; omega) | skip
  · cases hcr
set_option maxHeartbeats 4000000 in
set_option maxRecDepth 20000 in
theorem okOver (hS : Hyp G) : ConOK Tryz.prog G 126 cOver := by
  refine seat_con hS.seat [(146, cSeen), (147, cOvr)] [] ⟨okSeen hS, okOvr hS, trivial⟩ Tryz.func126 rfl rfl rfl ?_
  intro rvs cr hcr hpre
  unfold cOver at hcr
  split at hcr
  · cases hcr
    refine ⟨⟨rfl, rfl, rfl⟩, fun c hc vs => ?_⟩
    repeat' (first | exact Bool.noConfusion ‹(!true) = true› | exact Bool.noConfusion ‹(!false) = false› | (intro h; exact h) | (intro h; rw [h]; rfl) | (intro h1 h2; rw [h1, h2]; rfl) | (intro _; assumption) | (intro _; exact rfl) | (intro h; exact Bool.noConfusion (h.symm.trans ‹_ = false›)) | refine ⟨fun _ => ?_, fun _ => ?_⟩ | refine ⟨?_⟩ | refine ⟨?_, ?_⟩ | fail)
    all_goals first | exact rfl | (refine chk_i ?_; simp_all [spOver]; done) | (refine chk_i ?_; simp only [spOver, decide_eq_true_eq, decide_eq_false_iff_not, Bool.not_eq_true', Bool.not_eq_false', Bool.or_eq_true, Bool.or_eq_false_iff, Bool.and_eq_true, Bool.and_eq_false_iff] at *; (repeat' split) <;> first | rfl | omega | (simp_all; done) | (simp_all; omega)) | (refine chk_b ?_; simp_all [spOver]; done) | (refine chk_b ?_; simp only [spOver, decide_eq_true_eq, decide_eq_false_iff_not, Bool.not_eq_true', Bool.not_eq_false', Bool.or_eq_true, Bool.or_eq_false_iff, Bool.and_eq_true, Bool.and_eq_false_iff] at *; (repeat' split) <;> first | rfl | omega | (simp_all; done) | (simp_all; omega)) | (refine chk_s ?_; simp_all [spOver]; done) | (refine chk_s ?_; simp only [spOver, decide_eq_true_eq, decide_eq_false_iff_not, Bool.not_eq_true', Bool.not_eq_false', Bool.or_eq_true, Bool.or_eq_false_iff, Bool.and_eq_true, Bool.and_eq_false_iff] at *; (repeat' split) <;> first | rfl | omega | (simp_all; done) | (simp_all; omega)) | (simp_all [spOver]; done) | (simp_all [spOver]; omega) | skip
  · cases hcr
end
end Go.X

namespace Go.X
open Go Go.Proofs

def rtS (s : BS) : RT := .agg [.a (.i .u64 (.ofNat s.1)), .a (.i .u64 (.ofNat s.2))]
def cOne : Con
  | [.a (.i .i64 n)] => some ⟨[], rtS (spOne n), [], []⟩
  | _ => none
def cOr : Con
  | [.agg [.a (.i .u64 a0), .a (.i .u64 a1)], .agg [.a (.i .u64 b0), .a (.i .u64 b1)]] => some ⟨[UI a0, UI a1, UI b0, UI b1], rtS (spOr (a0.toNat, a1.toNat) (b0.toNat, b1.toNat)), [], []⟩
  | _ => none
def cMinus : Con
  | [.agg [.a (.i .u64 a0), .a (.i .u64 a1)], .agg [.a (.i .u64 b0), .a (.i .u64 b1)]] => some ⟨[UI a0, UI a1, UI b0, UI b1], rtS (spMinus (a0.toNat, a1.toNat) (b0.toNat, b1.toNat)), [], []⟩
  | _ => none
def cWith : Con
  | [.agg [.a (.i .u64 a0), .a (.i .u64 a1)], .a (.i .i64 n)] => some ⟨[UI a0, UI a1], rtS (spWith (a0.toNat, a1.toNat) n), [], []⟩
  | _ => none
def cWithout : Con
  | [.agg [.a (.i .u64 a0), .a (.i .u64 a1)], .a (.i .i64 n)] => some ⟨[UI a0, UI a1], rtS (spWithout (a0.toNat, a1.toNat) n), [], []⟩
  | _ => none
def cPlain : Con
  | [.agg [.a (.i .u64 a0), .a (.i .u64 a1)]] => some ⟨[UI a0, UI a1], rtS (spPlain (a0.toNat, a1.toNat)), [], []⟩
  | _ => none
def cTz : Con
  | [.a (.i .u64 x)] => some ⟨[UI x], .a (.i .i64 (.ofNat (Lib.ctz 64 x.toNat))), [], []⟩
  | _ => none
def cFirst : Con
  | [.agg [.a (.i .u64 a0), .a (.i .u64 a1)]] => some ⟨[UI a0, UI a1], .a (.i .i64 (spFirst (a0.toNat, a1.toNat))), [], []⟩
  | _ => none
def cEach : Con
  | [.agg [.a (.i .u64 a0), .a (.i .u64 a1)]] => some ⟨[], .fn 116 [.box 68 [.a (.i .u64 a0), .a (.i .u64 a1)]], [], []⟩
  | _ => none

theorem shl64 {n : Int} (h : 0 ≤ n) (h' : n < 45) : IntKind.u64.wrap (1 * 2 ^ min n.toNat IntKind.u64.bits) = Int.ofNat (2 ^ n.toNat) := by
  have h1 : min n.toNat IntKind.u64.bits = n.toNat := Nat.min_eq_left (by show n.toNat ≤ 64; omega)
  have h2 : 2 ^ n.toNat < 2 ^ 45 := Nat.pow_lt_pow_right (by decide) (by omega)
  rw [h1, IntKind.wrap_u64, Int.one_mul]
  have h3 : ((2 : Int) ^ n.toNat) = ((2 ^ n.toNat : Nat) : Int) := by simp
  rw [h3]
  show _ = ((2 ^ n.toNat : Nat) : Int)
  generalize 2 ^ n.toNat = m at h2
  have : m < 35184372088832 := h2
  omega
section
variable {G : Nat → World → Prop}
set_option maxHeartbeats 4000000 in
set_option maxRecDepth 20000 in
theorem okOne (hS : Hyp G) : ConOK Tryz.prog G 114 cOne := by
  refine seat_con hS.seat [] [] trivial Tryz.func114 rfl rfl rfl ?_
  intro rvs cr hcr hpre
  unfold cOne at hcr
  split at hcr
  · cases hcr
    refine ⟨⟨rfl, rfl, rfl⟩, fun c hc vs => ?_⟩
    repeat' (first | exact Bool.noConfusion ‹(!true) = true› | exact Bool.noConfusion ‹(!false) = false› | (intro h; exact h) | (intro h; rw [h]; rfl) | (intro h1 h2; rw [h1, h2]; rfl) | (intro _; assumption) | (intro _; exact rfl) | (intro h; exact Bool.noConfusion (h.symm.trans ‹_ = false›)) | refine ⟨fun _ => ?_, fun _ => ?_⟩ | refine ⟨?_⟩ | refine ⟨?_, ?_⟩ | fail)
    all_goals first | (refine chk_i ?_) | (refine chk_b ?_) | (refine chk_s ?_) | exact trivial | exact rfl | skip
    · rename_i n _ h; rw [spOne, if_pos h]; rfl
    · rename_i n _ h; rw [spOne, if_pos h]; rfl
    · rename_i n _ h1 h2; simp at h1; omega
    · rename_i n _ h1 h2
      rw [spOne, h1, if_neg (by simp), if_pos (by simpa using h2)]
      simp at h1 h2
      exact shl64 (by omega) (by omega)
    · rename_i n _ h1 h2
      rw [spOne, h1, if_neg (by simp), if_pos (by simpa using h2)]; rfl
    · rename_i n _ h1 h2; simp at h1 h2; rw [wrap64 (by omega) (by omega)]; omega
    · rename_i n _ h1 h2
      rw [spOne, h1, if_neg (by simp), if_neg (by simpa using h2)]; rfl
    · rename_i n _ h1 h2
      rw [spOne, h1, if_neg (by simp), if_neg (by simpa using h2)]
      simp at h1 h2
      rw [wrap64 (by omega) (by omega)]
      exact shl64 (by omega) (by omega)
  · cases hcr
set_option maxHeartbeats 4000000 in
set_option maxRecDepth 20000 in
theorem okPlain (hS : Hyp G) : ConOK Tryz.prog G 117 cPlain := by
  refine seat_con hS.seat [] [] trivial Tryz.func117 rfl rfl rfl ?_
  intro rvs cr hcr hpre
  unfold cPlain at hcr
  split at hcr
  · cases hcr
    simp only [List.mem_cons, List.not_mem_nil, or_false, forall_eq_or_imp, forall_eq] at hpre
    refine ⟨⟨rfl, rfl, rfl⟩, fun c hc vs => ?_⟩
    repeat' (first | exact Bool.noConfusion ‹(!true) = true› | exact Bool.noConfusion ‹(!false) = false› | (intro h; exact h) | (intro h; rw [h]; rfl) | (intro h1 h2; rw [h1, h2]; rfl) | (intro _; assumption) | (intro _; exact rfl) | (intro h; exact Bool.noConfusion (h.symm.trans ‹_ = false›)) | refine ⟨fun _ => ?_, fun _ => ?_⟩ | refine ⟨?_⟩ | refine ⟨?_, ?_⟩ | fail)
    all_goals first | (refine chk_i ?_) | (refine chk_b ?_) | (refine chk_s ?_) | exact trivial | exact rfl | skip
    · exact and_nat hpre.1 UI_M
    · exact and_nat hpre.2 UI_M
  · cases hcr
set_option maxHeartbeats 4000000 in
set_option maxRecDepth 20000 in
theorem okOr (hS : Hyp G) : ConOK Tryz.prog G 113 cOr := by
  refine seat_con hS.seat [(117, cPlain)] [] ⟨okPlain hS, trivial⟩ Tryz.func113 rfl rfl rfl ?_
  intro rvs cr hcr hpre
  unfold cOr at hcr
  split at hcr
  · cases hcr
    simp only [List.mem_cons, List.not_mem_nil, or_false, forall_eq_or_imp, forall_eq] at hpre
    refine ⟨⟨rfl, rfl, rfl⟩, fun c hc vs => ?_⟩
    repeat' (first | exact Bool.noConfusion ‹(!true) = true› | exact Bool.noConfusion ‹(!false) = false› | (intro h; exact h) | (intro h; rw [h]; rfl) | (intro h1 h2; rw [h1, h2]; rfl) | (intro _; assumption) | (intro _; exact rfl) | (intro h; exact Bool.noConfusion (h.symm.trans ‹_ = false›)) | refine ⟨fun _ => ?_, fun _ => ?_⟩ | refine ⟨?_⟩ | refine ⟨?_, ?_⟩ | fail)
    all_goals first | (refine chk_i ?_) | (refine chk_b ?_) | (refine chk_s ?_) | exact trivial | exact rfl | skip
    · exact UI_or hpre.1 hpre.2.2.1
    · exact UI_or hpre.2.1 hpre.2.2.2
    · rw [or_nat hpre.1 hpre.2.2.1, or_nat hpre.2.1 hpre.2.2.2]; rfl
    · rw [or_nat hpre.1 hpre.2.2.1, or_nat hpre.2.1 hpre.2.2.2]; rfl
  · cases hcr
set_option maxHeartbeats 4000000 in
set_option maxRecDepth 20000 in
theorem okMinus (hS : Hyp G) : ConOK Tryz.prog G 141 cMinus := by
  refine seat_con hS.seat [(117, cPlain)] [] ⟨okPlain hS, trivial⟩ Tryz.func141 rfl rfl rfl ?_
  intro rvs cr hcr hpre
  unfold cMinus at hcr
  split at hcr
  · cases hcr
    simp only [List.mem_cons, List.not_mem_nil, or_false, forall_eq_or_imp, forall_eq] at hpre
    refine ⟨⟨rfl, rfl, rfl⟩, fun c hc vs => ?_⟩
    repeat' (first | exact Bool.noConfusion ‹(!true) = true› | exact Bool.noConfusion ‹(!false) = false› | (intro h; exact h) | (intro h; rw [h]; rfl) | (intro h1 h2; rw [h1, h2]; rfl) | (intro _; assumption) | (intro _; exact rfl) | (intro h; exact Bool.noConfusion (h.symm.trans ‹_ = false›)) | refine ⟨fun _ => ?_, fun _ => ?_⟩ | refine ⟨?_⟩ | refine ⟨?_, ?_⟩ | fail)
    all_goals first | (refine chk_i ?_) | (refine chk_b ?_) | (refine chk_s ?_) | exact trivial | exact rfl | skip
    · exact UI_andNot hpre.1 hpre.2.2.1
    · exact UI_andNot hpre.2.1 hpre.2.2.2
    · rw [andNot_nat hpre.1 hpre.2.2.1, andNot_nat hpre.2.1 hpre.2.2.2]; rfl
    · rw [andNot_nat hpre.1 hpre.2.2.1, andNot_nat hpre.2.1 hpre.2.2.2]; rfl
  · cases hcr
set_option maxHeartbeats 4000000 in
set_option maxRecDepth 20000 in
theorem okWith (hS : Hyp G) : ConOK Tryz.prog G 87 cWith := by
  refine seat_con hS.seat [(114, cOne), (113, cOr)] [] ⟨okOne hS, okOr hS, trivial⟩ Tryz.func87 rfl rfl rfl ?_
  intro rvs cr hcr hpre
  unfold cWith at hcr
  split at hcr
  · cases hcr
    simp only [List.mem_cons, List.not_mem_nil, or_false, forall_eq_or_imp, forall_eq] at hpre
    refine ⟨⟨rfl, rfl, rfl⟩, fun c hc vs => ?_⟩
    repeat' (first | exact Bool.noConfusion ‹(!true) = true› | exact Bool.noConfusion ‹(!false) = false› | (intro h; exact h) | (intro h; rw [h]; rfl) | (intro h1 h2; rw [h1, h2]; rfl) | (intro _; assumption) | (intro _; exact rfl) | (intro h; exact Bool.noConfusion (h.symm.trans ‹_ = false›)) | refine ⟨fun _ => ?_, fun _ => ?_⟩ | refine ⟨?_⟩ | refine ⟨?_, ?_⟩ | fail)
    all_goals first | (refine chk_i ?_) | (refine chk_b ?_) | (refine chk_s ?_) | exact trivial | exact rfl | skip
    · exact hpre.1
    · exact hpre.2
    · exact UI.nat (by have := one_lt ‹Int›; omega)
    · exact UI.nat (by have := one_lt ‹Int›; omega)
    · rfl
    · rfl
  · cases hcr
set_option maxHeartbeats 4000000 in
set_option maxRecDepth 20000 in
theorem okWithout (hS : Hyp G) : ConOK Tryz.prog G 119 cWithout := by
  refine seat_con hS.seat [(114, cOne), (141, cMinus)] [] ⟨okOne hS, okMinus hS, trivial⟩ Tryz.func119 rfl rfl rfl ?_
  intro rvs cr hcr hpre
  unfold cWithout at hcr
  split at hcr
  · cases hcr
    simp only [List.mem_cons, List.not_mem_nil, or_false, forall_eq_or_imp, forall_eq] at hpre
    refine ⟨⟨rfl, rfl, rfl⟩, fun c hc vs => ?_⟩
    repeat' (first | exact Bool.noConfusion ‹(!true) = true› | exact Bool.noConfusion ‹(!false) = false› | (intro h; exact h) | (intro h; rw [h]; rfl) | (intro h1 h2; rw [h1, h2]; rfl) | (intro _; assumption) | (intro _; exact rfl) | (intro h; exact Bool.noConfusion (h.symm.trans ‹_ = false›)) | refine ⟨fun _ => ?_, fun _ => ?_⟩ | refine ⟨?_⟩ | refine ⟨?_, ?_⟩ | fail)
    all_goals first | (refine chk_i ?_) | (refine chk_b ?_) | (refine chk_s ?_) | exact trivial | exact rfl | skip
    · exact hpre.1
    · exact hpre.2
    · exact UI.nat (by have := one_lt ‹Int›; omega)
    · exact UI.nat (by have := one_lt ‹Int›; omega)
    · rfl
    · rfl
  · cases hcr
theorem okTz (hS : Hyp G) : ConOK Tryz.prog G 140 cTz := by
  refine con_ext Tryz.func140 rfl rfl ?_
  intro rvs cr hcr hpre
  unfold cTz at hcr
  split at hcr
  · cases hcr
    rename_i x
    have hx := hpre _ (List.mem_singleton.2 rfl)
    obtain ⟨n, rfl⟩ := Int.eq_ofNat_of_zero_le hx.lo
    have hx2 := hx.hi
    refine ⟨_, _, _, rfl, rfl, fun _ _ => rfl, fun g0 w _ hG => (Tryz.bits_TrailingZeros64 n (by omega) w (fun _ => hS.tab g0 w hG)).mono ?_⟩
    rintro e w' ⟨rfl, rfl⟩
    exact ⟨rfl, ⟨rfl, rfl, rfl, Nat.le_refl _, fun _ _ => rfl⟩⟩
  · cases hcr
set_option maxHeartbeats 4000000 in
set_option maxRecDepth 20000 in
theorem okFirst (hS : Hyp G) : ConOK Tryz.prog G 118 cFirst := by
  refine seat_con hS.seat [(117, cPlain), (140, cTz)] [] ⟨okPlain hS, okTz hS, trivial⟩ Tryz.func118 rfl rfl rfl ?_
  intro rvs cr hcr hpre
  unfold cFirst at hcr
  split at hcr
  · cases hcr
    simp only [List.mem_cons, List.not_mem_nil, or_false, forall_eq_or_imp, forall_eq] at hpre
    refine ⟨⟨rfl, rfl, rfl⟩, fun c hc vs => ?_⟩
    repeat' (first | exact Bool.noConfusion ‹(!true) = true› | exact Bool.noConfusion ‹(!false) = false› | (intro h; exact h) | (intro h; rw [h]; rfl) | (intro h1 h2; rw [h1, h2]; rfl) | (intro _; assumption) | (intro _; exact rfl) | (intro h; exact Bool.noConfusion (h.symm.trans ‹_ = false›)) | refine ⟨fun _ => ?_, fun _ => ?_⟩ | refine ⟨?_⟩ | refine ⟨?_, ?_⟩ | fail)
    all_goals first | (refine chk_i ?_) | (refine chk_b ?_) | (refine chk_s ?_) | exact trivial | exact rfl | skip
    all_goals obtain ⟨ha, hb⟩ := hpre
    · exact ha
    · exact hb
    · exact UI.nat (Nat.lt_trans (plain_lt _).1 (by decide))
    · rename_i h; exact first1 _ h
    · exact UI.nat (Nat.lt_trans (plain_lt _).2 (by decide))
    · rename_i h1 h2; exact first2 _ h1 h2
    · rename_i h1 h2; exact first3 _ h1 h2
  · cases hcr
set_option maxHeartbeats 4000000 in
set_option maxRecDepth 20000 in
theorem okEach (hS : Hyp G) : ConOK Tryz.prog G 89 cEach := by
  refine seat_con hS.seat [] [] trivial Tryz.func89 rfl rfl rfl ?_
  intro rvs cr hcr hpre
  unfold cEach at hcr
  split at hcr
  · cases hcr
    simp only [List.mem_cons, List.not_mem_nil, or_false, forall_eq_or_imp, forall_eq] at hpre
    refine ⟨⟨rfl, rfl, rfl⟩, fun c hc vs => ?_⟩
    repeat' (first | exact Bool.noConfusion ‹(!true) = true› | exact Bool.noConfusion ‹(!false) = false› | (intro h; exact h) | (intro h; rw [h]; rfl) | (intro h1 h2; rw [h1, h2]; rfl) | (intro _; assumption) | (intro _; exact rfl) | (intro h; exact Bool.noConfusion (h.symm.trans ‹_ = false›)) | refine ⟨fun _ => ?_, fun _ => ?_⟩ | refine ⟨?_⟩ | refine ⟨?_, ?_⟩ | fail)
    all_goals first | (refine chk_i ?_) | (refine chk_b ?_) | (refine chk_s ?_) | exact trivial | exact rfl | skip
    · rfl
    · rfl
  · cases hcr
end
end Go.X

namespace Go.X
open Go Go.Proofs

def cList : Con
  | [.agg [.a (.i .u64 a0), .a (.i .u64 a1)]] => some ⟨[UI a0, UI a1], .row ⟨3, .int .i64, spList (a0.toNat, a1.toNat), true⟩, [], []⟩
  | _ => none
section
variable {G : Nat → World → Prop}
set_option maxHeartbeats 4000000 in
set_option maxRecDepth 20000 in
theorem okList (hS : Hyp G) : ConOK Tryz.prog G 65 cList := by
  refine seat_con hS.seat [(89, cEach), (117, cPlain), (118, cFirst), (119, cWithout)] [] ⟨okEach hS, okPlain hS, okFirst hS, okWithout hS, trivial⟩ Tryz.func65 rfl rfl rfl ?_
  intro rvs cr hcr hpre
  unfold cList at hcr
  split at hcr
  · rename_i x a0 a1
    cases hcr
    simp only [List.mem_cons, List.not_mem_nil, or_false, forall_eq_or_imp, forall_eq] at hpre
    refine ⟨⟨rfl, rfl, rfl⟩, fun c hc vs => ?_⟩
    repeat' (first | exact Bool.noConfusion ‹(!true) = true› | exact Bool.noConfusion ‹(!false) = false› | (intro h; exact h) | (intro h; rw [h]; rfl) | (intro h1 h2; rw [h1, h2]; rfl) | (intro _; assumption) | (intro _; exact rfl) | (intro h; exact Bool.noConfusion (h.symm.trans ‹_ = false›)) | refine ⟨fun _ => ?_, fun _ => ?_⟩ | refine ⟨?_⟩ | refine ⟨?_, ?_⟩ | fail)
    refine trOps_none rfl (inl_one false hS.seat.tt rfl rfl Tryz.func88 rfl rfl ?_)
    intro cI hk hr
    refine (vs.kin hk).go rfl ?_
    repeat' (first | exact Bool.noConfusion ‹(!true) = true› | exact Bool.noConfusion ‹(!false) = false› | (intro h; exact h) | (intro h; rw [h]; rfl) | (intro h1 h2; rw [h1, h2]; rfl) | (intro _; assumption) | (intro _; exact rfl) | (intro h; exact Bool.noConfusion (h.symm.trans ‹_ = false›)) | refine ⟨fun _ => ?_, fun _ => ?_⟩ | refine ⟨?_⟩ | refine ⟨?_, ?_⟩ | fail)
    refine trOps_none rfl (inl_one false hS.seat.tt rfl rfl Tryz.func115 rfl rfl ?_)
    intro cI2 hk2 hr2
    refine ((vs.kin hk).kin hk2).go rfl ?_
    repeat' (first | exact Bool.noConfusion ‹(!true) = true› | exact Bool.noConfusion ‹(!false) = false› | (intro h; exact h) | (intro h; rw [h]; rfl) | (intro h1 h2; rw [h1, h2]; rfl) | (intro _; assumption) | (intro _; exact rfl) | (intro h; exact Bool.noConfusion (h.symm.trans ‹_ = false›)) | refine ⟨fun _ => ?_, fun _ => ?_⟩ | refine ⟨?_⟩ | refine ⟨?_, ?_⟩ | fail)
    refine Tr_nilBox 3 (.int .i64) 2 0 rfl rfl (by decide) ?_
    refine tr_range hr2 rfl Tryz.func116 rfl rfl rfl (fun c2 hk3 hr3 hI => ?_)
    refine (((vs.kin hk).kin hk2).kin hk3).go rfl ?_
    repeat' (first | exact Bool.noConfusion ‹(!true) = true› | exact Bool.noConfusion ‹(!false) = false› | (intro h; exact h) | (intro h; rw [h]; rfl) | (intro h1 h2; rw [h1, h2]; rfl) | (intro _; assumption) | (intro _; exact rfl) | (intro h; exact Bool.noConfusion (h.symm.trans ‹_ = false›)) | refine ⟨fun _ => ?_, fun _ => ?_⟩ | refine ⟨?_⟩ | refine ⟨?_, ?_⟩ | fail)
    · exact hpre.1
    · exact hpre.2
    refine Tr_loopH (α := BS × List Int) (fun _ => []) (fun x => [(1, some ⟨68, [.i .u64 (.ofNat x.1.1), .i .u64 (.ofNat x.1.2)], true⟩)]) (fun x => [(0, some ⟨3, .int .i64, x.2, true⟩)])
      (fun x => (x.1.1 < 2 ^ 45 ∧ x.1.2 < 2 ^ 45) ∧ x.2 ++ spList x.1 = spList (a0.toNat, a1.toNat)) (fun x => (spList x.1).length) (spPlain (a0.toNat, a1.toNat), []) ?_ ?_ ?_
    · exact ⟨plain_lt _, by rw [List.nil_append, spList_plain]⟩
    · (refine ⟨?_, rfl, ?_, ?_, ?_, rfl⟩ <;> repeat' (first | exact trivial | (refine ⟨rfl, ?_⟩) | fail))
    · rintro ⟨b, acc⟩ ⟨hb, hacc⟩
      have hlen : acc.length ≤ 90 := by
        have h1 := congrArg List.length hacc
        have h2 := spList_len (a0.toNat, a1.toNat)
        simp only [List.length_append] at h1
        omega
      refine (((vs.kin hk).kin hk2).kin hk3).go rfl ?_
      repeat' (first | exact Bool.noConfusion ‹(!true) = true› | exact Bool.noConfusion ‹(!false) = false› | (intro h; exact h) | (intro h; rw [h]; rfl) | (intro h1 h2; rw [h1, h2]; rfl) | (intro _; assumption) | (intro _; exact rfl) | (intro h; exact Bool.noConfusion (h.symm.trans ‹_ = false›)) | refine ⟨fun _ => ?_, fun _ => ?_⟩ | refine ⟨?_⟩ | refine ⟨?_, ?_⟩ | fail)
      · exact UI.nat (Nat.lt_trans hb.1 (by decide))
      · exact UI.nat (Nat.lt_trans hb.2 (by decide))
      · rename_i hne
        refine trOps_none rfl (yield_one false hI rfl rfl rfl rfl ?_)
        intro c3 hk4
        refine ((((vs.kin hk).kin hk2).kin hk3).kin hk4).go rfl ?_
        repeat' (first | exact Bool.noConfusion ‹(!true) = true› | exact Bool.noConfusion ‹(!false) = false› | (intro h; exact h) | (intro h; rw [h]; rfl) | (intro h1 h2; rw [h1, h2]; rfl) | (intro _; assumption) | (intro _; exact rfl) | (intro h; exact Bool.noConfusion (h.symm.trans ‹_ = false›)) | refine ⟨fun _ => ?_, fun _ => ?_⟩ | refine ⟨?_⟩ | refine ⟨?_, ?_⟩ | fail)
        refine ((((vs.kin hk).kin hk2).kin hk3).kin hk4).go rfl ?_
        repeat' (first | exact Bool.noConfusion ‹(!true) = true› | exact Bool.noConfusion ‹(!false) = false› | (intro h; exact h) | (intro h; rw [h]; rfl) | (intro h1 h2; rw [h1, h2]; rfl) | (intro _; assumption) | (intro _; exact rfl) | (intro h; exact Bool.noConfusion (h.symm.trans ‹_ = false›)) | refine ⟨fun _ => ?_, fun _ => ?_⟩ | refine ⟨?_⟩ | refine ⟨?_, ?_⟩ | fail)
        · show acc.length + 1 ≤ 4000000000; omega
        · show (acc.length + 1) * 8 ≤ 140737488355328; omega
        refine (((vs.kin hk).kin hk2).kin hk3).on ?_
        repeat' (first | exact Bool.noConfusion ‹(!true) = true› | exact Bool.noConfusion ‹(!false) = false› | (intro h; exact h) | (intro h; rw [h]; rfl) | (intro h1 h2; rw [h1, h2]; rfl) | (intro _; assumption) | (intro _; exact rfl) | (intro h; exact Bool.noConfusion (h.symm.trans ‹_ = false›)) | refine ⟨fun _ => ?_, fun _ => ?_⟩ | refine ⟨?_⟩ | refine ⟨?_, ?_⟩ | fail)
        · exact UI.nat (Nat.lt_trans hb.1 (by decide))
        · exact UI.nat (Nat.lt_trans hb.2 (by decide))
        have h0 : b ≠ (0, 0) := fun h => by rw [h] at hne; simp [EK.eqb] at hne
        have hst := spList_step hb h0
        refine Again.mk (spWithout b (spFirst b), acc ++ [spFirst b]) ⟨minus_lt _ _, ?_⟩ ?_ ?_
        · show (acc ++ [spFirst b]) ++ spList (spWithout b (spFirst b)) = _
          rw [← hacc, List.append_assoc]
          show acc ++ (spFirst b :: spList (spWithout b (spFirst b))) = acc ++ spList b
          rw [hst]
        · show (spList (spWithout b (spFirst b))).length < (spList b).length
          rw [hst]; simp
        · (refine ⟨?_, rfl, ?_, ?_, ?_, rfl⟩ <;> repeat' (first | exact trivial | (refine ⟨rfl, ?_⟩) | fail))
      · rename_i he
        have h0 : b = (0, 0) := by
          obtain ⟨u, v⟩ := b
          simp [EK.eqb] at he
          have h1 : u = 0 := by omega
          have h2 : v = 0 := by omega
          rw [h1, h2]
        have hacc' : acc = spList (a0.toNat, a1.toNat) := by
          rw [← hacc]; show acc = acc ++ spList b
          rw [h0, spList_zero, List.append_nil]
        refine (vs.kin hk).on ?_
        repeat' (first | exact Bool.noConfusion ‹(!true) = true› | exact Bool.noConfusion ‹(!false) = false› | (intro h; exact h) | (intro h; rw [h]; rfl) | (intro h1 h2; rw [h1, h2]; rfl) | (intro _; assumption) | (intro _; exact rfl) | (intro h; exact Bool.noConfusion (h.symm.trans ‹_ = false›)) | refine ⟨fun _ => ?_, fun _ => ?_⟩ | refine ⟨?_⟩ | refine ⟨?_, ?_⟩ | fail)
        refine vs.on ?_
        repeat' (first | exact Bool.noConfusion ‹(!true) = true› | exact Bool.noConfusion ‹(!false) = false› | (intro h; exact h) | (intro h; rw [h]; rfl) | (intro h1 h2; rw [h1, h2]; rfl) | (intro _; assumption) | (intro _; exact rfl) | (intro h; exact Bool.noConfusion (h.symm.trans ‹_ = false›)) | refine ⟨fun _ => ?_, fun _ => ?_⟩ | refine ⟨?_⟩ | refine ⟨?_, ?_⟩ | fail)
        · show (⟨3, .int .i64, acc, true⟩ : Row) = ⟨3, .int .i64, spList (a0.toNat, a1.toNat), true⟩
          rw [hacc']
        · rfl
  · cases hcr
end
end Go.X

namespace Go.X
open Go Go.Proofs

def cPieces : Con
  | [.a (.s p), .a (.i .i64 side)] => some ⟨[], .row ⟨3, .int .i64, spList (spSet p (spOf side)), true⟩, [], []⟩
  | _ => none
def cFind : Con
  | [.a (.s p), .a (.i .u8 c)] => some ⟨[], .row ⟨3, .int .i64, spList (spSet p (· == c)), true⟩, [], []⟩
  | _ => none
def cPieces1 : Con
  | [.a (.i .u8 c), .box _ 0 _ _ [.a (.i .i64 side)]] => some ⟨[], .a (.b (spOf side c)), [], []⟩
  | _ => none
def cFind1 : Con
  | [.a (.i .u8 x), .box _ 0 _ _ [.a (.i .u8 c)]] => some ⟨[], .a (.b (x == c)), [], []⟩
  | _ => none
section
variable {G : Nat → World → Prop}
set_option maxHeartbeats 4000000 in
set_option maxRecDepth 20000 in
theorem okPieces1 (hS : Hyp G) : ConOK Tryz.prog G 64 cPieces1 := by
  refine seat_con hS.seat [(29, cSide)] [] ⟨okSide hS, trivial⟩ Tryz.func64 rfl rfl rfl ?_
  intro rvs cr hcr hpre
  unfold cPieces1 at hcr
  split at hcr
  · cases hcr
    refine ⟨⟨rfl, rfl, rfl⟩, fun c hc vs => ?_⟩
    repeat' (first | exact Bool.noConfusion ‹(!true) = true› | exact Bool.noConfusion ‹(!false) = false› | (intro h; exact h) | (intro h; rw [h]; rfl) | (intro h1 h2; rw [h1, h2]; rfl) | (intro _; assumption) | (intro _; exact rfl) | (intro h; exact Bool.noConfusion (h.symm.trans ‹_ = false›)) | refine ⟨fun _ => ?_, fun _ => ?_⟩ | refine ⟨?_⟩ | refine ⟨?_, ?_⟩ | fail)
    all_goals first | exact rfl | (refine chk_i ?_; simp_all [spOf]; done) | (refine chk_i ?_; simp only [spOf, decide_eq_true_eq, decide_eq_false_iff_not, Bool.not_eq_true', Bool.not_eq_false', Bool.or_eq_true, Bool.or_eq_false_iff, Bool.and_eq_true, Bool.and_eq_false_iff] at *; (repeat' split) <;> first | rfl | omega | (simp_all; done) | (simp_all; omega)) | (refine chk_b ?_; simp_all [spOf]; done) | (refine chk_b ?_; simp only [spOf, decide_eq_true_eq, decide_eq_false_iff_not, Bool.not_eq_true', Bool.not_eq_false', Bool.or_eq_true, Bool.or_eq_false_iff, Bool.and_eq_true, Bool.and_eq_false_iff] at *; (repeat' split) <;> first | rfl | omega | (simp_all; done) | (simp_all; omega)) | (refine chk_s ?_; simp_all [spOf]; done) | (refine chk_s ?_; simp only [spOf, decide_eq_true_eq, decide_eq_false_iff_not, Bool.not_eq_true', Bool.not_eq_false', Bool.or_eq_true, Bool.or_eq_false_iff, Bool.and_eq_true, Bool.and_eq_false_iff] at *; (repeat' split) <;> first | rfl | omega | (simp_all; done) | (simp_all; omega)) | (simp_all [spOf]; done) | (simp_all [spOf]; omega) | skip
  · cases hcr
set_option maxHeartbeats 4000000 in
set_option maxRecDepth 20000 in
theorem okFind1 (hS : Hyp G) : ConOK Tryz.prog G 138 cFind1 := by
  refine seat_con hS.seat [] [] trivial Tryz.func138 rfl rfl rfl ?_
  intro rvs cr hcr hpre
  unfold cFind1 at hcr
  split at hcr
  · cases hcr
    refine ⟨⟨rfl, rfl, rfl⟩, fun c hc vs => ?_⟩
    repeat' (first | exact Bool.noConfusion ‹(!true) = true› | exact Bool.noConfusion ‹(!false) = false› | (intro h; exact h) | (intro h; rw [h]; rfl) | (intro h1 h2; rw [h1, h2]; rfl) | (intro _; assumption) | (intro _; exact rfl) | (intro h; exact Bool.noConfusion (h.symm.trans ‹_ = false›)) | refine ⟨fun _ => ?_, fun _ => ?_⟩ | refine ⟨?_⟩ | refine ⟨?_, ?_⟩ | fail)
    all_goals first | exact rfl | (refine chk_i ?_; simp_all [id_eq]; done) | (refine chk_i ?_; simp only [id_eq, decide_eq_true_eq, decide_eq_false_iff_not, Bool.not_eq_true', Bool.not_eq_false', Bool.or_eq_true, Bool.or_eq_false_iff, Bool.and_eq_true, Bool.and_eq_false_iff] at *; (repeat' split) <;> first | rfl | omega | (simp_all; done) | (simp_all; omega)) | (refine chk_b ?_; simp_all [id_eq]; done) | (refine chk_b ?_; simp only [id_eq, decide_eq_true_eq, decide_eq_false_iff_not, Bool.not_eq_true', Bool.not_eq_false', Bool.or_eq_true, Bool.or_eq_false_iff, Bool.and_eq_true, Bool.and_eq_false_iff] at *; (repeat' split) <;> first | rfl | omega | (simp_all; done) | (simp_all; omega)) | (refine chk_s ?_; simp_all [id_eq]; done) | (refine chk_s ?_; simp only [id_eq, decide_eq_true_eq, decide_eq_false_iff_not, Bool.not_eq_true', Bool.not_eq_false', Bool.or_eq_true, Bool.or_eq_false_iff, Bool.and_eq_true, Bool.and_eq_false_iff] at *; (repeat' split) <;> first | rfl | omega | (simp_all; done) | (simp_all; omega)) | (simp_all [id_eq]; done) | (simp_all [id_eq]; omega) | skip
  · cases hcr
def cSetP : Con
  | [.a (.s p), .fn 64 [.box _ 0 3 _ [.a (.i .i64 v)]]] => some ⟨[], rtS (spSet p (spOf v)), [], []⟩
  | _ => none
set_option maxHeartbeats 4000000 in
set_option maxRecDepth 20000 in
theorem okSetP (hS : Hyp G) : ConOK Tryz.prog G 63 cSetP := by
  refine seat_con hS.seat [(51, cIs), (64, cPieces1), (87, cWith)] [] ⟨okIs hS, okPieces1 hS, okWith hS, trivial⟩ Tryz.func63 rfl rfl rfl ?_
  intro rvs cr hcr hpre
  unfold cSetP at hcr
  split at hcr
  · rename_i p id o v
    cases hcr
    refine ⟨⟨rfl, rfl, rfl⟩, fun c hc vs => ?_⟩
    repeat' (first | exact Bool.noConfusion ‹(!true) = true› | exact Bool.noConfusion ‹(!false) = false› | (intro h; exact h) | (intro h; rw [h]; rfl) | (intro h1 h2; rw [h1, h2]; rfl) | (intro _; assumption) | (intro _; exact rfl) | (intro h; exact Bool.noConfusion (h.symm.trans ‹_ = false›)) | refine ⟨fun _ => ?_, fun _ => ?_⟩ | refine ⟨?_⟩ | refine ⟨?_, ?_⟩ | fail)
    · rename_i his
      refine Tr_loopH (α := Nat) (fun i => [(9, .i .i64 (.ofNat i))]) (fun i => [(2, some ⟨68, [.i .u64 (.ofNat (spUpTo p (spOf v) i).1), .i .u64 (.ofNat (spUpTo p (spOf v) i).2)], true⟩)]) (fun _ => [])
        (fun i => i ≤ 90) (fun i => 90 - i) 0 (by omega) (by (refine ⟨?_, rfl, ?_, ?_, ?_, rfl⟩ <;> repeat' (first | exact trivial | (refine ⟨rfl, ?_⟩) | fail))) ?_
      intro i hi
      refine vs.go rfl ?_
      repeat' (first | exact Bool.noConfusion ‹(!true) = true› | exact Bool.noConfusion ‹(!false) = false› | (intro h; exact h) | (intro h; rw [h]; rfl) | (intro h1 h2; rw [h1, h2]; rfl) | (intro _; assumption) | (intro _; exact rfl) | (intro h; exact Bool.noConfusion (h.symm.trans ‹_ = false›)) | refine ⟨fun _ => ?_, fun _ => ?_⟩ | refine ⟨?_⟩ | refine ⟨?_, ?_⟩ | fail)
      · rename_i h; have := spIs_size his; simp at h; show (i : Int) < p.size; omega
      · exact UI.nat (Nat.lt_trans (upTo_lt _ _ _).1 (by decide))
      · exact UI.nat (Nat.lt_trans (upTo_lt _ _ _).2 (by decide))
      · rename_i h hf
        have h' : i < 90 := by simp at h; omega
        refine Again.mk (i + 1) (by omega) (by omega) ?_
        have e : spUpTo p (spOf v) (i + 1) = spWith (spUpTo p (spOf v) i) i := by
          rw [spUpTo, if_pos]; exact hf
        dsimp only
        rw [wrapS (by omega), e]
        (refine ⟨?_, rfl, ?_, ?_, ?_, rfl⟩ <;> repeat' (first | exact trivial | (refine ⟨rfl, ?_⟩) | fail))
      · rename_i h hf
        have h' : i < 90 := by simp at h; omega
        refine Again.mk (i + 1) (by omega) (by omega) ?_
        have e : spUpTo p (spOf v) (i + 1) = spUpTo p (spOf v) i := by
          rw [spUpTo, if_neg]; intro hh; exact Bool.noConfusion (hh.symm.trans hf)
        rw [wrapS (by omega), e]
        (refine ⟨?_, rfl, ?_, ?_, ?_, rfl⟩ <;> repeat' (first | exact trivial | (refine ⟨rfl, ?_⟩) | fail))
      all_goals
        rename_i h
        have h90 : i = 90 := by simp at h; omega
        subst h90
        have e : spSet p (spOf v) = spUpTo p (spOf v) 90 := by rw [spSet, if_pos his]
      · rw [e]; exact rfl
      · rw [e]; exact rfl
      · trivial
      · rfl
    all_goals
      rename_i his
      have e : spSet p (spOf v) = (0, 0) := by rw [spSet, his]; rfl
    · rw [e]; exact rfl
    · rw [e]; exact rfl
    · trivial
    · rfl
  · cases hcr
def cSetF : Con
  | [.a (.s p), .fn 138 [.box _ 0 5 _ [.a (.i .u8 v)]]] => some ⟨[], rtS (spSet p ((· == v))), [], []⟩
  | _ => none
set_option maxHeartbeats 4000000 in
set_option maxRecDepth 20000 in
theorem okSetF (hS : Hyp G) : ConOK Tryz.prog G 63 cSetF := by
  refine seat_con hS.seat [(51, cIs), (138, cFind1), (87, cWith)] [] ⟨okIs hS, okFind1 hS, okWith hS, trivial⟩ Tryz.func63 rfl rfl rfl ?_
  intro rvs cr hcr hpre
  unfold cSetF at hcr
  split at hcr
  · rename_i p id o v
    cases hcr
    refine ⟨⟨rfl, rfl, rfl⟩, fun c hc vs => ?_⟩
    repeat' (first | exact Bool.noConfusion ‹(!true) = true› | exact Bool.noConfusion ‹(!false) = false› | (intro h; exact h) | (intro h; rw [h]; rfl) | (intro h1 h2; rw [h1, h2]; rfl) | (intro _; assumption) | (intro _; exact rfl) | (intro h; exact Bool.noConfusion (h.symm.trans ‹_ = false›)) | refine ⟨fun _ => ?_, fun _ => ?_⟩ | refine ⟨?_⟩ | refine ⟨?_, ?_⟩ | fail)
    · rename_i his
      refine Tr_loopH (α := Nat) (fun i => [(9, .i .i64 (.ofNat i))]) (fun i => [(2, some ⟨68, [.i .u64 (.ofNat (spUpTo p ((· == v)) i).1), .i .u64 (.ofNat (spUpTo p ((· == v)) i).2)], true⟩)]) (fun _ => [])
        (fun i => i ≤ 90) (fun i => 90 - i) 0 (by omega) (by (refine ⟨?_, rfl, ?_, ?_, ?_, rfl⟩ <;> repeat' (first | exact trivial | (refine ⟨rfl, ?_⟩) | fail))) ?_
      intro i hi
      refine vs.go rfl ?_
      repeat' (first | exact Bool.noConfusion ‹(!true) = true› | exact Bool.noConfusion ‹(!false) = false› | (intro h; exact h) | (intro h; rw [h]; rfl) | (intro h1 h2; rw [h1, h2]; rfl) | (intro _; assumption) | (intro _; exact rfl) | (intro h; exact Bool.noConfusion (h.symm.trans ‹_ = false›)) | refine ⟨fun _ => ?_, fun _ => ?_⟩ | refine ⟨?_⟩ | refine ⟨?_, ?_⟩ | fail)
      · rename_i h; have := spIs_size his; simp at h; show (i : Int) < p.size; omega
      · exact UI.nat (Nat.lt_trans (upTo_lt _ _ _).1 (by decide))
      · exact UI.nat (Nat.lt_trans (upTo_lt _ _ _).2 (by decide))
      · rename_i h hf
        have h' : i < 90 := by simp at h; omega
        refine Again.mk (i + 1) (by omega) (by omega) ?_
        have e : spUpTo p ((· == v)) (i + 1) = spWith (spUpTo p ((· == v)) i) i := by
          rw [spUpTo, if_pos]; exact hf
        dsimp only
        rw [wrapS (by omega), e]
        (refine ⟨?_, rfl, ?_, ?_, ?_, rfl⟩ <;> repeat' (first | exact trivial | (refine ⟨rfl, ?_⟩) | fail))
      · rename_i h hf
        have h' : i < 90 := by simp at h; omega
        refine Again.mk (i + 1) (by omega) (by omega) ?_
        have e : spUpTo p ((· == v)) (i + 1) = spUpTo p ((· == v)) i := by
          rw [spUpTo, if_neg]; intro hh; exact Bool.noConfusion (hh.symm.trans hf)
        rw [wrapS (by omega), e]
        (refine ⟨?_, rfl, ?_, ?_, ?_, rfl⟩ <;> repeat' (first | exact trivial | (refine ⟨rfl, ?_⟩) | fail))
      all_goals
        rename_i h
        have h90 : i = 90 := by simp at h; omega
        subst h90
        have e : spSet p ((· == v)) = spUpTo p ((· == v)) 90 := by rw [spSet, if_pos his]
      · rw [e]; exact rfl
      · rw [e]; exact rfl
      · trivial
      · rfl
    all_goals
      rename_i his
      have e : spSet p ((· == v)) = (0, 0) := by rw [spSet, his]; rfl
    · rw [e]; exact rfl
    · rw [e]; exact rfl
    · trivial
    · rfl
  · cases hcr
set_option maxHeartbeats 4000000 in
set_option maxRecDepth 20000 in
theorem okPieces (hS : Hyp G) : ConOK Tryz.prog G 43 cPieces := by
  refine seat_con hS.seat [(63, cSetP), (65, cList)] [] ⟨okSetP hS, okList hS, trivial⟩ Tryz.func43 rfl rfl rfl ?_
  intro rvs cr hcr hpre
  unfold cPieces at hcr
  split at hcr
  · cases hcr
    refine ⟨⟨rfl, rfl, rfl⟩, fun c hc vs => ?_⟩
    repeat' (first | exact Bool.noConfusion ‹(!true) = true› | exact Bool.noConfusion ‹(!false) = false› | (intro h; exact h) | (intro h; rw [h]; rfl) | (intro h1 h2; rw [h1, h2]; rfl) | (intro _; assumption) | (intro _; exact rfl) | (intro h; exact Bool.noConfusion (h.symm.trans ‹_ = false›)) | refine ⟨fun _ => ?_, fun _ => ?_⟩ | refine ⟨?_⟩ | refine ⟨?_, ?_⟩ | fail)
    · exact UI.nat (Nat.lt_trans (set_lt _ _).1 (by decide))
    · exact UI.nat (Nat.lt_trans (set_lt _ _).2 (by decide))
    · rfl
    · rfl
  · cases hcr
set_option maxHeartbeats 4000000 in
set_option maxRecDepth 20000 in
theorem okFind (hS : Hyp G) : ConOK Tryz.prog G 99 cFind := by
  refine seat_con hS.seat [(63, cSetF), (65, cList)] [] ⟨okSetF hS, okList hS, trivial⟩ Tryz.func99 rfl rfl rfl ?_
  intro rvs cr hcr hpre
  unfold cFind at hcr
  split at hcr
  · cases hcr
    refine ⟨⟨rfl, rfl, rfl⟩, fun c hc vs => ?_⟩
    repeat' (first | exact Bool.noConfusion ‹(!true) = true› | exact Bool.noConfusion ‹(!false) = false› | (intro h; exact h) | (intro h; rw [h]; rfl) | (intro h1 h2; rw [h1, h2]; rfl) | (intro _; assumption) | (intro _; exact rfl) | (intro h; exact Bool.noConfusion (h.symm.trans ‹_ = false›)) | refine ⟨fun _ => ?_, fun _ => ?_⟩ | refine ⟨?_⟩ | refine ⟨?_, ?_⟩ | fail)
    · exact UI.nat (Nat.lt_trans (set_lt _ _).1 (by decide))
    · exact UI.nat (Nat.lt_trans (set_lt _ _).2 (by decide))
    · rfl
    · rfl
  · cases hcr
end
end Go.X

namespace Go.X
open Go Go.Proofs

def cIs0 : Con
  | [.a (.i .i64 n)] => some ⟨[], .a (.b (spIsSquare n)), [], []⟩
  | _ => none
def cAllowed1 : Con
  | [.a (.i .i64 n), .box _ 0 _ _ [.a (.s _), .a (.i .i64 _), .a (.i .u8 c)]] => some ⟨[], .a (.b (!spMay c n)), [], []⟩
  | _ => none
section
variable {G : Nat → World → Prop}
set_option maxHeartbeats 4000000 in
set_option maxRecDepth 20000 in
theorem okAllowed1 (hS : Hyp G) : ConOK Tryz.prog G 142 cAllowed1 := by
  refine seat_con hS.seat [(143, cMay)] [] ⟨okMay hS, trivial⟩ Tryz.func142 rfl rfl rfl ?_
  intro rvs cr hcr hpre
  unfold cAllowed1 at hcr
  split at hcr
  · cases hcr
    refine ⟨⟨rfl, rfl, rfl⟩, fun c hc vs => ?_⟩
    repeat' (first | exact Bool.noConfusion ‹(!true) = true› | exact Bool.noConfusion ‹(!false) = false› | (intro h; exact h) | (intro h; rw [h]; rfl) | (intro h1 h2; rw [h1, h2]; rfl) | (intro _; assumption) | (intro _; exact rfl) | (intro h; exact Bool.noConfusion (h.symm.trans ‹_ = false›)) | refine ⟨fun _ => ?_, fun _ => ?_⟩ | refine ⟨?_⟩ | refine ⟨?_, ?_⟩ | fail)
    all_goals first | exact rfl | (refine chk_i ?_; simp_all [id_eq]; done) | (refine chk_i ?_; simp only [id_eq, decide_eq_true_eq, decide_eq_false_iff_not, Bool.not_eq_true', Bool.not_eq_false', Bool.or_eq_true, Bool.or_eq_false_iff, Bool.and_eq_true, Bool.and_eq_false_iff] at *; (repeat' split) <;> first | rfl | omega | (simp_all; done) | (simp_all; omega)) | (refine chk_b ?_; simp_all [id_eq]; done) | (refine chk_b ?_; simp only [id_eq, decide_eq_true_eq, decide_eq_false_iff_not, Bool.not_eq_true', Bool.not_eq_false', Bool.or_eq_true, Bool.or_eq_false_iff, Bool.and_eq_true, Bool.and_eq_false_iff] at *; (repeat' split) <;> first | rfl | omega | (simp_all; done) | (simp_all; omega)) | (refine chk_s ?_; simp_all [id_eq]; done) | (refine chk_s ?_; simp only [id_eq, decide_eq_true_eq, decide_eq_false_iff_not, Bool.not_eq_true', Bool.not_eq_false', Bool.or_eq_true, Bool.or_eq_false_iff, Bool.and_eq_true, Bool.and_eq_false_iff] at *; (repeat' split) <;> first | rfl | omega | (simp_all; done) | (simp_all; omega)) | (simp_all [id_eq]; done) | (simp_all [id_eq]; omega) | skip
  · cases hcr
def cIdxA : Con
  | [.row _ ⟨3, .int .i64, l, _⟩, .fn 142 [.box _ 0 73 _ [.a (.s p), .a (.i .i64 fr), .a (.i .u8 pc)]]] => some ⟨LB l :: [], .a (.i .i64 (spIdx (fun n => !spMay pc n) l)), [], []⟩
  | _ => none
set_option maxHeartbeats 4000000 in
set_option maxRecDepth 20000 in
theorem okIdxA (hS : Hyp G) : ConOK Tryz.prog G 57 cIdxA := by
  refine seat_con hS.seat [(142, cAllowed1)] [none] ⟨okAllowed1 hS, trivial⟩ Tryz.func57 rfl rfl rfl ?_
  intro rvs cr hcr hpre
  unfold cIdxA at hcr
  split at hcr
  · rename_i x _ l _ _ _ p fr pc
    cases hcr
    simp only [List.mem_cons, List.not_mem_nil, or_false, forall_eq_or_imp, forall_eq] at hpre
    refine ⟨⟨rfl, rfl, rfl⟩, fun c hc vs => ?_⟩
    repeat' (first | exact Bool.noConfusion ‹(!true) = true› | exact Bool.noConfusion ‹(!false) = false› | (intro h; exact h) | (intro h; rw [h]; rfl) | (intro h1 h2; rw [h1, h2]; rfl) | (intro _; assumption) | (intro _; exact rfl) | (intro h; exact Bool.noConfusion (h.symm.trans ‹_ = false›)) | refine ⟨fun _ => ?_, fun _ => ?_⟩ | refine ⟨?_⟩ | refine ⟨?_, ?_⟩ | fail)
    all_goals first | exact trivial | (refine (?_ : (_ : Int) ≠ _); decide) | exact rfl | skip
    refine Tr_loopH (α := Nat) (fun i => [(8, .i .i64 (.ofNat i))]) (fun _ => []) (fun _ => [])
        (fun i => i ≤ l.length ∧ ∀ x ∈ l.take i, (fun n => !spMay pc n) x = false) (fun i => l.length - i) 0 ⟨by omega, by simp⟩ (by (refine ⟨?_, rfl, ?_, ?_, ?_, rfl⟩ <;> repeat' (first | exact trivial | (refine ⟨rfl, ?_⟩) | fail))) ?_
    rintro i ⟨hi, hq⟩
    refine vs.go rfl ?_
    repeat' (first | exact Bool.noConfusion ‹(!true) = true› | exact Bool.noConfusion ‹(!false) = false› | (intro h; exact h) | (intro h; rw [h]; rfl) | (intro h1 h2; rw [h1, h2]; rfl) | (intro _; assumption) | (intro _; exact rfl) | (intro h; exact Bool.noConfusion (h.symm.trans ‹_ = false›)) | refine ⟨fun _ => ?_, fun _ => ?_⟩ | refine ⟨?_⟩ | refine ⟨?_, ?_⟩ | fail)
    all_goals first | exact trivial | (refine (?_ : (_ : Int) ≠ _); decide) | exact rfl | skip
    all_goals first | exact hpre.1 | exact hpre.2 | exact hpre.2.1 | exact hpre.2.2 | exact NE.of' hpre.2 ‹decide _ = true› | skip
    · rename_i h; simpa using h
    · rename_i h hf; simp at h; exact chk_i (idx_some h hq hf).symm
    · rename_i h hf
      simp at h
      refine Again.mk (i + 1) ⟨by omega, take_next h hq hf⟩ (by omega) ?_
      rw [wrapN (by have hll : l.length ≤ 2000000000 := (by first | exact hpre | exact hpre.1); omega)]
      (refine ⟨?_, rfl, ?_, ?_, ?_, rfl⟩ <;> repeat' (first | exact trivial | (refine ⟨rfl, ?_⟩) | fail))
    · rename_i h
      simp at h
      have hi' : i = l.length := by omega
      subst hi'
      exact chk_i (idx_none hq).symm
  · cases hcr
def cDelA : Con
  | [.row id ⟨3, .int .i64, l, true⟩, .fn 142 [.box _ 0 73 _ [.a (.s p), .a (.i .i64 fr), .a (.i .u8 pc)]]] => some ⟨LB l :: [], .row ⟨3, .int .i64, l.filter (fun x => !(fun n => !spMay pc n) x), true⟩, [id], []⟩
  | _ => none
set_option maxHeartbeats 4000000 in
set_option maxRecDepth 20000 in
theorem okDelA (hS : Hyp G) : ConOK Tryz.prog G 60 cDelA := by
  refine seat_con hS.seat [(57, cIdxA), (142, cAllowed1)] [] ⟨okIdxA hS, okAllowed1 hS, trivial⟩ Tryz.func60 rfl rfl rfl ?_
  intro rvs cr hcr hpre
  unfold cDelA at hcr
  split at hcr
  · rename_i id l _ _ p fr pc
    cases hcr
    simp only [List.mem_cons, List.not_mem_nil, or_false, forall_eq_or_imp, forall_eq] at hpre
    refine ⟨⟨rfl, rfl, by simp [occOk, normL, occL, occ, vwsL, vws]⟩, fun c hc vs => ?_⟩
    simp only [normL, impL, imp, List.contains_cons, beq_self_eq_true, Bool.true_or, Bool.true_and]
    repeat' (first | exact Bool.noConfusion ‹(!true) = true› | exact Bool.noConfusion ‹(!false) = false› | (intro h; exact h) | (intro h; rw [h]; rfl) | (intro h1 h2; rw [h1, h2]; rfl) | (intro _; assumption) | (intro _; exact rfl) | (intro h; exact Bool.noConfusion (h.symm.trans ‹_ = false›)) | refine ⟨fun _ => ?_, fun _ => ?_⟩ | refine ⟨?_⟩ | refine ⟨?_, ?_⟩ | fail)
    all_goals first | exact trivial | (refine (?_ : (_ : Int) ≠ _); decide) | exact rfl | skip
    all_goals first | exact hpre | exact hpre.1 | exact hpre.2 | exact hpre.2.1 | exact hpre.2.2 | skip
    · rename_i h
      rcases idx_spec (fun n => !spMay pc n) l with ⟨_, h2⟩ | ⟨i, _, h2, _⟩
      · show (⟨3, .int .i64, l, true⟩ : Row) = ⟨3, .int .i64, _, true⟩
        rw [idx_all h2]
      · rw [h2] at h; simp at h
    · rename_i h
      rcases idx_spec (fun n => !spMay pc n) l with ⟨h2, _⟩ | ⟨w, hw, h2, h3, h4⟩
      · rw [h2] at h; simp at h
      · simp only [h2]
        rw [wrapN (by have hll : l.length ≤ 2000000000 := (by first | exact hpre | exact hpre.1); omega)]
        refine Tr_loopH (α := Nat × Nat × List Int) (fun x => [(5, .i .i64 (.ofNat x.1)), (6, .i .i64 (.ofNat x.2.1))]) (fun _ => []) (fun x => [(0, some ⟨3, .int .i64, x.2.2, true⟩)])
          (fun x => DelInv (fun n => !spMay pc n) l x.1 x.2.1 x.2.2) (fun x => l.length - x.2.1) (w, w + 1, l) (DelInv.start hw h3 h4) (by (refine ⟨?_, rfl, ?_, ?_, ?_, rfl⟩ <;> repeat' (first | exact trivial | (refine ⟨rfl, ?_⟩) | fail))) ?_
        rintro ⟨i, j, row⟩ hq
        dsimp only at hq ⊢
        refine vs.go rfl ?_
        repeat' (first | exact Bool.noConfusion ‹(!true) = true› | exact Bool.noConfusion ‹(!false) = false› | (intro h; exact h) | (intro h; rw [h]; rfl) | (intro h1 h2; rw [h1, h2]; rfl) | (intro _; assumption) | (intro _; exact rfl) | (intro h; exact Bool.noConfusion (h.symm.trans ‹_ = false›)) | refine ⟨fun _ => ?_, fun _ => ?_⟩ | refine ⟨?_⟩ | refine ⟨?_, ?_⟩ | fail)
        all_goals first | exact trivial | (refine (?_ : (_ : Int) ≠ _); decide) | exact rfl | skip
        all_goals try dsimp only at *
        all_goals first | exact hpre.1 | exact hpre.2 | exact hpre.2.1 | exact hpre.2.2 | exact NE.of hpre.2 hw | skip
        all_goals (have hlt := hq.lt; have hle := hq.le; have hlen := hq.len)
        · rename_i h; simpa using h
        · rename_i h _; simp at h; show (i : Int) < row.length; omega
        · rename_i h hf
          simp at h
          refine Again.mk (i + 1, j + 1, row.set i (row.getD j 0)) (hq.keep (by omega) hf) (by show l.length - (j + 1) < l.length - j; omega) ?_
          rw [wrapN (by have hll : l.length ≤ 2000000000 := (by first | exact hpre | exact hpre.1); omega), wrapN (by have hll : l.length ≤ 2000000000 := (by first | exact hpre | exact hpre.1); omega)]
          (refine ⟨?_, rfl, ?_, ?_, ?_, rfl⟩ <;> repeat' (first | exact trivial | (refine ⟨rfl, ?_⟩) | fail))
        · rename_i h hf
          simp at h
          refine Again.mk (i, j + 1, row) (hq.del (by omega) hf) (by show l.length - (j + 1) < l.length - j; omega) ?_
          rw [wrapN (by have hll : l.length ≤ 2000000000 := (by first | exact hpre | exact hpre.1); omega)]
          (refine ⟨?_, rfl, ?_, ?_, ?_, rfl⟩ <;> repeat' (first | exact trivial | (refine ⟨rfl, ?_⟩) | fail))
        all_goals rename_i h; simp at h
        · show (i : Int) ≤ row.length; omega
        · show i ≤ row.length; omega
        · exact Nat.le_refl _
        all_goals simp only [Int.toNat_natCast, Int.ofNat_eq_natCast, List.length_append, List.length_take, List.length_replicate, List.length_drop, List.take_append, List.take_take]
        · omega
        · omega
        · rw [show i - min i row.length = 0 by omega, show i - (min i row.length + (row.length - i)) = 0 by omega, Nat.min_self, List.take_zero, List.take_zero, List.append_nil, List.append_nil, hq.done (by omega)]
  · cases hcr
def cCompact : Con
  | [.row id ⟨3, .int .i64, l, true⟩] => some ⟨[LB l], .row ⟨3, .int .i64, spCompact l, true⟩, [id], []⟩
  | _ => none
set_option maxHeartbeats 4000000 in
set_option maxRecDepth 20000 in
theorem okCompact (hS : Hyp G) : ConOK Tryz.prog G 70 cCompact := by
  refine seat_con hS.seat [] [] trivial Tryz.func70 rfl rfl rfl ?_
  intro rvs cr hcr hpre
  unfold cCompact at hcr
  split at hcr
  · rename_i id l
    cases hcr
    simp only [List.mem_cons, List.not_mem_nil, or_false, forall_eq_or_imp, forall_eq] at hpre
    refine ⟨⟨rfl, rfl, by simp [occOk, normL, occL, occ, vwsL, vws]⟩, fun c hc vs => ?_⟩
    simp only [normL, impL, imp, List.contains_cons, beq_self_eq_true, Bool.true_or, Bool.true_and]
    repeat' (first | exact Bool.noConfusion ‹(!true) = true› | exact Bool.noConfusion ‹(!false) = false› | (intro h; exact h) | (intro h; rw [h]; rfl) | (intro h1 h2; rw [h1, h2]; rfl) | (intro _; assumption) | (intro _; exact rfl) | (intro h; exact Bool.noConfusion (h.symm.trans ‹_ = false›)) | refine ⟨fun _ => ?_, fun _ => ?_⟩ | refine ⟨?_⟩ | refine ⟨?_, ?_⟩ | fail)
    all_goals first | exact trivial | (refine (?_ : (_ : Int) ≠ _); decide) | exact rfl | skip
    · rename_i h
      simp at h
      show (⟨3, .int .i64, l, true⟩ : Row) = ⟨3, .int .i64, _, true⟩
      rw [compact_short (by omega)]
    · rename_i h
      simp at h
      refine Tr_loopH (α := Nat) (fun k => [(3, .i .i64 (.ofNat k))]) (fun _ => []) (fun _ => [])
        (fun k => 1 ≤ k ∧ k ≤ l.length ∧ spCompact (l.take k) = l.take k) (fun k => l.length - k) 1 ⟨by omega, by omega, compact_one (by omega)⟩ (by (refine ⟨?_, rfl, ?_, ?_, ?_, rfl⟩ <;> repeat' (first | exact trivial | (refine ⟨rfl, ?_⟩) | fail))) ?_
      rintro k ⟨hk1, hk2, hk3⟩
      have hwp : IntKind.i64.wrap (Int.ofNat k - 1) = Int.ofNat (k - 1) := wrapP hk1 (by unfold LB at hpre; omega)
      refine vs.go rfl ?_
      repeat' (first | exact Bool.noConfusion ‹(!true) = true› | exact Bool.noConfusion ‹(!false) = false› | (intro h; exact h) | (intro h; rw [h]; rfl) | (intro h1 h2; rw [h1, h2]; rfl) | (intro _; assumption) | (intro _; exact rfl) | (intro h; exact Bool.noConfusion (h.symm.trans ‹_ = false›)) | refine ⟨fun _ => ?_, fun _ => ?_⟩ | refine ⟨?_⟩ | refine ⟨?_, ?_⟩ | fail)
      all_goals first | exact trivial | (refine (?_ : (_ : Int) ≠ _); decide) | exact rfl | skip
      all_goals try dsimp only at *
      · rename_i h; simpa using h
      · rw [hwp]; simp
      · rename_i h; rw [hwp]; simp at h; show ((k - 1 : Nat) : Int) < l.length; omega
      · rename_i h _; simp at h; show (k : Int) ≤ l.length; omega
      · rename_i h he
        rw [hwp] at he
        have hkl : k < l.length := by simp at h; omega
        refine Tr_loopH (α := Nat × Nat × List Int) (fun x => [(3, .i .i64 (.ofNat x.1)), (5, .i .i64 (.ofNat x.2.1))]) (fun _ => []) (fun x => [(0, some ⟨3, .int .i64, x.2.2, true⟩)])
          (fun x => 1 ≤ x.2.1 ∧ CmpInv l x.1 (k + x.2.1) x.2.2) (fun x => l.length - (k + x.2.1)) (k, 1, l) ⟨by show 1 ≤ 1; omega, CmpInv.start hk1 hkl hk3 (beqT he)⟩ (by (refine ⟨?_, rfl, ?_, ?_, ?_, rfl⟩ <;> repeat' (first | exact trivial | (refine ⟨rfl, ?_⟩) | fail))) ?_
        rintro ⟨w, j, row⟩ ⟨hj1, hq⟩
        dsimp only at hj1 hq ⊢
        have hlt := hq.lt
        have hle := hq.le
        have hlen := hq.len
        have hll : l.length ≤ 2000000000 := hpre
        have hwj : IntKind.i64.wrap (Int.ofNat j - 1) = Int.ofNat (j - 1) := wrapP hj1 (by omega)
        refine vs.go rfl ?_
        repeat' (first | exact Bool.noConfusion ‹(!true) = true› | exact Bool.noConfusion ‹(!false) = false› | (intro h; exact h) | (intro h; rw [h]; rfl) | (intro h1 h2; rw [h1, h2]; rfl) | (intro _; assumption) | (intro _; exact rfl) | (intro h; exact Bool.noConfusion (h.symm.trans ‹_ = false›)) | refine ⟨fun _ => ?_, fun _ => ?_⟩ | refine ⟨?_⟩ | refine ⟨?_, ?_⟩ | fail)
        all_goals first | exact trivial | (refine (?_ : (_ : Int) ≠ _); decide) | exact rfl | skip
        all_goals try dsimp only at *
        · rename_i h; simpa using h
        · rw [hwj]; simp
        · rename_i h; rw [hwj]; simp at h; show ((j - 1 : Nat) : Int) < (l.length - k : Nat); omega
        · rename_i h _; simpa using h
        · show (w : Int) < row.length; omega
        · rename_i h hn
          rw [hwj] at hn
          have hjl : k + j < l.length := by simp at h; omega
          have hn' : row.getD (k + j) 0 ≠ row.getD (k + j - 1) 0 := by
            rw [show k + j - 1 = k + (j - 1) by omega]; exact bneT hn
          refine Again.mk (w + 1, j + 1, row.set w (row.getD (k + j) 0)) ⟨by show 1 ≤ j + 1; omega, hq.new hjl hn'⟩ (by show l.length - (k + (j + 1)) < l.length - (k + j); omega) ?_
          rw [wrapN (by omega), wrapN (by omega)]
          (refine ⟨?_, rfl, ?_, ?_, ?_, rfl⟩ <;> repeat' (first | exact trivial | (refine ⟨rfl, ?_⟩) | fail))
        · rename_i h hn
          rw [hwj] at hn
          have hjl : k + j < l.length := by simp at h; omega
          have hn' : row.getD (k + j) 0 = row.getD (k + j - 1) 0 := by
            rw [show k + j - 1 = k + (j - 1) by omega]; exact bneF hn
          refine Again.mk (w, j + 1, row) ⟨by show 1 ≤ j + 1; omega, hq.same hjl hn'⟩ (by show l.length - (k + (j + 1)) < l.length - (k + j); omega) ?_
          rw [wrapN (by omega)]
          (refine ⟨?_, rfl, ?_, ?_, ?_, rfl⟩ <;> repeat' (first | exact trivial | (refine ⟨rfl, ?_⟩) | fail))
        all_goals rename_i h; simp at h
        · show (w : Int) ≤ row.length; omega
        · show w ≤ row.length; omega
        · exact Nat.le_refl _
        all_goals simp only [Int.toNat_natCast, Int.ofNat_eq_natCast, List.length_append, List.length_take, List.length_replicate, List.length_drop, List.take_append, List.take_take]
        · omega
        · omega
        · rw [show w - min w row.length = 0 by omega, show w - (min w row.length + (row.length - w)) = 0 by omega, Nat.min_self, List.take_zero, List.take_zero, List.append_nil, List.append_nil, hq.done (by omega)]
      · rename_i h he
        rw [hwp] at he
        have hkl : k < l.length := by simp at h; omega
        refine Again.mk (k + 1) ⟨by omega, by omega, compact_go hk1 hkl hk3 (beqF he)⟩ (by omega) ?_
        rw [wrapN (by have hll : l.length ≤ 2000000000 := (by first | exact hpre | exact hpre.1); omega)]
        (refine ⟨?_, rfl, ?_, ?_, ?_, rfl⟩ <;> repeat' (first | exact trivial | (refine ⟨rfl, ?_⟩) | fail))
      · rename_i h
        simp at h
        show (⟨3, .int .i64, l, true⟩ : Row) = ⟨3, .int .i64, _, true⟩
        rw [List.take_of_length_le (by omega)] at hk3
        rw [hk3]
  · cases hcr
end
end Go.X

namespace Go.X
open Go Go.Proofs

def cRIs : Con
  | [.a (.i .i64 n)] => some ⟨[], .a (.b (spIsSquare n)), [], []⟩
  | _ => none
def cStep : Con
  | [.agg [.a (.s _), .a (.i .i64 fr), .a (.i .u8 _)], .a (.i .i64 a), .a (.i .i64 b)] => some ⟨[SM a, SM b], .a (.i .i64 (spStep fr a b)), [], []⟩
  | _ => none
def cEmpty : Con
  | [.agg [.a (.s p), .a (.i .i64 _), .a (.i .u8 _)], .a (.i .i64 n)] => some ⟨[S90 p], .a (.b (spEmpty p n)), [], []⟩
  | _ => none
def cFour : Con
  | [.agg [.a (.s _), .a (.i .i64 fr), .a (.i .u8 _)], .a (.i .i64 a), .a (.i .i64 b)] => some ⟨[SM a, SM b], .row ⟨3, .int .i64, spFour fr a b, true⟩, [], []⟩
  | _ => none
def cLine : Con
  | [.agg [.a (.s p), .a (.i .i64 fr), .a (.i .u8 _)], .a (.i .i64 a), .a (.i .i64 b)] => some ⟨[Dir a b, S90 p], .tup [.row ⟨3, .int .i64, spFree p fr a b, true⟩, .a (.i .i64 (spFirst2 p fr a b 0)), .a (.i .i64 (spFirst2 p fr a b 1))], [], []⟩
  | _ => none
def cAllow : Con
  | [.agg [.a (.s _), .a (.i .i64 _), .a (.i .u8 pc)], .row id ⟨3, .int .i64, l, true⟩] => some ⟨[LB l], .row ⟨3, .int .i64, l.filter (spMay pc), true⟩, [id], []⟩
  | _ => none
def cGen : Con
  | [.agg [.a (.s _), .a (.i .i64 fr), .a (.i .u8 pc)]] => some ⟨[], .row ⟨3, .int .i64, spGen fr pc, true⟩, [], []⟩
  | _ => none
def cAdvL : Con
  | [.agg [.a (.s _), .a (.i .i64 fr), .a (.i .u8 pc)]] => some ⟨[], .row ⟨3, .int .i64, spAdvL fr pc, true⟩, [], []⟩
  | _ => none
def cEle1 : Con
  | [.a (.i .i64 n), .box _ 0 _ _ [.a (.s p), .a (.i .i64 fr), .a (.i .u8 _)]] => some ⟨[S90 p, Sq fr], .a (.b (!spEmpty p (IntKind.i64.wrap ((IntKind.i64.wrap (fr + n)).tdiv 2)))), [], []⟩
  | _ => none
def cEleL : Con
  | [.agg [.a (.s p), .a (.i .i64 fr), .a (.i .u8 pc)]] => some ⟨[S90 p, Sq fr], .row ⟨3, .int .i64, spEleL p fr pc, true⟩, [], []⟩
  | _ => none
def cHorse : Con
  | [.agg [.a (.s p), .a (.i .i64 fr), .a (.i .u8 _)]] => some ⟨[S90 p], .row ⟨3, .int .i64, spHorse p fr, true⟩, [], []⟩
  | _ => none
def cLines : Con
  | [.agg [.a (.s p), .a (.i .i64 fr), .a (.i .u8 _)], .a (.b second)] => some ⟨[S90 p], .row ⟨3, .int .i64, spLines p fr second, true⟩, [], []⟩
  | _ => none
def cChariot : Con
  | [.agg [.a (.s p), .a (.i .i64 fr), .a (.i .u8 _)]] => some ⟨[S90 p], .row ⟨3, .int .i64, spLines p fr false, true⟩, [], []⟩
  | _ => none
def cCannon : Con
  | [.agg [.a (.s p), .a (.i .i64 fr), .a (.i .u8 _)]] => some ⟨[S90 p], .row ⟨3, .int .i64, spLines p fr true, true⟩, [], []⟩
  | _ => none
def cPawn : Con
  | [.agg [.a (.s _), .a (.i .i64 fr), .a (.i .u8 pc)]] => some ⟨[], .row ⟨3, .int .i64, spPawnL fr pc, true⟩, [], []⟩
  | _ => none
section
variable {G : Nat → World → Prop}
set_option maxHeartbeats 4000000 in
set_option maxRecDepth 20000 in
theorem okRIs (hS : Hyp G) : ConOK Tryz.prog G 68 cRIs := by
  refine seat_con hS.seat [] [] trivial Tryz.func68 rfl rfl rfl ?_
  intro rvs cr hcr hpre
  unfold cRIs at hcr
  split at hcr
  · cases hcr
    refine ⟨⟨rfl, rfl, rfl⟩, fun c hc vs => ?_⟩
    repeat' (first | exact Bool.noConfusion ‹(!true) = true› | exact Bool.noConfusion ‹(!false) = false› | (intro h; exact h) | (intro h; rw [h]; rfl) | (intro h1 h2; rw [h1, h2]; rfl) | (intro _; assumption) | (intro _; exact rfl) | (intro h; exact Bool.noConfusion (h.symm.trans ‹_ = false›)) | refine ⟨fun _ => ?_, fun _ => ?_⟩ | refine ⟨?_⟩ | refine ⟨?_, ?_⟩ | fail)
    all_goals first | exact rfl | (refine chk_i ?_; simp_all [spIsSquare]; done) | (refine chk_i ?_; simp only [spIsSquare, decide_eq_true_eq, decide_eq_false_iff_not, Bool.not_eq_true', Bool.not_eq_false', Bool.or_eq_true, Bool.or_eq_false_iff, Bool.and_eq_true, Bool.and_eq_false_iff] at *; (repeat' split) <;> first | rfl | omega | (simp_all; done) | (simp_all; omega)) | (refine chk_b ?_; simp_all [spIsSquare]; done) | (refine chk_b ?_; simp only [spIsSquare, decide_eq_true_eq, decide_eq_false_iff_not, Bool.not_eq_true', Bool.not_eq_false', Bool.or_eq_true, Bool.or_eq_false_iff, Bool.and_eq_true, Bool.and_eq_false_iff] at *; (repeat' split) <;> first | rfl | omega | (simp_all; done) | (simp_all; omega)) | (refine chk_s ?_; simp_all [spIsSquare]; done) | (refine chk_s ?_; simp only [spIsSquare, decide_eq_true_eq, decide_eq_false_iff_not, Bool.not_eq_true', Bool.not_eq_false', Bool.or_eq_true, Bool.or_eq_false_iff, Bool.and_eq_true, Bool.and_eq_false_iff] at *; (repeat' split) <;> first | rfl | omega | (simp_all; done) | (simp_all; omega)) | (simp_all [spIsSquare]; done) | (simp_all [spIsSquare]; omega) | skip
  · cases hcr
set_option maxHeartbeats 4000000 in
set_option maxRecDepth 20000 in
theorem okStep (hS : Hyp G) : ConOK Tryz.prog G 124 cStep := by
  refine seat_con hS.seat [(59, cFile), (100, cRank), (144, cSquare)] [] ⟨okFile hS, okRank hS, okSquare hS, trivial⟩ Tryz.func124 rfl rfl rfl ?_
  intro rvs cr hcr hpre
  unfold cStep at hcr
  split at hcr
  · cases hcr
    simp only [List.mem_cons, List.not_mem_nil, or_false, forall_eq_or_imp, forall_eq] at hpre
    refine ⟨⟨rfl, rfl, rfl⟩, fun c hc vs => ?_⟩
    repeat' (first | exact Bool.noConfusion ‹(!true) = true› | exact Bool.noConfusion ‹(!false) = false› | (intro h; exact h) | (intro h; rw [h]; rfl) | (intro h1 h2; rw [h1, h2]; rfl) | (intro _; assumption) | (intro _; exact rfl) | (intro h; exact Bool.noConfusion (h.symm.trans ‹_ = false›)) | refine ⟨fun _ => ?_, fun _ => ?_⟩ | refine ⟨?_⟩ | refine ⟨?_, ?_⟩ | fail)
    all_goals first | exact trivial | (refine (?_ : (_ : Int) ≠ _); decide) | exact rfl | skip
    exact chk_i (step_wrap hpre.1 hpre.2)
  · cases hcr
set_option maxHeartbeats 4000000 in
set_option maxRecDepth 20000 in
theorem okEmpty (hS : Hyp G) : ConOK Tryz.prog G 123 cEmpty := by
  refine seat_con hS.seat [(68, cRIs)] [] ⟨okRIs hS, trivial⟩ Tryz.func123 rfl rfl rfl ?_
  intro rvs cr hcr hpre
  unfold cEmpty at hcr
  split at hcr
  · cases hcr
    simp only [List.mem_cons, List.not_mem_nil, or_false, forall_eq_or_imp, forall_eq] at hpre
    refine ⟨⟨rfl, rfl, rfl⟩, fun c hc vs => ?_⟩
    repeat' (first | exact Bool.noConfusion ‹(!true) = true› | exact Bool.noConfusion ‹(!false) = false› | (intro h; exact h) | (intro h; rw [h]; rfl) | (intro h1 h2; rw [h1, h2]; rfl) | (intro _; assumption) | (intro _; exact rfl) | (intro h; exact Bool.noConfusion (h.symm.trans ‹_ = false›)) | refine ⟨fun _ => ?_, fun _ => ?_⟩ | refine ⟨?_⟩ | refine ⟨?_, ?_⟩ | fail)
    all_goals first | exact trivial | (refine (?_ : (_ : Int) ≠ _); decide) | exact rfl | skip
    intro h; have h := isSquare_iff.1 h; have := hpre.is; omega
  · cases hcr
set_option maxHeartbeats 4000000 in
set_option maxRecDepth 20000 in
theorem okFour (hS : Hyp G) : ConOK Tryz.prog G 121 cFour := by
  refine seat_con hS.seat [(124, cStep)] [] ⟨okStep hS, trivial⟩ Tryz.func121 rfl rfl rfl ?_
  intro rvs cr hcr hpre
  unfold cFour at hcr
  split at hcr
  · cases hcr
    simp only [List.mem_cons, List.not_mem_nil, or_false, forall_eq_or_imp, forall_eq] at hpre
    refine ⟨⟨rfl, rfl, rfl⟩, fun c hc vs => ?_⟩
    have h1 := neg_wrap hpre.1
    have h2 := neg_wrap hpre.2
    have h3 := hpre.1.neg
    have h4 := hpre.2.neg
    repeat' (first | exact Bool.noConfusion ‹(!true) = true› | exact Bool.noConfusion ‹(!false) = false› | (intro h; exact h) | (intro h; rw [h]; rfl) | (intro h1 h2; rw [h1, h2]; rfl) | (intro _; assumption) | (intro _; exact rfl) | (intro h; exact Bool.noConfusion (h.symm.trans ‹_ = false›)) | refine ⟨fun _ => ?_, fun _ => ?_⟩ | refine ⟨?_⟩ | refine ⟨?_, ?_⟩ | fail)
    all_goals first | exact trivial | (refine (?_ : (_ : Int) ≠ _); decide) | exact rfl | skip
    all_goals first | exact hpre.1 | exact hpre.2 | (rw [h1]; exact h3) | (rw [h2]; exact h4) | skip
    show (⟨_, _, _, _⟩ : Row) = ⟨_, _, _, _⟩
    rw [h1, h2]; rfl
  · cases hcr
set_option maxHeartbeats 4000000 in
set_option maxRecDepth 20000 in
theorem okLine (hS : Hyp G) : ConOK Tryz.prog G 145 cLine := by
  refine seat_con hS.seat [(124, cStep), (68, cRIs)] [] ⟨okStep hS, okRIs hS, trivial⟩ Tryz.func145 rfl rfl rfl ?_
  intro rvs cr hcr hpre
  unfold cLine at hcr
  split at hcr
  · rename_i p fr pc a b
    cases hcr
    simp only [List.mem_cons, List.not_mem_nil, or_false, forall_eq_or_imp, forall_eq] at hpre
    refine ⟨⟨rfl, rfl, rfl⟩, fun c hc vs => ?_⟩
    repeat' (first | exact Bool.noConfusion ‹(!true) = true› | exact Bool.noConfusion ‹(!false) = false› | (intro h; exact h) | (intro h; rw [h]; rfl) | (intro h1 h2; rw [h1, h2]; rfl) | (intro _; assumption) | (intro _; exact rfl) | (intro h; exact Bool.noConfusion (h.symm.trans ‹_ = false›)) | refine ⟨fun _ => ?_, fun _ => ?_⟩ | refine ⟨?_⟩ | refine ⟨?_, ?_⟩ | fail)
    all_goals first | exact trivial | (refine (?_ : (_ : Int) ≠ _); decide) | exact rfl | skip
    refine Tr_nilTmp 3 (.int .i64) 6 rfl (by decide) ?_
    repeat' (first | exact Bool.noConfusion ‹(!true) = true› | exact Bool.noConfusion ‹(!false) = false› | (intro h; exact h) | (intro h; rw [h]; rfl) | (intro h1 h2; rw [h1, h2]; rfl) | (intro _; assumption) | (intro _; exact rfl) | (intro h; exact Bool.noConfusion (h.symm.trans ‹_ = false›)) | refine ⟨fun _ => ?_, fun _ => ?_⟩ | refine ⟨?_⟩ | refine ⟨?_, ?_⟩ | fail)
    refine Tr_loopH (α := List Int) (fun d => [(6, .row 0), (7, .i .i64 (nth (blk p d) 0)), (8, .i .i64 (nth (blk p d) 1)), (9, .i .i64 (.ofNat (blk p d).length)), (10, .i .i64 (.ofNat (d.length + 1)))]) (fun _ => [])
      (fun d => [(0, some ⟨3, .int .i64, d.takeWhile (free p), true⟩)]) (fun d => Scan fr a b d) (fun d => 20 - d.length) [] Scan.start (by (refine ⟨?_, rfl, ?_, ?_, ?_, rfl⟩ <;> repeat' (first | exact trivial | (refine ⟨rfl, ?_⟩) | fail))) ?_
    intro d hq
    have hle := hq.le
    have hbl : (blk p d).length ≤ 9 := Nat.le_trans (List.length_filter_le _ _) hle
    have hft : (d.takeWhile (free p)).length ≤ 9 := Nat.le_trans ((List.takeWhile_prefix _).length_le) hle
    have hda : -1 ≤ a ∧ a ≤ 1 ∧ -1 ≤ b ∧ b ≤ 1 := by rcases hpre.1.is with ⟨rfl, rfl⟩ | ⟨rfl, rfl⟩ | ⟨rfl, rfl⟩ | ⟨rfl, rfl⟩ <;> omega
    have hma : -10 ≤ (d.length + 1 : Int) * a ∧ (d.length + 1 : Int) * a ≤ 10 ∧ -10 ≤ (d.length + 1 : Int) * b ∧ (d.length + 1 : Int) * b ≤ 10 := by
      rcases hpre.1.is with ⟨rfl, rfl⟩ | ⟨rfl, rfl⟩ | ⟨rfl, rfl⟩ | ⟨rfl, rfl⟩ <;> omega
    have ea : IntKind.i64.wrap (Int.ofNat (d.length + 1) * a) = Int.ofNat (d.length + 1) * a := by
      rw [wrap64] <;> simp <;> omega
    have eb : IntKind.i64.wrap (Int.ofNat (d.length + 1) * b) = Int.ofNat (d.length + 1) * b := by
      rw [wrap64] <;> simp <;> omega
    have hsa : SM (Int.ofNat (d.length + 1) * a) := .of (by simp; omega) (by simp; omega)
    have hsb : SM (Int.ofNat (d.length + 1) * b) := .of (by simp; omega) (by simp; omega)
    have hs9 := hpre.2.is
    refine vs.go rfl ?_
    repeat' (first | exact Bool.noConfusion ‹(!true) = true› | exact Bool.noConfusion ‹(!false) = false› | (intro h; exact h) | (intro h; rw [h]; rfl) | (intro h1 h2; rw [h1, h2]; rfl) | (intro _; assumption) | (intro _; exact rfl) | (intro h; exact Bool.noConfusion (h.symm.trans ‹_ = false›)) | refine ⟨fun _ => ?_, fun _ => ?_⟩ | refine ⟨?_⟩ | refine ⟨?_, ?_⟩ | fail)
    all_goals first | exact trivial | (refine (?_ : (_ : Int) ≠ _); decide) | exact rfl | skip
    all_goals try dsimp only at *
    all_goals simp only [ea, eb] at *
    · exact hsa
    · exact hsb
    · rename_i h; have e := hq.stop (bt h); show (⟨_, _, _, _⟩ : Row) = ⟨_, _, _, _⟩; rw [spFree, e]
    · rename_i h; have e := hq.stop (bt h); exact chk_i (by rw [spFirst2, e])
    · rename_i h; have e := hq.stop (bt h); exact chk_i (by rw [spFirst2, e])
    · rename_i h; have := isSquare_iff.1 (bn h); omega
    · rename_i h; have := isSquare_iff.1 (bn h); omega
    · simp; omega
    · simp; omega
    · rename_i h2 h0 hs hf
      have hn := hq.next hpre.1 (bn hs)
      refine Again.mk _ hn (by have := hn.le; simp at this ⊢; omega) ?_
      have h0' : (blk p d).length = 0 := by simpa using h0
      rw [blk_free hf, free_more h0' hf, List.length_append, List.length_singleton, wrapN (by omega)]
      (refine ⟨?_, rfl, ?_, ?_, ?_, rfl⟩ <;> repeat' (first | exact trivial | (refine ⟨rfl, ?_⟩) | fail))
    · rename_i h2 h0 hs hf
      have hn := hq.next hpre.1 (bn hs)
      refine Again.mk _ hn (by have := hn.le; simp at this ⊢; omega) ?_
      have h0' : (blk p d).length ≠ 0 := by simpa using h0
      rw [blk_free hf, free_same h0', List.length_append, List.length_singleton, wrapN (by omega)]
      (refine ⟨?_, rfl, ?_, ?_, ?_, rfl⟩ <;> repeat' (first | exact trivial | (refine ⟨rfl, ?_⟩) | fail))
    · rename_i h2 h0 hs hf
      have hn := hq.next hpre.1 (bn hs)
      refine Again.mk _ hn (by have := hn.le; simp at this ⊢; omega) ?_
      have h0' : blk p d = [] := by simpa using h0
      rw [blk_more hf, free_none hf, h0', wrapN (by omega)]
      simp only [List.length_append, List.length_singleton]
      (refine ⟨?_, rfl, ?_, ?_, ?_, rfl⟩ <;> repeat' (first | exact trivial | (refine ⟨rfl, ?_⟩) | fail))
    · rename_i h2 h0 hs hf
      have hn := hq.next hpre.1 (bn hs)
      refine Again.mk _ hn (by have := hn.le; simp at this ⊢; omega) ?_
      have h0' : (blk p d).length = 1 := by simp at h0 h2; have := List.length_pos_iff.2 h0; omega
      obtain ⟨x, hx⟩ := List.length_eq_one_iff.1 h0'
      rw [blk_more hf, free_none hf, hx, wrapN (by omega)]
      simp only [List.length_append, List.length_singleton]
      (refine ⟨?_, rfl, ?_, ?_, ?_, rfl⟩ <;> repeat' (first | exact trivial | (refine ⟨rfl, ?_⟩) | fail))
    all_goals
      rename_i h
      have h2 : 2 ≤ (blk p d).length := by simp at h; omega
      have e := hq.two h2
    · show (⟨_, _, _, _⟩ : Row) = ⟨_, _, _, _⟩; rw [e.1]
    · exact chk_i e.2.1.symm
    · exact chk_i e.2.2.symm
  · cases hcr
set_option maxHeartbeats 4000000 in
set_option maxRecDepth 20000 in
theorem okAllow (hS : Hyp G) : ConOK Tryz.prog G 120 cAllow := by
  refine seat_con hS.seat [(60, cDelA), (1000060, cMark)] [] ⟨okDelA hS, okMark, trivial⟩ Tryz.func120 rfl rfl rfl ?_
  intro rvs cr hcr hpre
  unfold cAllow at hcr
  split at hcr
  · cases hcr
    simp only [List.mem_cons, List.not_mem_nil, or_false, forall_eq_or_imp, forall_eq] at hpre
    refine ⟨⟨rfl, rfl, by simp [occOk, normL, occL, occ, vwsL, vws]⟩, fun c hc vs => ?_⟩
    simp only [normL, impL, imp, List.contains_cons, beq_self_eq_true, Bool.true_or, Bool.true_and]
    repeat' (first | exact Bool.noConfusion ‹(!true) = true› | exact Bool.noConfusion ‹(!false) = false› | (intro h; exact h) | (intro h; rw [h]; rfl) | (intro h1 h2; rw [h1, h2]; rfl) | (intro _; assumption) | (intro _; exact rfl) | (intro h; exact Bool.noConfusion (h.symm.trans ‹_ = false›)) | refine ⟨fun _ => ?_, fun _ => ?_⟩ | refine ⟨?_⟩ | refine ⟨?_, ?_⟩ | fail)
    all_goals first | exact trivial | (refine (?_ : (_ : Int) ≠ _); decide) | exact rfl | skip
    · exact hpre
    · show (⟨_, _, _, _⟩ : Row) = ⟨_, _, _, _⟩
      simp only [Bool.not_not]
  · cases hcr
set_option maxHeartbeats 4000000 in
set_option maxRecDepth 20000 in
theorem okGen (hS : Hyp G) : ConOK Tryz.prog G 90 cGen := by
  refine seat_con hS.seat [(121, cFour), (120, cAllow), (1000120, cMark)] [] ⟨okFour hS, okAllow hS, okMark, trivial⟩ Tryz.func90 rfl rfl rfl ?_
  intro rvs cr hcr hpre
  unfold cGen at hcr
  split at hcr
  · cases hcr
    refine ⟨⟨rfl, rfl, rfl⟩, fun c hc vs => ?_⟩
    repeat' (first | exact Bool.noConfusion ‹(!true) = true› | exact Bool.noConfusion ‹(!false) = false› | (intro h; exact h) | (intro h; rw [h]; rfl) | (intro h1 h2; rw [h1, h2]; rfl) | (intro _; assumption) | (intro _; exact rfl) | (intro h; exact Bool.noConfusion (h.symm.trans ‹_ = false›)) | refine ⟨fun _ => ?_, fun _ => ?_⟩ | refine ⟨?_⟩ | refine ⟨?_, ?_⟩ | fail)
    all_goals first | exact trivial | (refine (?_ : (_ : Int) ≠ _); decide) | exact rfl | skip
    all_goals first | exact SM.of (by decide) (by decide) | skip
    · simp [spFour]
    · simp [spFour]
    · show LB (spFour _ 1 0 ++ spFour _ 0 1); simp [spFour, LB]
  · cases hcr
set_option maxHeartbeats 4000000 in
set_option maxRecDepth 20000 in
theorem okAdvL (hS : Hyp G) : ConOK Tryz.prog G 91 cAdvL := by
  refine seat_con hS.seat [(121, cFour), (120, cAllow), (1000120, cMark)] [] ⟨okFour hS, okAllow hS, okMark, trivial⟩ Tryz.func91 rfl rfl rfl ?_
  intro rvs cr hcr hpre
  unfold cAdvL at hcr
  split at hcr
  · cases hcr
    refine ⟨⟨rfl, rfl, rfl⟩, fun c hc vs => ?_⟩
    repeat' (first | exact Bool.noConfusion ‹(!true) = true› | exact Bool.noConfusion ‹(!false) = false› | (intro h; exact h) | (intro h; rw [h]; rfl) | (intro h1 h2; rw [h1, h2]; rfl) | (intro _; assumption) | (intro _; exact rfl) | (intro h; exact Bool.noConfusion (h.symm.trans ‹_ = false›)) | refine ⟨fun _ => ?_, fun _ => ?_⟩ | refine ⟨?_⟩ | refine ⟨?_, ?_⟩ | fail)
    all_goals first | exact trivial | (refine (?_ : (_ : Int) ≠ _); decide) | exact rfl | skip
    all_goals first | exact SM.of (by decide) (by decide) | skip
    · simp [spFour, LB]
  · cases hcr
set_option maxHeartbeats 4000000 in
set_option maxRecDepth 20000 in
theorem okLines (hS : Hyp G) : ConOK Tryz.prog G 125 cLines := by
  refine seat_con hS.seat [(145, cLine)] [] ⟨okLine hS, trivial⟩ Tryz.func125 rfl rfl rfl ?_
  intro rvs cr hcr hpre
  unfold cLines at hcr
  split at hcr
  · rename_i p fr pc sec
    cases hcr
    simp only [List.mem_cons, List.not_mem_nil, or_false, forall_eq_or_imp, forall_eq] at hpre
    refine ⟨⟨rfl, rfl, rfl⟩, fun c hc vs => ?_⟩
    repeat' (first | exact Bool.noConfusion ‹(!true) = true› | exact Bool.noConfusion ‹(!false) = false› | (intro h; exact h) | (intro h; rw [h]; rfl) | (intro h1 h2; rw [h1, h2]; rfl) | (intro _; assumption) | (intro _; exact rfl) | (intro h; exact Bool.noConfusion (h.symm.trans ‹_ = false›)) | refine ⟨fun _ => ?_, fun _ => ?_⟩ | refine ⟨?_⟩ | refine ⟨?_, ?_⟩ | fail)
    all_goals first | exact trivial | (refine (?_ : (_ : Int) ≠ _); decide) | exact rfl | skip
    refine Tr_nilTmp 3 (.int .i64) 5 rfl (by decide) ?_
    repeat' (first | exact Bool.noConfusion ‹(!true) = true› | exact Bool.noConfusion ‹(!false) = false› | (intro h; exact h) | (intro h; rw [h]; rfl) | (intro h1 h2; rw [h1, h2]; rfl) | (intro _; assumption) | (intro _; exact rfl) | (intro h; exact Bool.noConfusion (h.symm.trans ‹_ = false›)) | refine ⟨fun _ => ?_, fun _ => ?_⟩ | refine ⟨?_⟩ | refine ⟨?_, ?_⟩ | fail)
    refine Tr_loopH (α := Nat) (fun i => [(5, .row 1), (17, .i .i64 (.ofNat i))]) (fun _ => []) (fun i => [(1, some ⟨3, .int .i64, (dirs.take i).flatMap (line1 p fr sec), true⟩)])
      (fun i => i ≤ 4) (fun i => 4 - i) 0 (by omega) (by (refine ⟨?_, rfl, ?_, ?_, ?_, rfl⟩ <;> repeat' (first | exact trivial | (refine ⟨rfl, ?_⟩) | fail))) ?_
    intro i hi
    have hl1 := dirs_len (f := line1 p fr sec) (fun w => line1_len _ _ _ w) hi
    have hl2 := free_len p fr (dirs.getD i (0, 0)).1 (dirs.getD i (0, 0)).2
    refine vs.go rfl ?_
    repeat' (first | exact Bool.noConfusion ‹(!true) = true› | exact Bool.noConfusion ‹(!false) = false› | (intro h; exact h) | (intro h; rw [h]; rfl) | (intro h1 h2; rw [h1, h2]; rfl) | (intro _; assumption) | (intro _; exact rfl) | (intro h; exact Bool.noConfusion (h.symm.trans ‹_ = false›)) | refine ⟨fun _ => ?_, fun _ => ?_⟩ | refine ⟨?_⟩ | refine ⟨?_, ?_⟩ | fail)
    all_goals first | exact trivial | (refine (?_ : (_ : Int) ≠ _); decide) | exact rfl | skip
    all_goals try dsimp only at *
    · rename_i h; simpa using h
    · rename_i h; simp at h; exact dirs_dir (i := i) (by omega)
    · exact hpre
    · show ((dirs.take i).flatMap (line1 p fr sec)).length + (spFree p fr (dirs.getD i (0, 0)).1 (dirs.getD i (0, 0)).2).length ≤ 4000000000
      omega
    · show (((dirs.take i).flatMap (line1 p fr sec)).length + (spFree p fr (dirs.getD i (0, 0)).1 (dirs.getD i (0, 0)).2).length) * 8 ≤ 140737488355328
      omega
    iterate 2
      · show ((dirs.take i).flatMap (line1 p fr sec) ++ spFree p fr (dirs.getD i (0, 0)).1 (dirs.getD i (0, 0)).2).length + 1 ≤ 4000000000
        rw [List.length_append]; omega
      · show (((dirs.take i).flatMap (line1 p fr sec) ++ spFree p fr (dirs.getD i (0, 0)).1 (dirs.getD i (0, 0)).2).length + 1) * 8 ≤ 140737488355328
        rw [List.length_append]; omega
      · rename_i h hs
        simp at h
        refine Again.mk (i + 1) (by omega) (by omega) ?_
        have e := dirs_next (by omega : i < 4) (line1 p fr sec)
        rw [e, line1, hs, wrapN (by omega), ← List.append_assoc]
        (refine ⟨?_, rfl, ?_, ?_, ?_, rfl⟩ <;> repeat' (first | exact trivial | (refine ⟨rfl, ?_⟩) | fail))
    all_goals
      rename_i h
      simp at h
      have h4 : i = 4 := by omega
      subst h4
      rfl
  · cases hcr
set_option maxHeartbeats 4000000 in
set_option maxRecDepth 20000 in
theorem okChariot (hS : Hyp G) : ConOK Tryz.prog G 94 cChariot := by
  refine seat_con hS.seat [(125, cLines)] [] ⟨okLines hS, trivial⟩ Tryz.func94 rfl rfl rfl ?_
  intro rvs cr hcr hpre
  unfold cChariot at hcr
  split at hcr
  · cases hcr
    simp only [List.mem_cons, List.not_mem_nil, or_false, forall_eq_or_imp, forall_eq] at hpre
    refine ⟨⟨rfl, rfl, rfl⟩, fun c hc vs => ?_⟩
    repeat' (first | exact Bool.noConfusion ‹(!true) = true› | exact Bool.noConfusion ‹(!false) = false› | (intro h; exact h) | (intro h; rw [h]; rfl) | (intro h1 h2; rw [h1, h2]; rfl) | (intro _; assumption) | (intro _; exact rfl) | (intro h; exact Bool.noConfusion (h.symm.trans ‹_ = false›)) | refine ⟨fun _ => ?_, fun _ => ?_⟩ | refine ⟨?_⟩ | refine ⟨?_, ?_⟩ | fail)
    all_goals first | exact trivial | (refine (?_ : (_ : Int) ≠ _); decide) | exact rfl | skip
    exact hpre
  · cases hcr
set_option maxHeartbeats 4000000 in
set_option maxRecDepth 20000 in
theorem okCannon (hS : Hyp G) : ConOK Tryz.prog G 95 cCannon := by
  refine seat_con hS.seat [(125, cLines)] [] ⟨okLines hS, trivial⟩ Tryz.func95 rfl rfl rfl ?_
  intro rvs cr hcr hpre
  unfold cCannon at hcr
  split at hcr
  · cases hcr
    simp only [List.mem_cons, List.not_mem_nil, or_false, forall_eq_or_imp, forall_eq] at hpre
    refine ⟨⟨rfl, rfl, rfl⟩, fun c hc vs => ?_⟩
    repeat' (first | exact Bool.noConfusion ‹(!true) = true› | exact Bool.noConfusion ‹(!false) = false› | (intro h; exact h) | (intro h; rw [h]; rfl) | (intro h1 h2; rw [h1, h2]; rfl) | (intro _; assumption) | (intro _; exact rfl) | (intro h; exact Bool.noConfusion (h.symm.trans ‹_ = false›)) | refine ⟨fun _ => ?_, fun _ => ?_⟩ | refine ⟨?_⟩ | refine ⟨?_, ?_⟩ | fail)
    all_goals first | exact trivial | (refine (?_ : (_ : Int) ≠ _); decide) | exact rfl | skip
    exact hpre
  · cases hcr
set_option maxHeartbeats 4000000 in
set_option maxRecDepth 20000 in
theorem okHorse (hS : Hyp G) : ConOK Tryz.prog G 93 cHorse := by
  refine seat_con hS.seat [(124, cStep), (123, cEmpty)] [] ⟨okStep hS, okEmpty hS, trivial⟩ Tryz.func93 rfl rfl rfl ?_
  intro rvs cr hcr hpre
  unfold cHorse at hcr
  split at hcr
  · rename_i p fr pc
    cases hcr
    simp only [List.mem_cons, List.not_mem_nil, or_false, forall_eq_or_imp, forall_eq] at hpre
    refine ⟨⟨rfl, rfl, rfl⟩, fun c hc vs => ?_⟩
    repeat' (first | exact Bool.noConfusion ‹(!true) = true› | exact Bool.noConfusion ‹(!false) = false› | (intro h; exact h) | (intro h; rw [h]; rfl) | (intro h1 h2; rw [h1, h2]; rfl) | (intro _; assumption) | (intro _; exact rfl) | (intro h; exact Bool.noConfusion (h.symm.trans ‹_ = false›)) | refine ⟨fun _ => ?_, fun _ => ?_⟩ | refine ⟨?_⟩ | refine ⟨?_, ?_⟩ | fail)
    all_goals first | exact trivial | (refine (?_ : (_ : Int) ≠ _); decide) | exact rfl | skip
    refine Tr_nilTmp 3 (.int .i64) 3 rfl (by decide) ?_
    repeat' (first | exact Bool.noConfusion ‹(!true) = true› | exact Bool.noConfusion ‹(!false) = false› | (intro h; exact h) | (intro h; rw [h]; rfl) | (intro h1 h2; rw [h1, h2]; rfl) | (intro _; assumption) | (intro _; exact rfl) | (intro h; exact Bool.noConfusion (h.symm.trans ‹_ = false›)) | refine ⟨fun _ => ?_, fun _ => ?_⟩ | refine ⟨?_⟩ | refine ⟨?_, ?_⟩ | fail)
    refine Tr_loopH (α := Nat) (fun i => [(3, .row 1), (12, .i .i64 (.ofNat i))]) (fun _ => []) (fun i => [(1, some ⟨3, .int .i64, (dirs.take i).flatMap (horse1 p fr), true⟩)])
      (fun i => i ≤ 4) (fun i => 4 - i) 0 (by omega) (by (refine ⟨?_, rfl, ?_, ?_, ?_, rfl⟩ <;> repeat' (first | exact trivial | (refine ⟨rfl, ?_⟩) | fail))) ?_
    intro i hi
    have hl1 := dirs_len (f := horse1 p fr) (fun w => by unfold horse1; split <;> simp) hi
    refine vs.go rfl ?_
    repeat' (first | exact Bool.noConfusion ‹(!true) = true› | exact Bool.noConfusion ‹(!false) = false› | (intro h; exact h) | (intro h; rw [h]; rfl) | (intro h1 h2; rw [h1, h2]; rfl) | (intro _; assumption) | (intro _; exact rfl) | (intro h; exact Bool.noConfusion (h.symm.trans ‹_ = false›)) | refine ⟨fun _ => ?_, fun _ => ?_⟩ | refine ⟨?_⟩ | refine ⟨?_, ?_⟩ | fail)
    all_goals first | exact trivial | (refine (?_ : (_ : Int) ≠ _); decide) | exact rfl | skip
    all_goals try dsimp only at *
    · rename_i h; simpa using h
    iterate 2
      · have hs := dir_sm (dirs_dir (i := i) (by simp at *; omega))
        first | exact hs.1 | exact hs.2.1
    · exact hpre
    iterate 4
      · have hd := dirs_dir (i := i) (by simp at *; omega)
        have hs := dir_sm hd
        obtain ⟨_, _, h1, h2, h3, h4⟩ := hs
        rw [← dir_w1 hd] at h1
        rw [← dir_w2 hd] at h2
        rw [← dir_w3 hd] at h3
        rw [← dir_w4 hd] at h4
        first | exact h1 | exact h2 | exact h3 | exact h4
    · show ((dirs.take i).flatMap (horse1 p fr)).length + 2 ≤ 4000000000; omega
    · show (((dirs.take i).flatMap (horse1 p fr)).length + 2) * 8 ≤ 140737488355328; omega
    · rename_i h hs
      simp at h
      have hd := dirs_dir (i := i) (by omega)
      refine Again.mk (i + 1) (by omega) (by omega) ?_
      have e := dirs_next (by omega : i < 4) (horse1 p fr)
      have hs' : spEmpty p (spStep fr (dirs.getD i (0, 0)).1 (dirs.getD i (0, 0)).2) = true := hs
      rw [e, horse1, if_pos hs', wrapN (by omega), ← dir_w1 hd, ← dir_w2 hd, ← dir_w3 hd, ← dir_w4 hd]
      (refine ⟨?_, rfl, ?_, ?_, ?_, rfl⟩ <;> repeat' (first | exact trivial | (refine ⟨rfl, ?_⟩) | fail))
    · rename_i h hs
      simp at h
      refine Again.mk (i + 1) (by omega) (by omega) ?_
      have e := dirs_next (by omega : i < 4) (horse1 p fr)
      have hs' : spEmpty p (spStep fr (dirs.getD i (0, 0)).1 (dirs.getD i (0, 0)).2) = false := hs
      rw [e, horse1, hs', wrapN (by omega), if_neg (by simp), List.append_nil]
      (refine ⟨?_, rfl, ?_, ?_, ?_, rfl⟩ <;> repeat' (first | exact trivial | (refine ⟨rfl, ?_⟩) | fail))
    · rename_i h
      simp at h
      have h4 : i = 4 := by omega
      subst h4
      rfl
  · cases hcr
set_option maxHeartbeats 4000000 in
set_option maxRecDepth 20000 in
theorem okPawn (hS : Hyp G) : ConOK Tryz.prog G 96 cPawn := by
  refine seat_con hS.seat [(29, cSide), (124, cStep), (126, cOver)] [] ⟨okSide hS, okStep hS, okOver hS, trivial⟩ Tryz.func96 rfl rfl rfl ?_
  intro rvs cr hcr hpre
  unfold cPawn at hcr
  split at hcr
  · rename_i p fr pc
    cases hcr
    simp only [List.mem_cons, List.not_mem_nil, or_false, forall_eq_or_imp, forall_eq] at hpre
    refine ⟨⟨rfl, rfl, rfl⟩, fun c hc vs => ?_⟩
    have hb := side_bd pc
    have e : IntKind.i64.wrap (1 - IntKind.i64.wrap (2 * spSide pc)) = 1 - 2 * spSide pc := by
      rw [wrap64 (x := 2 * _) (by omega) (by omega), wrap64 (by omega) (by omega)]
    repeat' (first | exact Bool.noConfusion ‹(!true) = true› | exact Bool.noConfusion ‹(!false) = false› | (intro h; exact h) | (intro h; rw [h]; rfl) | (intro h1 h2; rw [h1, h2]; rfl) | (intro _; assumption) | (intro _; exact rfl) | (intro h; exact Bool.noConfusion (h.symm.trans ‹_ = false›)) | refine ⟨fun _ => ?_, fun _ => ?_⟩ | refine ⟨?_⟩ | refine ⟨?_, ?_⟩ | fail)
    all_goals first | exact trivial | (refine (?_ : (_ : Int) ≠ _); decide) | exact rfl | skip
    all_goals first | exact SM.of (by decide) (by decide) | (rw [e]; exact SM.of (by omega) (by omega)) | (simp; done) | skip
    · rename_i h
      show (⟨_, _, _, _⟩ : Row) = ⟨_, _, _, _⟩
      rw [e, spPawnL, if_pos h]
    · rename_i h
      show (⟨_, _, _, _⟩ : Row) = ⟨_, _, _, _⟩
      rw [e, spPawnL, if_neg (by rw [h]; simp)]; rfl
  · cases hcr
end
end Go.X
