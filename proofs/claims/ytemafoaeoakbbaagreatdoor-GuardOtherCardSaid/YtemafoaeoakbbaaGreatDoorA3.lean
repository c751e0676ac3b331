/-
  The seat's types.
-/
import Derived.Test.YtemafoaeoakbbaaGreatDoorProg
import Derived.Test.YtemafoaeoakbbaaGreatDoorA2

set_option linter.unusedSimpArgs false
set_option linter.unusedVariables false

namespace Go.X
open Go Go.Proofs
theorem td1 : TDOK Tryz.prog 1 ⟨.func, 1, 8, [.nilf], none, none, false⟩ := tdok_of (info_of Tryz.type1) rfl ⟨_, _, _, Tryz.underlying1⟩ ⟨rfl, rfl, rfl⟩ rfl (.inl ⟨rfl, rfl⟩) (.inl rfl)
theorem td2 : TDOK Tryz.prog 2 ⟨.int .i64, 1, 8, [.i .i64 0], some (.int .i64), none, false⟩ := tdok_of (info_of Tryz.type2) rfl Tryz.underlying2 ⟨rfl, rfl, rfl⟩ rfl (.inl ⟨rfl, rfl⟩) (.inr ⟨_, rfl, rfl, by decide, rfl⟩)
theorem td3 : TDOK Tryz.prog 3 ⟨.int .i64, 1, 8, [.i .i64 0], some (.int .i64), none, false⟩ := tdok_of (info_of Tryz.type3) rfl Tryz.underlying3 ⟨rfl, rfl, rfl⟩ rfl (.inl ⟨rfl, rfl⟩) (.inr ⟨_, rfl, rfl, by decide, rfl⟩)
theorem td4 : TDOK Tryz.prog 4 ⟨.bool, 1, 1, [.b false], some .bool, none, false⟩ := tdok_of (info_of Tryz.type4) rfl Tryz.underlying4 ⟨rfl, rfl, rfl⟩ rfl (.inl ⟨rfl, rfl⟩) (.inr ⟨_, rfl, rfl, by decide, rfl⟩)
theorem td5 : TDOK Tryz.prog 5 ⟨.int .u8, 1, 1, [.i .u8 0], some (.int .u8), none, false⟩ := tdok_of (info_of Tryz.type5) rfl Tryz.underlying5 ⟨rfl, rfl, rfl⟩ rfl (.inl ⟨rfl, rfl⟩) (.inr ⟨_, rfl, rfl, by decide, rfl⟩)
theorem td6 : TDOK Tryz.prog 6 ⟨.int .u8, 1, 1, [.i .u8 0], some (.int .u8), none, false⟩ := tdok_of (info_of Tryz.type6) rfl Tryz.underlying6 ⟨rfl, rfl, rfl⟩ rfl (.inl ⟨rfl, rfl⟩) (.inr ⟨_, rfl, rfl, by decide, rfl⟩)
theorem td7 : TDOK Tryz.prog 7 ⟨.struct [(0, 2), (1, 3), (2, 4), (3, 6)], 4, 24, [.i .i64 0, .i .i64 0, .b false, .i .u8 0], some (.pair (.int .i64) (.pair (.int .i64) (.pair .bool (.int .u8)))), none, false⟩ := tdok_of (info_of Tryz.type7) rfl ⟨_, Tryz.underlying7, rfl⟩ ⟨rfl, rfl, rfl⟩ rfl (.inl ⟨rfl, rfl⟩) (.inr ⟨_, rfl, rfl, by decide, rfl⟩)
theorem td8 : TDOK Tryz.prog 8 ⟨.struct [(0, 2), (1, 3), (2, 4), (3, 6)], 4, 24, [.i .i64 0, .i .i64 0, .b false, .i .u8 0], some (.pair (.int .i64) (.pair (.int .i64) (.pair .bool (.int .u8)))), none, false⟩ := tdok_of (info_of Tryz.type8) rfl ⟨_, Tryz.underlying8, rfl⟩ ⟨rfl, rfl, rfl⟩ rfl (.inl ⟨rfl, rfl⟩) (.inr ⟨_, rfl, rfl, by decide, rfl⟩)
theorem td9 : TDOK Tryz.prog 9 ⟨.str, 1, 16, [.s ByteArray.empty], some .str, none, false⟩ := tdok_of (info_of Tryz.type9) rfl Tryz.underlying9 ⟨rfl, rfl, rfl⟩ rfl (.inl ⟨rfl, rfl⟩) (.inr ⟨_, rfl, rfl, by decide, rfl⟩)
theorem td10 : TDOK Tryz.prog 10 ⟨.str, 1, 16, [.s ByteArray.empty], some .str, none, false⟩ := tdok_of (info_of Tryz.type10) rfl Tryz.underlying10 ⟨rfl, rfl, rfl⟩ rfl (.inl ⟨rfl, rfl⟩) (.inr ⟨_, rfl, rfl, by decide, rfl⟩)
theorem td11 : TDOK Tryz.prog 11 ⟨.str, 1, 16, [.s ByteArray.empty], some .str, none, false⟩ := tdok_of (info_of Tryz.type11) rfl Tryz.underlying11 ⟨rfl, rfl, rfl⟩ rfl (.inl ⟨rfl, rfl⟩) (.inr ⟨_, rfl, rfl, by decide, rfl⟩)
theorem td12 : TDOK Tryz.prog 12 ⟨.int .u64, 1, 8, [.i .u64 0], some (.int .u64), none, false⟩ := tdok_of (info_of Tryz.type12) rfl Tryz.underlying12 ⟨rfl, rfl, rfl⟩ rfl (.inl ⟨rfl, rfl⟩) (.inr ⟨_, rfl, rfl, by decide, rfl⟩)
theorem td13 : TDOK Tryz.prog 13 ⟨.struct [(0, 9), (1, 12)], 2, 24, [.s ByteArray.empty, .i .u64 0], some (.pair .str (.int .u64)), none, false⟩ := tdok_of (info_of Tryz.type13) rfl ⟨_, Tryz.underlying13, rfl⟩ ⟨rfl, rfl, rfl⟩ rfl (.inl ⟨rfl, rfl⟩) (.inr ⟨_, rfl, rfl, by decide, rfl⟩)
theorem td14 : TDOK Tryz.prog 14 ⟨.struct [(0, 9), (1, 12)], 2, 24, [.s ByteArray.empty, .i .u64 0], some (.pair .str (.int .u64)), none, false⟩ := tdok_of (info_of Tryz.type14) rfl ⟨_, Tryz.underlying14, rfl⟩ ⟨rfl, rfl, rfl⟩ rfl (.inl ⟨rfl, rfl⟩) (.inr ⟨_, rfl, rfl, by decide, rfl⟩)
theorem td15 : TDOK Tryz.prog 15 ⟨.ptr 135, 1, 8, [.nilp], none, none, false⟩ := tdok_of (info_of Tryz.type15) rfl Tryz.underlying15 ⟨rfl, rfl, rfl⟩ rfl (.inl ⟨rfl, rfl⟩) (.inl rfl)
theorem td16 : TDOK Tryz.prog 16 ⟨.ptr 138, 1, 8, [.nilp], none, none, false⟩ := tdok_of (info_of Tryz.type16) rfl Tryz.underlying16 ⟨rfl, rfl, rfl⟩ rfl (.inl ⟨rfl, rfl⟩) (.inl rfl)
theorem td17 : TDOK Tryz.prog 17 ⟨.ptr 146, 1, 8, [.nilp], none, none, false⟩ := tdok_of (info_of Tryz.type17) rfl Tryz.underlying17 ⟨rfl, rfl, rfl⟩ rfl (.inl ⟨rfl, rfl⟩) (.inl rfl)
theorem td18 : TDOK Tryz.prog 18 ⟨.struct [(0, 17)], 1, 8, [.nilp], none, none, false⟩ := tdok_of (info_of Tryz.type18) rfl ⟨_, Tryz.underlying18, rfl⟩ ⟨rfl, rfl, rfl⟩ rfl (.inl ⟨rfl, rfl⟩) (.inl rfl)
theorem td19 : TDOK Tryz.prog 19 ⟨.struct [(0, 17)], 1, 8, [.nilp], none, none, false⟩ := tdok_of (info_of Tryz.type19) rfl ⟨_, Tryz.underlying19, rfl⟩ ⟨rfl, rfl, rfl⟩ rfl (.inl ⟨rfl, rfl⟩) (.inl rfl)
theorem td20 : TDOK Tryz.prog 20 ⟨.iface, 1, 16, [.nili], none, none, false⟩ := tdok_of (info_of Tryz.type20) rfl ⟨_, Tryz.underlying20⟩ ⟨rfl, rfl, rfl⟩ rfl (.inl ⟨rfl, rfl⟩) (.inl rfl)
theorem td21 : TDOK Tryz.prog 21 ⟨.int .i32, 1, 4, [.i .i32 0], some (.int .i32), none, false⟩ := tdok_of (info_of Tryz.type21) rfl Tryz.underlying21 ⟨rfl, rfl, rfl⟩ rfl (.inl ⟨rfl, rfl⟩) (.inr ⟨_, rfl, rfl, by decide, rfl⟩)
theorem td22 : TDOK Tryz.prog 22 ⟨.struct [(0, 3), (1, 3)], 2, 16, [.i .i64 0, .i .i64 0], some (.pair (.int .i64) (.int .i64)), none, false⟩ := tdok_of (info_of Tryz.type22) rfl ⟨_, Tryz.underlying22, rfl⟩ ⟨rfl, rfl, rfl⟩ rfl (.inl ⟨rfl, rfl⟩) (.inr ⟨_, rfl, rfl, by decide, rfl⟩)
theorem eqs23 : ∀ (x y : EK.ty (.pair (.int .i64) (.int .i64))) (w : World), (Op.equalIn 10000 23 (.agg (EK.vals (.pair (.int .i64) (.int .i64)) x).toArray) (.agg (EK.vals (.pair (.int .i64) (.int .i64)) y).toArray)).run Tryz.prog w = .ok (EK.eqb (.pair (.int .i64) (.int .i64)) x y) w := by
  intro x y w
  rw [run_equalIn_agg w 9999 23 _ _ (by rw [fo Tryz.underlying23]; exact Tryz.underlying23) Tryz.stoodInHeld23, fo Tryz.underlying23]
  simp only [EK.vals, List.cons_append, List.nil_append, EK.eqb]
  have p0 : ∀ (a0 a1 : Value), (part 3 #[a0, a1] 0).run Tryz.prog w = .ok a0 w := fun a0 a1 => part_run td3 [a0, a1] 0
  have p1 : ∀ (a0 a1 : Value), (part 3 #[a0, a1] 1).run Tryz.prog w = .ok a1 w := fun a0 a1 => part_run td3 [a0, a1] 1
  simp [Op.eqFields, p0, p1, run_equalIn_int w 9998 3 .i64 .i64 _ _ Tryz.underlying3]
  by_cases h1 : x.1 = y.1 <;> by_cases h2 : x.2 = y.2 <;> simp [h1, h2]

theorem td23 : TDOK Tryz.prog 23 ⟨.struct [(0, 3), (1, 3)], 2, 16, [.i .i64 0, .i .i64 0], some (.pair (.int .i64) (.int .i64)), none, true⟩ := tdok_of (info_of Tryz.type23) rfl ⟨_, Tryz.underlying23, rfl⟩ ⟨rfl, rfl, rfl⟩ rfl (.inl ⟨rfl, rfl⟩) (.inr ⟨_, rfl, rfl, by decide, rfl⟩) (fun _ k hk => by cases hk; exact ⟨Tryz.eqGuardType23, eqs23⟩)
theorem td24 : TDOK Tryz.prog 24 ⟨.func, 1, 8, [.nilf], none, none, false⟩ := tdok_of (info_of Tryz.type24) rfl ⟨_, _, _, Tryz.underlying24⟩ ⟨rfl, rfl, rfl⟩ rfl (.inl ⟨rfl, rfl⟩) (.inl rfl)
theorem td25 : TDOK Tryz.prog 25 ⟨.func, 1, 8, [.nilf], none, none, false⟩ := tdok_of (info_of Tryz.type25) rfl ⟨_, _, _, Tryz.underlying25⟩ ⟨rfl, rfl, rfl⟩ rfl (.inl ⟨rfl, rfl⟩) (.inl rfl)
theorem td26 : TDOK Tryz.prog 26 ⟨.slice 23, 1, 24, [.nils], none, none, false⟩ := tdok_of (info_of Tryz.type26) rfl Tryz.underlying26 ⟨rfl, rfl, rfl⟩ rfl (.inl ⟨rfl, rfl⟩) (.inl rfl)
theorem td27 : TDOK Tryz.prog 27 ⟨.func, 1, 8, [.nilf], none, none, false⟩ := tdok_of (info_of Tryz.type27) rfl ⟨_, _, _, Tryz.underlying27⟩ ⟨rfl, rfl, rfl⟩ rfl (.inl ⟨rfl, rfl⟩) (.inl rfl)
theorem td28 : TDOK Tryz.prog 28 ⟨.func, 1, 8, [.nilf], none, none, false⟩ := tdok_of (info_of Tryz.type28) rfl ⟨_, _, _, Tryz.underlying28⟩ ⟨rfl, rfl, rfl⟩ rfl (.inl ⟨rfl, rfl⟩) (.inl rfl)
theorem td29 : TDOK Tryz.prog 29 ⟨.func, 1, 8, [.nilf], none, none, false⟩ := tdok_of (info_of Tryz.type29) rfl ⟨_, _, _, Tryz.underlying29⟩ ⟨rfl, rfl, rfl⟩ rfl (.inl ⟨rfl, rfl⟩) (.inl rfl)
theorem td30 : TDOK Tryz.prog 30 ⟨.struct [(0, 9), (1, 3), (2, 3), (3, 3)], 4, 40, [.s ByteArray.empty, .i .i64 0, .i .i64 0, .i .i64 0], some (.pair .str (.pair (.int .i64) (.pair (.int .i64) (.int .i64)))), none, false⟩ := tdok_of (info_of Tryz.type30) rfl ⟨_, Tryz.underlying30, rfl⟩ ⟨rfl, rfl, rfl⟩ rfl (.inl ⟨rfl, rfl⟩) (.inr ⟨_, rfl, rfl, by decide, rfl⟩)
theorem td31 : TDOK Tryz.prog 31 ⟨.struct [(0, 9), (1, 3), (2, 3), (3, 3)], 4, 40, [.s ByteArray.empty, .i .i64 0, .i .i64 0, .i .i64 0], some (.pair .str (.pair (.int .i64) (.pair (.int .i64) (.int .i64)))), none, false⟩ := tdok_of (info_of Tryz.type31) rfl ⟨_, Tryz.underlying31, rfl⟩ ⟨rfl, rfl, rfl⟩ rfl (.inl ⟨rfl, rfl⟩) (.inr ⟨_, rfl, rfl, by decide, rfl⟩)
theorem td32 : TDOK Tryz.prog 32 ⟨.func, 1, 8, [.nilf], none, none, false⟩ := tdok_of (info_of Tryz.type32) rfl ⟨_, _, _, Tryz.underlying32⟩ ⟨rfl, rfl, rfl⟩ rfl (.inl ⟨rfl, rfl⟩) (.inl rfl)
theorem td33 : TDOK Tryz.prog 33 ⟨.func, 1, 8, [.nilf], none, none, false⟩ := tdok_of (info_of Tryz.type33) rfl ⟨_, _, _, Tryz.underlying33⟩ ⟨rfl, rfl, rfl⟩ rfl (.inl ⟨rfl, rfl⟩) (.inl rfl)
theorem td34 : TDOK Tryz.prog 34 ⟨.func, 1, 8, [.nilf], none, none, false⟩ := tdok_of (info_of Tryz.type34) rfl ⟨_, _, _, Tryz.underlying34⟩ ⟨rfl, rfl, rfl⟩ rfl (.inl ⟨rfl, rfl⟩) (.inl rfl)
theorem td35 : TDOK Tryz.prog 35 ⟨.int .i64, 1, 8, [.i .i64 0], some (.int .i64), none, false⟩ := tdok_of (info_of Tryz.type35) rfl Tryz.underlying35 ⟨rfl, rfl, rfl⟩ rfl (.inl ⟨rfl, rfl⟩) (.inr ⟨_, rfl, rfl, by decide, rfl⟩)
theorem td37 : TDOK Tryz.prog 37 ⟨.func, 1, 8, [.nilf], none, none, false⟩ := tdok_of (info_of Tryz.type37) rfl ⟨_, _, _, Tryz.underlying37⟩ ⟨rfl, rfl, rfl⟩ rfl (.inl ⟨rfl, rfl⟩) (.inl rfl)
theorem td38 : TDOK Tryz.prog 38 ⟨.func, 1, 8, [.nilf], none, none, false⟩ := tdok_of (info_of Tryz.type38) rfl ⟨_, _, _, Tryz.underlying38⟩ ⟨rfl, rfl, rfl⟩ rfl (.inl ⟨rfl, rfl⟩) (.inl rfl)
theorem td39 : TDOK Tryz.prog 39 ⟨.slice 3, 1, 24, [.nils], none, none, false⟩ := tdok_of (info_of Tryz.type39) rfl Tryz.underlying39 ⟨rfl, rfl, rfl⟩ rfl (.inl ⟨rfl, rfl⟩) (.inl rfl)
theorem td40 : TDOK Tryz.prog 40 ⟨.func, 1, 8, [.nilf], none, none, false⟩ := tdok_of (info_of Tryz.type40) rfl ⟨_, _, _, Tryz.underlying40⟩ ⟨rfl, rfl, rfl⟩ rfl (.inl ⟨rfl, rfl⟩) (.inl rfl)
theorem td41 : TDOK Tryz.prog 41 ⟨.func, 1, 8, [.nilf], none, none, false⟩ := tdok_of (info_of Tryz.type41) rfl ⟨_, _, _, Tryz.underlying41⟩ ⟨rfl, rfl, rfl⟩ rfl (.inl ⟨rfl, rfl⟩) (.inl rfl)
theorem td42 : TDOK Tryz.prog 42 ⟨.func, 1, 8, [.nilf], none, none, false⟩ := tdok_of (info_of Tryz.type42) rfl ⟨_, _, _, Tryz.underlying42⟩ ⟨rfl, rfl, rfl⟩ rfl (.inl ⟨rfl, rfl⟩) (.inl rfl)
theorem td43 : TDOK Tryz.prog 43 ⟨.func, 1, 8, [.nilf], none, none, false⟩ := tdok_of (info_of Tryz.type43) rfl ⟨_, _, _, Tryz.underlying43⟩ ⟨rfl, rfl, rfl⟩ rfl (.inl ⟨rfl, rfl⟩) (.inl rfl)
theorem td44 : TDOK Tryz.prog 44 ⟨.func, 1, 8, [.nilf], none, none, false⟩ := tdok_of (info_of Tryz.type44) rfl ⟨_, _, _, Tryz.underlying44⟩ ⟨rfl, rfl, rfl⟩ rfl (.inl ⟨rfl, rfl⟩) (.inl rfl)
theorem td45 : TDOK Tryz.prog 45 ⟨.func, 1, 8, [.nilf], none, none, false⟩ := tdok_of (info_of Tryz.type45) rfl ⟨_, _, _, Tryz.underlying45⟩ ⟨rfl, rfl, rfl⟩ rfl (.inl ⟨rfl, rfl⟩) (.inl rfl)
theorem td46 : TDOK Tryz.prog 46 ⟨.func, 1, 8, [.nilf], none, none, false⟩ := tdok_of (info_of Tryz.type46) rfl ⟨_, _, _, Tryz.underlying46⟩ ⟨rfl, rfl, rfl⟩ rfl (.inl ⟨rfl, rfl⟩) (.inl rfl)
theorem td47 : TDOK Tryz.prog 47 ⟨.func, 1, 8, [.nilf], none, none, false⟩ := tdok_of (info_of Tryz.type47) rfl ⟨_, _, _, Tryz.underlying47⟩ ⟨rfl, rfl, rfl⟩ rfl (.inl ⟨rfl, rfl⟩) (.inl rfl)
theorem td48 : TDOK Tryz.prog 48 ⟨.func, 1, 8, [.nilf], none, none, false⟩ := tdok_of (info_of Tryz.type48) rfl ⟨_, _, _, Tryz.underlying48⟩ ⟨rfl, rfl, rfl⟩ rfl (.inl ⟨rfl, rfl⟩) (.inl rfl)
theorem td49 : TDOK Tryz.prog 49 ⟨.func, 1, 8, [.nilf], none, none, false⟩ := tdok_of (info_of Tryz.type49) rfl ⟨_, _, _, Tryz.underlying49⟩ ⟨rfl, rfl, rfl⟩ rfl (.inl ⟨rfl, rfl⟩) (.inl rfl)
theorem td50 : TDOK Tryz.prog 50 ⟨.func, 1, 8, [.nilf], none, none, false⟩ := tdok_of (info_of Tryz.type50) rfl ⟨_, _, _, Tryz.underlying50⟩ ⟨rfl, rfl, rfl⟩ rfl (.inl ⟨rfl, rfl⟩) (.inl rfl)
theorem td51 : TDOK Tryz.prog 51 ⟨.func, 1, 8, [.nilf], none, none, false⟩ := tdok_of (info_of Tryz.type51) rfl ⟨_, _, _, Tryz.underlying51⟩ ⟨rfl, rfl, rfl⟩ rfl (.inl ⟨rfl, rfl⟩) (.inl rfl)
theorem td52 : TDOK Tryz.prog 52 ⟨.func, 1, 8, [.nilf], none, none, false⟩ := tdok_of (info_of Tryz.type52) rfl ⟨_, _, _, Tryz.underlying52⟩ ⟨rfl, rfl, rfl⟩ rfl (.inl ⟨rfl, rfl⟩) (.inl rfl)
theorem td53 : TDOK Tryz.prog 53 ⟨.func, 1, 8, [.nilf], none, none, false⟩ := tdok_of (info_of Tryz.type53) rfl ⟨_, _, _, Tryz.underlying53⟩ ⟨rfl, rfl, rfl⟩ rfl (.inl ⟨rfl, rfl⟩) (.inl rfl)
theorem td54 : TDOK Tryz.prog 54 ⟨.func, 1, 8, [.nilf], none, none, false⟩ := tdok_of (info_of Tryz.type54) rfl ⟨_, _, _, Tryz.underlying54⟩ ⟨rfl, rfl, rfl⟩ rfl (.inl ⟨rfl, rfl⟩) (.inl rfl)
theorem td55 : TDOK Tryz.prog 55 ⟨.func, 1, 8, [.nilf], none, none, false⟩ := tdok_of (info_of Tryz.type55) rfl ⟨_, _, _, Tryz.underlying55⟩ ⟨rfl, rfl, rfl⟩ rfl (.inl ⟨rfl, rfl⟩) (.inl rfl)
theorem td56 : TDOK Tryz.prog 56 ⟨.func, 1, 8, [.nilf], none, none, false⟩ := tdok_of (info_of Tryz.type56) rfl ⟨_, _, _, Tryz.underlying56⟩ ⟨rfl, rfl, rfl⟩ rfl (.inl ⟨rfl, rfl⟩) (.inl rfl)
theorem td57 : TDOK Tryz.prog 57 ⟨.slice 5, 1, 24, [.nils], none, none, false⟩ := tdok_of (info_of Tryz.type57) rfl Tryz.underlying57 ⟨rfl, rfl, rfl⟩ rfl (.inl ⟨rfl, rfl⟩) (.inl rfl)
theorem td58 : TDOK Tryz.prog 58 ⟨.func, 1, 8, [.nilf], none, none, false⟩ := tdok_of (info_of Tryz.type58) rfl ⟨_, _, _, Tryz.underlying58⟩ ⟨rfl, rfl, rfl⟩ rfl (.inl ⟨rfl, rfl⟩) (.inl rfl)
theorem td59 : TDOK Tryz.prog 59 ⟨.func, 1, 8, [.nilf], none, none, false⟩ := tdok_of (info_of Tryz.type59) rfl ⟨_, _, _, Tryz.underlying59⟩ ⟨rfl, rfl, rfl⟩ rfl (.inl ⟨rfl, rfl⟩) (.inl rfl)
theorem td60 : TDOK Tryz.prog 60 ⟨.func, 1, 8, [.nilf], none, none, false⟩ := tdok_of (info_of Tryz.type60) rfl ⟨_, _, _, Tryz.underlying60⟩ ⟨rfl, rfl, rfl⟩ rfl (.inl ⟨rfl, rfl⟩) (.inl rfl)
theorem td61 : TDOK Tryz.prog 61 ⟨.func, 1, 8, [.nilf], none, none, false⟩ := tdok_of (info_of Tryz.type61) rfl ⟨_, _, _, Tryz.underlying61⟩ ⟨rfl, rfl, rfl⟩ rfl (.inl ⟨rfl, rfl⟩) (.inl rfl)
theorem td62 : TDOK Tryz.prog 62 ⟨.func, 1, 8, [.nilf], none, none, false⟩ := tdok_of (info_of Tryz.type62) rfl ⟨_, _, _, Tryz.underlying62⟩ ⟨rfl, rfl, rfl⟩ rfl (.inl ⟨rfl, rfl⟩) (.inl rfl)
theorem td63 : TDOK Tryz.prog 63 ⟨.func, 1, 8, [.nilf], none, none, false⟩ := tdok_of (info_of Tryz.type63) rfl ⟨_, _, _, Tryz.underlying63⟩ ⟨rfl, rfl, rfl⟩ rfl (.inl ⟨rfl, rfl⟩) (.inl rfl)
theorem td64 : TDOK Tryz.prog 64 ⟨.func, 1, 8, [.nilf], none, none, false⟩ := tdok_of (info_of Tryz.type64) rfl ⟨_, _, _, Tryz.underlying64⟩ ⟨rfl, rfl, rfl⟩ rfl (.inl ⟨rfl, rfl⟩) (.inl rfl)
theorem td65 : TDOK Tryz.prog 65 ⟨.func, 1, 8, [.nilf], none, none, false⟩ := tdok_of (info_of Tryz.type65) rfl ⟨_, _, _, Tryz.underlying65⟩ ⟨rfl, rfl, rfl⟩ rfl (.inl ⟨rfl, rfl⟩) (.inl rfl)
theorem td66 : TDOK Tryz.prog 66 ⟨.int .u64, 1, 8, [.i .u64 0], some (.int .u64), none, false⟩ := tdok_of (info_of Tryz.type66) rfl Tryz.underlying66 ⟨rfl, rfl, rfl⟩ rfl (.inl ⟨rfl, rfl⟩) (.inr ⟨_, rfl, rfl, by decide, rfl⟩)
theorem td67 : TDOK Tryz.prog 67 ⟨.struct [(0, 66), (1, 66)], 2, 16, [.i .u64 0, .i .u64 0], some (.pair (.int .u64) (.int .u64)), none, false⟩ := tdok_of (info_of Tryz.type67) rfl ⟨_, Tryz.underlying67, rfl⟩ ⟨rfl, rfl, rfl⟩ rfl (.inl ⟨rfl, rfl⟩) (.inr ⟨_, rfl, rfl, by decide, rfl⟩)
theorem eqs68 : ∀ (x y : EK.ty (.pair (.int .u64) (.int .u64))) (w : World), (Op.equalIn 10000 68 (.agg (EK.vals (.pair (.int .u64) (.int .u64)) x).toArray) (.agg (EK.vals (.pair (.int .u64) (.int .u64)) y).toArray)).run Tryz.prog w = .ok (EK.eqb (.pair (.int .u64) (.int .u64)) x y) w := by
  intro x y w
  rw [run_equalIn_agg w 9999 68 _ _ (by rw [fo Tryz.underlying68]; exact Tryz.underlying68) Tryz.stoodInHeld68, fo Tryz.underlying68]
  simp only [EK.vals, List.cons_append, List.nil_append, EK.eqb]
  have p0 : ∀ (a0 a1 : Value), (part 66 #[a0, a1] 0).run Tryz.prog w = .ok a0 w := fun a0 a1 => part_run td66 [a0, a1] 0
  have p1 : ∀ (a0 a1 : Value), (part 66 #[a0, a1] 1).run Tryz.prog w = .ok a1 w := fun a0 a1 => part_run td66 [a0, a1] 1
  simp [Op.eqFields, p0, p1, run_equalIn_int w 9998 66 .u64 .u64 _ _ Tryz.underlying66]
  by_cases h1 : x.1 = y.1 <;> by_cases h2 : x.2 = y.2 <;> simp [h1, h2]

theorem td68 : TDOK Tryz.prog 68 ⟨.struct [(0, 66), (1, 66)], 2, 16, [.i .u64 0, .i .u64 0], some (.pair (.int .u64) (.int .u64)), none, true⟩ := tdok_of (info_of Tryz.type68) rfl ⟨_, Tryz.underlying68, rfl⟩ ⟨rfl, rfl, rfl⟩ rfl (.inl ⟨rfl, rfl⟩) (.inr ⟨_, rfl, rfl, by decide, rfl⟩) (fun _ k hk => by cases hk; exact ⟨Tryz.eqGuardType68, eqs68⟩)
theorem td69 : TDOK Tryz.prog 69 ⟨.func, 1, 8, [.nilf], none, none, false⟩ := tdok_of (info_of Tryz.type69) rfl ⟨_, _, _, Tryz.underlying69⟩ ⟨rfl, rfl, rfl⟩ rfl (.inl ⟨rfl, rfl⟩) (.inl rfl)
theorem td70 : TDOK Tryz.prog 70 ⟨.func, 1, 8, [.nilf], none, none, false⟩ := tdok_of (info_of Tryz.type70) rfl ⟨_, _, _, Tryz.underlying70⟩ ⟨rfl, rfl, rfl⟩ rfl (.inl ⟨rfl, rfl⟩) (.inl rfl)
theorem td71 : TDOK Tryz.prog 71 ⟨.func, 1, 8, [.nilf], none, none, false⟩ := tdok_of (info_of Tryz.type71) rfl ⟨_, _, _, Tryz.underlying71⟩ ⟨rfl, rfl, rfl⟩ rfl (.inl ⟨rfl, rfl⟩) (.inl rfl)
theorem td72 : TDOK Tryz.prog 72 ⟨.struct [(0, 9), (1, 3), (2, 5)], 3, 32, [.s ByteArray.empty, .i .i64 0, .i .u8 0], some (.pair .str (.pair (.int .i64) (.int .u8))), none, false⟩ := tdok_of (info_of Tryz.type72) rfl ⟨_, Tryz.underlying72, rfl⟩ ⟨rfl, rfl, rfl⟩ rfl (.inl ⟨rfl, rfl⟩) (.inr ⟨_, rfl, rfl, by decide, rfl⟩)
theorem td73 : TDOK Tryz.prog 73 ⟨.struct [(0, 9), (1, 3), (2, 5)], 3, 32, [.s ByteArray.empty, .i .i64 0, .i .u8 0], some (.pair .str (.pair (.int .i64) (.int .u8))), none, false⟩ := tdok_of (info_of Tryz.type73) rfl ⟨_, Tryz.underlying73, rfl⟩ ⟨rfl, rfl, rfl⟩ rfl (.inl ⟨rfl, rfl⟩) (.inr ⟨_, rfl, rfl, by decide, rfl⟩)
theorem td74 : TDOK Tryz.prog 74 ⟨.func, 1, 8, [.nilf], none, none, false⟩ := tdok_of (info_of Tryz.type74) rfl ⟨_, _, _, Tryz.underlying74⟩ ⟨rfl, rfl, rfl⟩ rfl (.inl ⟨rfl, rfl⟩) (.inl rfl)
theorem td75 : TDOK Tryz.prog 75 ⟨.func, 1, 8, [.nilf], none, none, false⟩ := tdok_of (info_of Tryz.type75) rfl ⟨_, _, _, Tryz.underlying75⟩ ⟨rfl, rfl, rfl⟩ rfl (.inl ⟨rfl, rfl⟩) (.inl rfl)
theorem td76 : TDOK Tryz.prog 76 ⟨.func, 1, 8, [.nilf], none, none, false⟩ := tdok_of (info_of Tryz.type76) rfl ⟨_, _, _, Tryz.underlying76⟩ ⟨rfl, rfl, rfl⟩ rfl (.inl ⟨rfl, rfl⟩) (.inl rfl)
theorem td77 : TDOK Tryz.prog 77 ⟨.func, 1, 8, [.nilf], none, none, false⟩ := tdok_of (info_of Tryz.type77) rfl ⟨_, _, _, Tryz.underlying77⟩ ⟨rfl, rfl, rfl⟩ rfl (.inl ⟨rfl, rfl⟩) (.inl rfl)
theorem td78 : TDOK Tryz.prog 78 ⟨.func, 1, 8, [.nilf], none, none, false⟩ := tdok_of (info_of Tryz.type78) rfl ⟨_, _, _, Tryz.underlying78⟩ ⟨rfl, rfl, rfl⟩ rfl (.inl ⟨rfl, rfl⟩) (.inl rfl)
theorem td79 : TDOK Tryz.prog 79 ⟨.func, 1, 8, [.nilf], none, none, false⟩ := tdok_of (info_of Tryz.type79) rfl ⟨_, _, _, Tryz.underlying79⟩ ⟨rfl, rfl, rfl⟩ rfl (.inl ⟨rfl, rfl⟩) (.inl rfl)
theorem td80 : TDOK Tryz.prog 80 ⟨.func, 1, 8, [.nilf], none, none, false⟩ := tdok_of (info_of Tryz.type80) rfl ⟨_, _, _, Tryz.underlying80⟩ ⟨rfl, rfl, rfl⟩ rfl (.inl ⟨rfl, rfl⟩) (.inl rfl)
theorem td81 : TDOK Tryz.prog 81 ⟨.func, 1, 8, [.nilf], none, none, false⟩ := tdok_of (info_of Tryz.type81) rfl ⟨_, _, _, Tryz.underlying81⟩ ⟨rfl, rfl, rfl⟩ rfl (.inl ⟨rfl, rfl⟩) (.inl rfl)
theorem td82 : TDOK Tryz.prog 82 ⟨.func, 1, 8, [.nilf], none, none, false⟩ := tdok_of (info_of Tryz.type82) rfl ⟨_, _, _, Tryz.underlying82⟩ ⟨rfl, rfl, rfl⟩ rfl (.inl ⟨rfl, rfl⟩) (.inl rfl)
theorem td83 : TDOK Tryz.prog 83 ⟨.func, 1, 8, [.nilf], none, none, false⟩ := tdok_of (info_of Tryz.type83) rfl ⟨_, _, _, Tryz.underlying83⟩ ⟨rfl, rfl, rfl⟩ rfl (.inl ⟨rfl, rfl⟩) (.inl rfl)
theorem td84 : TDOK Tryz.prog 84 ⟨.func, 1, 8, [.nilf], none, none, false⟩ := tdok_of (info_of Tryz.type84) rfl ⟨_, _, _, Tryz.underlying84⟩ ⟨rfl, rfl, rfl⟩ rfl (.inl ⟨rfl, rfl⟩) (.inl rfl)
theorem td85 : TDOK Tryz.prog 85 ⟨.func, 1, 8, [.nilf], none, none, false⟩ := tdok_of (info_of Tryz.type85) rfl ⟨_, _, _, Tryz.underlying85⟩ ⟨rfl, rfl, rfl⟩ rfl (.inl ⟨rfl, rfl⟩) (.inl rfl)
theorem td86 : TDOK Tryz.prog 86 ⟨.func, 1, 8, [.nilf], none, none, false⟩ := tdok_of (info_of Tryz.type86) rfl ⟨_, _, _, Tryz.underlying86⟩ ⟨rfl, rfl, rfl⟩ rfl (.inl ⟨rfl, rfl⟩) (.inl rfl)
theorem td87 : TDOK Tryz.prog 87 ⟨.func, 1, 8, [.nilf], none, none, false⟩ := tdok_of (info_of Tryz.type87) rfl ⟨_, _, _, Tryz.underlying87⟩ ⟨rfl, rfl, rfl⟩ rfl (.inl ⟨rfl, rfl⟩) (.inl rfl)
theorem td88 : TDOK Tryz.prog 88 ⟨.func, 1, 8, [.nilf], none, none, false⟩ := tdok_of (info_of Tryz.type88) rfl ⟨_, _, _, Tryz.underlying88⟩ ⟨rfl, rfl, rfl⟩ rfl (.inl ⟨rfl, rfl⟩) (.inl rfl)
theorem td89 : TDOK Tryz.prog 89 ⟨.func, 1, 8, [.nilf], none, none, false⟩ := tdok_of (info_of Tryz.type89) rfl ⟨_, _, _, Tryz.underlying89⟩ ⟨rfl, rfl, rfl⟩ rfl (.inl ⟨rfl, rfl⟩) (.inl rfl)
theorem td90 : TDOK Tryz.prog 90 ⟨.func, 1, 8, [.nilf], none, none, false⟩ := tdok_of (info_of Tryz.type90) rfl ⟨_, _, _, Tryz.underlying90⟩ ⟨rfl, rfl, rfl⟩ rfl (.inl ⟨rfl, rfl⟩) (.inl rfl)
theorem td91 : TDOK Tryz.prog 91 ⟨.int .u64, 1, 8, [.i .u64 0], some (.int .u64), none, false⟩ := tdok_of (info_of Tryz.type91) rfl Tryz.underlying91 ⟨rfl, rfl, rfl⟩ rfl (.inl ⟨rfl, rfl⟩) (.inr ⟨_, rfl, rfl, by decide, rfl⟩)
theorem td92 : TDOK Tryz.prog 92 ⟨.func, 1, 8, [.nilf], none, none, false⟩ := tdok_of (info_of Tryz.type92) rfl ⟨_, _, _, Tryz.underlying92⟩ ⟨rfl, rfl, rfl⟩ rfl (.inl ⟨rfl, rfl⟩) (.inl rfl)
theorem td93 : TDOK Tryz.prog 93 ⟨.func, 1, 8, [.nilf], none, none, false⟩ := tdok_of (info_of Tryz.type93) rfl ⟨_, _, _, Tryz.underlying93⟩ ⟨rfl, rfl, rfl⟩ rfl (.inl ⟨rfl, rfl⟩) (.inl rfl)
theorem td94 : TDOK Tryz.prog 94 ⟨.func, 1, 8, [.nilf], none, none, false⟩ := tdok_of (info_of Tryz.type94) rfl ⟨_, _, _, Tryz.underlying94⟩ ⟨rfl, rfl, rfl⟩ rfl (.inl ⟨rfl, rfl⟩) (.inl rfl)
theorem td95 : TDOK Tryz.prog 95 ⟨.func, 1, 8, [.nilf], none, none, false⟩ := tdok_of (info_of Tryz.type95) rfl ⟨_, _, _, Tryz.underlying95⟩ ⟨rfl, rfl, rfl⟩ rfl (.inl ⟨rfl, rfl⟩) (.inl rfl)
theorem td96 : TDOK Tryz.prog 96 ⟨.func, 1, 8, [.nilf], none, none, false⟩ := tdok_of (info_of Tryz.type96) rfl ⟨_, _, _, Tryz.underlying96⟩ ⟨rfl, rfl, rfl⟩ rfl (.inl ⟨rfl, rfl⟩) (.inl rfl)
theorem td97 : TDOK Tryz.prog 97 ⟨.func, 1, 8, [.nilf], none, none, false⟩ := tdok_of (info_of Tryz.type97) rfl ⟨_, _, _, Tryz.underlying97⟩ ⟨rfl, rfl, rfl⟩ rfl (.inl ⟨rfl, rfl⟩) (.inl rfl)
theorem td98 : TDOK Tryz.prog 98 ⟨.func, 1, 8, [.nilf], none, none, false⟩ := tdok_of (info_of Tryz.type98) rfl ⟨_, _, _, Tryz.underlying98⟩ ⟨rfl, rfl, rfl⟩ rfl (.inl ⟨rfl, rfl⟩) (.inl rfl)
theorem td99 : TDOK Tryz.prog 99 ⟨.func, 1, 8, [.nilf], none, none, false⟩ := tdok_of (info_of Tryz.type99) rfl ⟨_, _, _, Tryz.underlying99⟩ ⟨rfl, rfl, rfl⟩ rfl (.inl ⟨rfl, rfl⟩) (.inl rfl)
theorem td100 : TDOK Tryz.prog 100 ⟨.func, 1, 8, [.nilf], none, none, false⟩ := tdok_of (info_of Tryz.type100) rfl ⟨_, _, _, Tryz.underlying100⟩ ⟨rfl, rfl, rfl⟩ rfl (.inl ⟨rfl, rfl⟩) (.inl rfl)
theorem td101 : TDOK Tryz.prog 101 ⟨.arr 2 3, 2, 16, [.i .i64 0, .i .i64 0], some (.pair (.int .i64) (.int .i64)), none, false⟩ := tdok_of (info_of Tryz.type101) rfl Tryz.underlying101 ⟨rfl, rfl, rfl⟩ rfl (.inl ⟨rfl, rfl⟩) (.inr ⟨_, rfl, rfl, by decide, rfl⟩)
theorem td102 : TDOK Tryz.prog 102 ⟨.slice 101, 1, 24, [.nils], none, none, false⟩ := tdok_of (info_of Tryz.type102) rfl Tryz.underlying102 ⟨rfl, rfl, rfl⟩ rfl (.inl ⟨rfl, rfl⟩) (.inl rfl)
theorem td103 : TDOK Tryz.prog 103 ⟨.func, 1, 8, [.nilf], none, none, false⟩ := tdok_of (info_of Tryz.type103) rfl ⟨_, _, _, Tryz.underlying103⟩ ⟨rfl, rfl, rfl⟩ rfl (.inl ⟨rfl, rfl⟩) (.inl rfl)
theorem td104 : TDOK Tryz.prog 104 ⟨.func, 1, 8, [.nilf], none, none, false⟩ := tdok_of (info_of Tryz.type104) rfl ⟨_, _, _, Tryz.underlying104⟩ ⟨rfl, rfl, rfl⟩ rfl (.inl ⟨rfl, rfl⟩) (.inl rfl)
theorem td105 : TDOK Tryz.prog 105 ⟨.int .i64, 1, 8, [.i .i64 0], some (.int .i64), none, false⟩ := tdok_of (info_of Tryz.type105) rfl Tryz.underlying105 ⟨rfl, rfl, rfl⟩ rfl (.inl ⟨rfl, rfl⟩) (.inr ⟨_, rfl, rfl, by decide, rfl⟩)
theorem td107 : TDOK Tryz.prog 107 ⟨.func, 1, 8, [.nilf], none, none, false⟩ := tdok_of (info_of Tryz.type107) rfl ⟨_, _, _, Tryz.underlying107⟩ ⟨rfl, rfl, rfl⟩ rfl (.inl ⟨rfl, rfl⟩) (.inl rfl)
theorem td108 : TDOK Tryz.prog 108 ⟨.func, 1, 8, [.nilf], none, none, false⟩ := tdok_of (info_of Tryz.type108) rfl ⟨_, _, _, Tryz.underlying108⟩ ⟨rfl, rfl, rfl⟩ rfl (.inl ⟨rfl, rfl⟩) (.inl rfl)
theorem td109 : TDOK Tryz.prog 109 ⟨.func, 1, 8, [.nilf], none, none, false⟩ := tdok_of (info_of Tryz.type109) rfl ⟨_, _, _, Tryz.underlying109⟩ ⟨rfl, rfl, rfl⟩ rfl (.inl ⟨rfl, rfl⟩) (.inl rfl)
theorem td111 : TDOK Tryz.prog 111 ⟨.func, 1, 8, [.nilf], none, none, false⟩ := tdok_of (info_of Tryz.type111) rfl ⟨_, _, _, Tryz.underlying111⟩ ⟨rfl, rfl, rfl⟩ rfl (.inl ⟨rfl, rfl⟩) (.inl rfl)
theorem td112 : TDOK Tryz.prog 112 ⟨.func, 1, 8, [.nilf], none, none, false⟩ := tdok_of (info_of Tryz.type112) rfl ⟨_, _, _, Tryz.underlying112⟩ ⟨rfl, rfl, rfl⟩ rfl (.inl ⟨rfl, rfl⟩) (.inl rfl)
theorem td113 : TDOK Tryz.prog 113 ⟨.int .u32, 1, 4, [.i .u32 0], some (.int .u32), none, false⟩ := tdok_of (info_of Tryz.type113) rfl Tryz.underlying113 ⟨rfl, rfl, rfl⟩ rfl (.inl ⟨rfl, rfl⟩) (.inr ⟨_, rfl, rfl, by decide, rfl⟩)
theorem td114 : TDOK Tryz.prog 114 ⟨.func, 1, 8, [.nilf], none, none, false⟩ := tdok_of (info_of Tryz.type114) rfl ⟨_, _, _, Tryz.underlying114⟩ ⟨rfl, rfl, rfl⟩ rfl (.inl ⟨rfl, rfl⟩) (.inl rfl)
theorem td116 : TDOK Tryz.prog 116 ⟨.func, 1, 8, [.nilf], none, none, false⟩ := tdok_of (info_of Tryz.type116) rfl ⟨_, _, _, Tryz.underlying116⟩ ⟨rfl, rfl, rfl⟩ rfl (.inl ⟨rfl, rfl⟩) (.inl rfl)
theorem td117 : TDOK Tryz.prog 117 ⟨.struct [(0, 3), (1, 3)], 2, 16, [.i .i64 0, .i .i64 0], some (.pair (.int .i64) (.int .i64)), none, false⟩ := tdok_of (info_of Tryz.type117) rfl ⟨_, Tryz.underlying117, rfl⟩ ⟨rfl, rfl, rfl⟩ rfl (.inl ⟨rfl, rfl⟩) (.inr ⟨_, rfl, rfl, by decide, rfl⟩)
theorem eqs118 : ∀ (x y : EK.ty (.pair (.int .i64) (.int .i64))) (w : World), (Op.equalIn 10000 118 (.agg (EK.vals (.pair (.int .i64) (.int .i64)) x).toArray) (.agg (EK.vals (.pair (.int .i64) (.int .i64)) y).toArray)).run Tryz.prog w = .ok (EK.eqb (.pair (.int .i64) (.int .i64)) x y) w := by
  intro x y w
  rw [run_equalIn_agg w 9999 118 _ _ (by rw [fo Tryz.underlying118]; exact Tryz.underlying118) Tryz.stoodInHeld118, fo Tryz.underlying118]
  simp only [EK.vals, List.cons_append, List.nil_append, EK.eqb]
  have p0 : ∀ (a0 a1 : Value), (part 3 #[a0, a1] 0).run Tryz.prog w = .ok a0 w := fun a0 a1 => part_run td3 [a0, a1] 0
  have p1 : ∀ (a0 a1 : Value), (part 3 #[a0, a1] 1).run Tryz.prog w = .ok a1 w := fun a0 a1 => part_run td3 [a0, a1] 1
  simp [Op.eqFields, p0, p1, run_equalIn_int w 9998 3 .i64 .i64 _ _ Tryz.underlying3]
  by_cases h1 : x.1 = y.1 <;> by_cases h2 : x.2 = y.2 <;> simp [h1, h2]

theorem td118 : TDOK Tryz.prog 118 ⟨.struct [(0, 3), (1, 3)], 2, 16, [.i .i64 0, .i .i64 0], some (.pair (.int .i64) (.int .i64)), none, true⟩ := tdok_of (info_of Tryz.type118) rfl ⟨_, Tryz.underlying118, rfl⟩ ⟨rfl, rfl, rfl⟩ rfl (.inl ⟨rfl, rfl⟩) (.inr ⟨_, rfl, rfl, by decide, rfl⟩) (fun _ k hk => by cases hk; exact ⟨Tryz.eqGuardType118, eqs118⟩)
theorem td120 : TDOK Tryz.prog 120 ⟨.func, 1, 8, [.nilf], none, none, false⟩ := tdok_of (info_of Tryz.type120) rfl ⟨_, _, _, Tryz.underlying120⟩ ⟨rfl, rfl, rfl⟩ rfl (.inl ⟨rfl, rfl⟩) (.inl rfl)
theorem td121 : TDOK Tryz.prog 121 ⟨.int .u64, 1, 8, [.i .u64 0], some (.int .u64), none, false⟩ := tdok_of (info_of Tryz.type121) rfl Tryz.underlying121 ⟨rfl, rfl, rfl⟩ rfl (.inl ⟨rfl, rfl⟩) (.inr ⟨_, rfl, rfl, by decide, rfl⟩)
theorem td122 : TDOK Tryz.prog 122 ⟨.func, 1, 8, [.nilf], none, none, false⟩ := tdok_of (info_of Tryz.type122) rfl ⟨_, _, _, Tryz.underlying122⟩ ⟨rfl, rfl, rfl⟩ rfl (.inl ⟨rfl, rfl⟩) (.inl rfl)
theorem td123 : TDOK Tryz.prog 123 ⟨.func, 1, 8, [.nilf], none, none, false⟩ := tdok_of (info_of Tryz.type123) rfl ⟨_, _, _, Tryz.underlying123⟩ ⟨rfl, rfl, rfl⟩ rfl (.inl ⟨rfl, rfl⟩) (.inl rfl)
theorem td124 : TDOK Tryz.prog 124 ⟨.func, 1, 8, [.nilf], none, none, false⟩ := tdok_of (info_of Tryz.type124) rfl ⟨_, _, _, Tryz.underlying124⟩ ⟨rfl, rfl, rfl⟩ rfl (.inl ⟨rfl, rfl⟩) (.inl rfl)
theorem td125 : TDOK Tryz.prog 125 ⟨.ptr 3, 1, 8, [.nilp], none, none, false⟩ := tdok_of (info_of Tryz.type125) rfl Tryz.underlying125 ⟨rfl, rfl, rfl⟩ rfl (.inl ⟨rfl, rfl⟩) (.inl rfl)
theorem td126 : TDOK Tryz.prog 126 ⟨.func, 1, 8, [.nilf], none, none, false⟩ := tdok_of (info_of Tryz.type126) rfl ⟨_, _, _, Tryz.underlying126⟩ ⟨rfl, rfl, rfl⟩ rfl (.inl ⟨rfl, rfl⟩) (.inl rfl)
theorem td127 : TDOK Tryz.prog 127 ⟨.arr 64 5, 64, 64, [], none, some ((.int .u8), 64), false⟩ := tdok_of (info_of Tryz.type127) rfl Tryz.underlying127 ⟨rfl, rfl, rfl⟩ rfl (.inr ⟨_, _, rfl, rfl, by decide, by decide⟩) (.inl rfl)
theorem td128 : TDOK Tryz.prog 128 ⟨.func, 1, 8, [.nilf], none, none, false⟩ := tdok_of (info_of Tryz.type128) rfl ⟨_, _, _, Tryz.underlying128⟩ ⟨rfl, rfl, rfl⟩ rfl (.inl ⟨rfl, rfl⟩) (.inl rfl)
theorem td129 : TDOK Tryz.prog 129 ⟨.arr 4 128, 4, 32, [.nilf, .nilf, .nilf, .nilf], none, none, false⟩ := tdok_of (info_of Tryz.type129) rfl Tryz.underlying129 ⟨rfl, rfl, rfl⟩ rfl (.inl ⟨rfl, rfl⟩) (.inl rfl)
theorem td130 : TDOK Tryz.prog 130 ⟨.ptr 121, 1, 8, [.nilp], none, none, false⟩ := tdok_of (info_of Tryz.type130) rfl Tryz.underlying130 ⟨rfl, rfl, rfl⟩ rfl (.inl ⟨rfl, rfl⟩) (.inl rfl)
theorem td132 : TDOK Tryz.prog 132 ⟨.func, 1, 8, [.nilf], none, none, false⟩ := tdok_of (info_of Tryz.type132) rfl ⟨_, _, _, Tryz.underlying132⟩ ⟨rfl, rfl, rfl⟩ rfl (.inl ⟨rfl, rfl⟩) (.inl rfl)
theorem td133 : TDOK Tryz.prog 133 ⟨.func, 1, 8, [.nilf], none, none, false⟩ := tdok_of (info_of Tryz.type133) rfl ⟨_, _, _, Tryz.underlying133⟩ ⟨rfl, rfl, rfl⟩ rfl (.inl ⟨rfl, rfl⟩) (.inl rfl)
theorem td134 : TDOK Tryz.prog 134 ⟨.struct [(0, 17), (1, 17), (2, 17), (3, 9)], 4, 40, [.nilp, .nilp, .nilp, .s ByteArray.empty], none, none, false⟩ := tdok_of (info_of Tryz.type134) rfl ⟨_, Tryz.underlying134, rfl⟩ ⟨rfl, rfl, rfl⟩ rfl (.inl ⟨rfl, rfl⟩) (.inl rfl)
theorem td135 : TDOK Tryz.prog 135 ⟨.struct [(0, 17), (1, 17), (2, 17), (3, 9)], 4, 40, [.nilp, .nilp, .nilp, .s ByteArray.empty], none, none, false⟩ := tdok_of (info_of Tryz.type135) rfl ⟨_, Tryz.underlying135, rfl⟩ ⟨rfl, rfl, rfl⟩ rfl (.inl ⟨rfl, rfl⟩) (.inl rfl)
theorem td136 : TDOK Tryz.prog 136 ⟨.arr 0 16, 0, 0, [], none, none, false⟩ := tdok_of (info_of Tryz.type136) rfl Tryz.underlying136 ⟨rfl, rfl, rfl⟩ rfl (.inl ⟨rfl, rfl⟩) (.inl rfl)
theorem td137 : TDOK Tryz.prog 137 ⟨.struct [(0, 136)], 0, 0, [], none, none, false⟩ := tdok_of (info_of Tryz.type137) rfl ⟨_, Tryz.underlying137, rfl⟩ ⟨rfl, rfl, rfl⟩ rfl (.inl ⟨rfl, rfl⟩) (.inl rfl)
theorem td138 : TDOK Tryz.prog 138 ⟨.struct [(0, 136)], 0, 0, [], none, none, false⟩ := tdok_of (info_of Tryz.type138) rfl ⟨_, Tryz.underlying138, rfl⟩ ⟨rfl, rfl, rfl⟩ rfl (.inl ⟨rfl, rfl⟩) (.inl rfl)
theorem td139 : TDOK Tryz.prog 139 ⟨.int .u8, 1, 1, [.i .u8 0], some (.int .u8), none, false⟩ := tdok_of (info_of Tryz.type139) rfl Tryz.underlying139 ⟨rfl, rfl, rfl⟩ rfl (.inl ⟨rfl, rfl⟩) (.inr ⟨_, rfl, rfl, by decide, rfl⟩)
theorem td140 : TDOK Tryz.prog 140 ⟨.int .u8, 1, 1, [.i .u8 0], some (.int .u8), none, false⟩ := tdok_of (info_of Tryz.type140) rfl Tryz.underlying140 ⟨rfl, rfl, rfl⟩ rfl (.inl ⟨rfl, rfl⟩) (.inr ⟨_, rfl, rfl, by decide, rfl⟩)
theorem td141 : TDOK Tryz.prog 141 ⟨.func, 1, 8, [.nilf], none, none, false⟩ := tdok_of (info_of Tryz.type141) rfl ⟨_, _, _, Tryz.underlying141⟩ ⟨rfl, rfl, rfl⟩ rfl (.inl ⟨rfl, rfl⟩) (.inl rfl)
theorem td142 : TDOK Tryz.prog 142 ⟨.ptr 5, 1, 8, [.nilp], none, none, false⟩ := tdok_of (info_of Tryz.type142) rfl Tryz.underlying142 ⟨rfl, rfl, rfl⟩ rfl (.inl ⟨rfl, rfl⟩) (.inl rfl)
theorem td143 : TDOK Tryz.prog 143 ⟨.int .i32, 1, 4, [.i .i32 0], some (.int .i32), none, false⟩ := tdok_of (info_of Tryz.type143) rfl Tryz.underlying143 ⟨rfl, rfl, rfl⟩ rfl (.inl ⟨rfl, rfl⟩) (.inr ⟨_, rfl, rfl, by decide, rfl⟩)
theorem td144 : TDOK Tryz.prog 144 ⟨.int .i32, 1, 4, [.i .i32 0], some (.int .i32), none, false⟩ := tdok_of (info_of Tryz.type144) rfl Tryz.underlying144 ⟨rfl, rfl, rfl⟩ rfl (.inl ⟨rfl, rfl⟩) (.inr ⟨_, rfl, rfl, by decide, rfl⟩)
theorem td145 : TDOK Tryz.prog 145 ⟨.struct [(0, 12), (1, 12), (2, 113), (3, 139), (4, 5), (5, 5), (6, 140), (7, 141), (8, 142), (9, 143), (10, 144)], 11, 48, [.i .u64 0, .i .u64 0, .i .u32 0, .i .u8 0, .i .u8 0, .i .u8 0, .i .u8 0, .nilf, .nilp, .i .i32 0, .i .i32 0], none, none, false⟩ := tdok_of (info_of Tryz.type145) rfl ⟨_, Tryz.underlying145, rfl⟩ ⟨rfl, rfl, rfl⟩ rfl (.inl ⟨rfl, rfl⟩) (.inl rfl)
theorem td146 : TDOK Tryz.prog 146 ⟨.struct [(0, 12), (1, 12), (2, 113), (3, 139), (4, 5), (5, 5), (6, 140), (7, 141), (8, 142), (9, 143), (10, 144)], 11, 48, [.i .u64 0, .i .u64 0, .i .u32 0, .i .u8 0, .i .u8 0, .i .u8 0, .i .u8 0, .nilf, .nilp, .i .i32 0, .i .i32 0], none, none, false⟩ := tdok_of (info_of Tryz.type146) rfl ⟨_, Tryz.underlying146, rfl⟩ ⟨rfl, rfl, rfl⟩ rfl (.inl ⟨rfl, rfl⟩) (.inl rfl)
def tds : List (Nat × TD) := [
  (1, ⟨.func, 1, 8, [.nilf], none, none, false⟩),
  (2, ⟨.int .i64, 1, 8, [.i .i64 0], some (.int .i64), none, false⟩),
  (3, ⟨.int .i64, 1, 8, [.i .i64 0], some (.int .i64), none, false⟩),
  (4, ⟨.bool, 1, 1, [.b false], some .bool, none, false⟩),
  (5, ⟨.int .u8, 1, 1, [.i .u8 0], some (.int .u8), none, false⟩),
  (6, ⟨.int .u8, 1, 1, [.i .u8 0], some (.int .u8), none, false⟩),
  (7, ⟨.struct [(0, 2), (1, 3), (2, 4), (3, 6)], 4, 24, [.i .i64 0, .i .i64 0, .b false, .i .u8 0], some (.pair (.int .i64) (.pair (.int .i64) (.pair .bool (.int .u8)))), none, false⟩),
  (8, ⟨.struct [(0, 2), (1, 3), (2, 4), (3, 6)], 4, 24, [.i .i64 0, .i .i64 0, .b false, .i .u8 0], some (.pair (.int .i64) (.pair (.int .i64) (.pair .bool (.int .u8)))), none, false⟩),
  (9, ⟨.str, 1, 16, [.s ByteArray.empty], some .str, none, false⟩),
  (10, ⟨.str, 1, 16, [.s ByteArray.empty], some .str, none, false⟩),
  (11, ⟨.str, 1, 16, [.s ByteArray.empty], some .str, none, false⟩),
  (12, ⟨.int .u64, 1, 8, [.i .u64 0], some (.int .u64), none, false⟩),
  (13, ⟨.struct [(0, 9), (1, 12)], 2, 24, [.s ByteArray.empty, .i .u64 0], some (.pair .str (.int .u64)), none, false⟩),
  (14, ⟨.struct [(0, 9), (1, 12)], 2, 24, [.s ByteArray.empty, .i .u64 0], some (.pair .str (.int .u64)), none, false⟩),
  (15, ⟨.ptr 135, 1, 8, [.nilp], none, none, false⟩),
  (16, ⟨.ptr 138, 1, 8, [.nilp], none, none, false⟩),
  (17, ⟨.ptr 146, 1, 8, [.nilp], none, none, false⟩),
  (18, ⟨.struct [(0, 17)], 1, 8, [.nilp], none, none, false⟩),
  (19, ⟨.struct [(0, 17)], 1, 8, [.nilp], none, none, false⟩),
  (20, ⟨.iface, 1, 16, [.nili], none, none, false⟩),
  (21, ⟨.int .i32, 1, 4, [.i .i32 0], some (.int .i32), none, false⟩),
  (22, ⟨.struct [(0, 3), (1, 3)], 2, 16, [.i .i64 0, .i .i64 0], some (.pair (.int .i64) (.int .i64)), none, false⟩),
  (23, ⟨.struct [(0, 3), (1, 3)], 2, 16, [.i .i64 0, .i .i64 0], some (.pair (.int .i64) (.int .i64)), none, true⟩),
  (24, ⟨.func, 1, 8, [.nilf], none, none, false⟩),
  (25, ⟨.func, 1, 8, [.nilf], none, none, false⟩),
  (26, ⟨.slice 23, 1, 24, [.nils], none, none, false⟩),
  (27, ⟨.func, 1, 8, [.nilf], none, none, false⟩),
  (28, ⟨.func, 1, 8, [.nilf], none, none, false⟩),
  (29, ⟨.func, 1, 8, [.nilf], none, none, false⟩),
  (30, ⟨.struct [(0, 9), (1, 3), (2, 3), (3, 3)], 4, 40, [.s ByteArray.empty, .i .i64 0, .i .i64 0, .i .i64 0], some (.pair .str (.pair (.int .i64) (.pair (.int .i64) (.int .i64)))), none, false⟩),
  (31, ⟨.struct [(0, 9), (1, 3), (2, 3), (3, 3)], 4, 40, [.s ByteArray.empty, .i .i64 0, .i .i64 0, .i .i64 0], some (.pair .str (.pair (.int .i64) (.pair (.int .i64) (.int .i64)))), none, false⟩),
  (32, ⟨.func, 1, 8, [.nilf], none, none, false⟩),
  (33, ⟨.func, 1, 8, [.nilf], none, none, false⟩),
  (34, ⟨.func, 1, 8, [.nilf], none, none, false⟩),
  (35, ⟨.int .i64, 1, 8, [.i .i64 0], some (.int .i64), none, false⟩),
  (37, ⟨.func, 1, 8, [.nilf], none, none, false⟩),
  (38, ⟨.func, 1, 8, [.nilf], none, none, false⟩),
  (39, ⟨.slice 3, 1, 24, [.nils], none, none, false⟩),
  (40, ⟨.func, 1, 8, [.nilf], none, none, false⟩),
  (41, ⟨.func, 1, 8, [.nilf], none, none, false⟩),
  (42, ⟨.func, 1, 8, [.nilf], none, none, false⟩),
  (43, ⟨.func, 1, 8, [.nilf], none, none, false⟩),
  (44, ⟨.func, 1, 8, [.nilf], none, none, false⟩),
  (45, ⟨.func, 1, 8, [.nilf], none, none, false⟩),
  (46, ⟨.func, 1, 8, [.nilf], none, none, false⟩),
  (47, ⟨.func, 1, 8, [.nilf], none, none, false⟩),
  (48, ⟨.func, 1, 8, [.nilf], none, none, false⟩),
  (49, ⟨.func, 1, 8, [.nilf], none, none, false⟩),
  (50, ⟨.func, 1, 8, [.nilf], none, none, false⟩),
  (51, ⟨.func, 1, 8, [.nilf], none, none, false⟩),
  (52, ⟨.func, 1, 8, [.nilf], none, none, false⟩),
  (53, ⟨.func, 1, 8, [.nilf], none, none, false⟩),
  (54, ⟨.func, 1, 8, [.nilf], none, none, false⟩),
  (55, ⟨.func, 1, 8, [.nilf], none, none, false⟩),
  (56, ⟨.func, 1, 8, [.nilf], none, none, false⟩),
  (57, ⟨.slice 5, 1, 24, [.nils], none, none, false⟩),
  (58, ⟨.func, 1, 8, [.nilf], none, none, false⟩),
  (59, ⟨.func, 1, 8, [.nilf], none, none, false⟩),
  (60, ⟨.func, 1, 8, [.nilf], none, none, false⟩),
  (61, ⟨.func, 1, 8, [.nilf], none, none, false⟩),
  (62, ⟨.func, 1, 8, [.nilf], none, none, false⟩),
  (63, ⟨.func, 1, 8, [.nilf], none, none, false⟩),
  (64, ⟨.func, 1, 8, [.nilf], none, none, false⟩),
  (65, ⟨.func, 1, 8, [.nilf], none, none, false⟩),
  (66, ⟨.int .u64, 1, 8, [.i .u64 0], some (.int .u64), none, false⟩),
  (67, ⟨.struct [(0, 66), (1, 66)], 2, 16, [.i .u64 0, .i .u64 0], some (.pair (.int .u64) (.int .u64)), none, false⟩),
  (68, ⟨.struct [(0, 66), (1, 66)], 2, 16, [.i .u64 0, .i .u64 0], some (.pair (.int .u64) (.int .u64)), none, true⟩),
  (69, ⟨.func, 1, 8, [.nilf], none, none, false⟩),
  (70, ⟨.func, 1, 8, [.nilf], none, none, false⟩),
  (71, ⟨.func, 1, 8, [.nilf], none, none, false⟩),
  (72, ⟨.struct [(0, 9), (1, 3), (2, 5)], 3, 32, [.s ByteArray.empty, .i .i64 0, .i .u8 0], some (.pair .str (.pair (.int .i64) (.int .u8))), none, false⟩),
  (73, ⟨.struct [(0, 9), (1, 3), (2, 5)], 3, 32, [.s ByteArray.empty, .i .i64 0, .i .u8 0], some (.pair .str (.pair (.int .i64) (.int .u8))), none, false⟩),
  (74, ⟨.func, 1, 8, [.nilf], none, none, false⟩),
  (75, ⟨.func, 1, 8, [.nilf], none, none, false⟩),
  (76, ⟨.func, 1, 8, [.nilf], none, none, false⟩),
  (77, ⟨.func, 1, 8, [.nilf], none, none, false⟩),
  (78, ⟨.func, 1, 8, [.nilf], none, none, false⟩),
  (79, ⟨.func, 1, 8, [.nilf], none, none, false⟩),
  (80, ⟨.func, 1, 8, [.nilf], none, none, false⟩),
  (81, ⟨.func, 1, 8, [.nilf], none, none, false⟩),
  (82, ⟨.func, 1, 8, [.nilf], none, none, false⟩),
  (83, ⟨.func, 1, 8, [.nilf], none, none, false⟩),
  (84, ⟨.func, 1, 8, [.nilf], none, none, false⟩),
  (85, ⟨.func, 1, 8, [.nilf], none, none, false⟩),
  (86, ⟨.func, 1, 8, [.nilf], none, none, false⟩),
  (87, ⟨.func, 1, 8, [.nilf], none, none, false⟩),
  (88, ⟨.func, 1, 8, [.nilf], none, none, false⟩),
  (89, ⟨.func, 1, 8, [.nilf], none, none, false⟩),
  (90, ⟨.func, 1, 8, [.nilf], none, none, false⟩),
  (91, ⟨.int .u64, 1, 8, [.i .u64 0], some (.int .u64), none, false⟩),
  (92, ⟨.func, 1, 8, [.nilf], none, none, false⟩),
  (93, ⟨.func, 1, 8, [.nilf], none, none, false⟩),
  (94, ⟨.func, 1, 8, [.nilf], none, none, false⟩),
  (95, ⟨.func, 1, 8, [.nilf], none, none, false⟩),
  (96, ⟨.func, 1, 8, [.nilf], none, none, false⟩),
  (97, ⟨.func, 1, 8, [.nilf], none, none, false⟩),
  (98, ⟨.func, 1, 8, [.nilf], none, none, false⟩),
  (99, ⟨.func, 1, 8, [.nilf], none, none, false⟩),
  (100, ⟨.func, 1, 8, [.nilf], none, none, false⟩),
  (101, ⟨.arr 2 3, 2, 16, [.i .i64 0, .i .i64 0], some (.pair (.int .i64) (.int .i64)), none, false⟩),
  (102, ⟨.slice 101, 1, 24, [.nils], none, none, false⟩),
  (103, ⟨.func, 1, 8, [.nilf], none, none, false⟩),
  (104, ⟨.func, 1, 8, [.nilf], none, none, false⟩),
  (105, ⟨.int .i64, 1, 8, [.i .i64 0], some (.int .i64), none, false⟩),
  (107, ⟨.func, 1, 8, [.nilf], none, none, false⟩),
  (108, ⟨.func, 1, 8, [.nilf], none, none, false⟩),
  (109, ⟨.func, 1, 8, [.nilf], none, none, false⟩),
  (111, ⟨.func, 1, 8, [.nilf], none, none, false⟩),
  (112, ⟨.func, 1, 8, [.nilf], none, none, false⟩),
  (113, ⟨.int .u32, 1, 4, [.i .u32 0], some (.int .u32), none, false⟩),
  (114, ⟨.func, 1, 8, [.nilf], none, none, false⟩),
  (116, ⟨.func, 1, 8, [.nilf], none, none, false⟩),
  (117, ⟨.struct [(0, 3), (1, 3)], 2, 16, [.i .i64 0, .i .i64 0], some (.pair (.int .i64) (.int .i64)), none, false⟩),
  (118, ⟨.struct [(0, 3), (1, 3)], 2, 16, [.i .i64 0, .i .i64 0], some (.pair (.int .i64) (.int .i64)), none, true⟩),
  (120, ⟨.func, 1, 8, [.nilf], none, none, false⟩),
  (121, ⟨.int .u64, 1, 8, [.i .u64 0], some (.int .u64), none, false⟩),
  (122, ⟨.func, 1, 8, [.nilf], none, none, false⟩),
  (123, ⟨.func, 1, 8, [.nilf], none, none, false⟩),
  (124, ⟨.func, 1, 8, [.nilf], none, none, false⟩),
  (125, ⟨.ptr 3, 1, 8, [.nilp], none, none, false⟩),
  (126, ⟨.func, 1, 8, [.nilf], none, none, false⟩),
  (127, ⟨.arr 64 5, 64, 64, [], none, some ((.int .u8), 64), false⟩),
  (128, ⟨.func, 1, 8, [.nilf], none, none, false⟩),
  (129, ⟨.arr 4 128, 4, 32, [.nilf, .nilf, .nilf, .nilf], none, none, false⟩),
  (130, ⟨.ptr 121, 1, 8, [.nilp], none, none, false⟩),
  (132, ⟨.func, 1, 8, [.nilf], none, none, false⟩),
  (133, ⟨.func, 1, 8, [.nilf], none, none, false⟩),
  (134, ⟨.struct [(0, 17), (1, 17), (2, 17), (3, 9)], 4, 40, [.nilp, .nilp, .nilp, .s ByteArray.empty], none, none, false⟩),
  (135, ⟨.struct [(0, 17), (1, 17), (2, 17), (3, 9)], 4, 40, [.nilp, .nilp, .nilp, .s ByteArray.empty], none, none, false⟩),
  (136, ⟨.arr 0 16, 0, 0, [], none, none, false⟩),
  (137, ⟨.struct [(0, 136)], 0, 0, [], none, none, false⟩),
  (138, ⟨.struct [(0, 136)], 0, 0, [], none, none, false⟩),
  (139, ⟨.int .u8, 1, 1, [.i .u8 0], some (.int .u8), none, false⟩),
  (140, ⟨.int .u8, 1, 1, [.i .u8 0], some (.int .u8), none, false⟩),
  (141, ⟨.func, 1, 8, [.nilf], none, none, false⟩),
  (142, ⟨.ptr 5, 1, 8, [.nilp], none, none, false⟩),
  (143, ⟨.int .i32, 1, 4, [.i .i32 0], some (.int .i32), none, false⟩),
  (144, ⟨.int .i32, 1, 4, [.i .i32 0], some (.int .i32), none, false⟩),
  (145, ⟨.struct [(0, 12), (1, 12), (2, 113), (3, 139), (4, 5), (5, 5), (6, 140), (7, 141), (8, 142), (9, 143), (10, 144)], 11, 48, [.i .u64 0, .i .u64 0, .i .u32 0, .i .u8 0, .i .u8 0, .i .u8 0, .i .u8 0, .nilf, .nilp, .i .i32 0, .i .i32 0], none, none, false⟩),
  (146, ⟨.struct [(0, 12), (1, 12), (2, 113), (3, 139), (4, 5), (5, 5), (6, 140), (7, 141), (8, 142), (9, 143), (10, 144)], 11, 48, [.i .u64 0, .i .u64 0, .i .u32 0, .i .u8 0, .i .u8 0, .i .u8 0, .i .u8 0, .nilf, .nilp, .i .i32 0, .i .i32 0], none, none, false⟩)]
abbrev TT : TypeId → Option TD := tabT tds
theorem tt_ok : TTOK Tryz.prog TT := tabT_ok tds (by
  intro p hp
  simp only [tds, List.mem_cons, List.not_mem_nil, or_false] at hp
  rcases hp with rfl | rfl | rfl | rfl | rfl | rfl | rfl | rfl | rfl | rfl | rfl | rfl | rfl | rfl | rfl | rfl | rfl | rfl | rfl | rfl | rfl | rfl | rfl | rfl | rfl | rfl | rfl | rfl | rfl | rfl | rfl | rfl | rfl | rfl | rfl | rfl | rfl | rfl | rfl | rfl | rfl | rfl | rfl | rfl | rfl | rfl | rfl | rfl | rfl | rfl | rfl | rfl | rfl | rfl | rfl | rfl | rfl | rfl | rfl | rfl | rfl | rfl | rfl | rfl | rfl | rfl | rfl | rfl | rfl | rfl | rfl | rfl | rfl | rfl | rfl | rfl | rfl | rfl | rfl | rfl | rfl | rfl | rfl | rfl | rfl | rfl | rfl | rfl | rfl | rfl | rfl | rfl | rfl | rfl | rfl | rfl | rfl | rfl | rfl | rfl | rfl | rfl | rfl | rfl | rfl | rfl | rfl | rfl | rfl | rfl | rfl | rfl | rfl | rfl | rfl | rfl | rfl | rfl | rfl | rfl | rfl | rfl | rfl | rfl | rfl | rfl | rfl | rfl | rfl | rfl | rfl | rfl | rfl | rfl | rfl | rfl | rfl | rfl | rfl | rfl
  · exact td1
  · exact td2
  · exact td3
  · exact td4
  · exact td5
  · exact td6
  · exact td7
  · exact td8
  · exact td9
  · exact td10
  · exact td11
  · exact td12
  · exact td13
  · exact td14
  · exact td15
  · exact td16
  · exact td17
  · exact td18
  · exact td19
  · exact td20
  · exact td21
  · exact td22
  · exact td23
  · exact td24
  · exact td25
  · exact td26
  · exact td27
  · exact td28
  · exact td29
  · exact td30
  · exact td31
  · exact td32
  · exact td33
  · exact td34
  · exact td35
  · exact td37
  · exact td38
  · exact td39
  · exact td40
  · exact td41
  · exact td42
  · exact td43
  · exact td44
  · exact td45
  · exact td46
  · exact td47
  · exact td48
  · exact td49
  · exact td50
  · exact td51
  · exact td52
  · exact td53
  · exact td54
  · exact td55
  · exact td56
  · exact td57
  · exact td58
  · exact td59
  · exact td60
  · exact td61
  · exact td62
  · exact td63
  · exact td64
  · exact td65
  · exact td66
  · exact td67
  · exact td68
  · exact td69
  · exact td70
  · exact td71
  · exact td72
  · exact td73
  · exact td74
  · exact td75
  · exact td76
  · exact td77
  · exact td78
  · exact td79
  · exact td80
  · exact td81
  · exact td82
  · exact td83
  · exact td84
  · exact td85
  · exact td86
  · exact td87
  · exact td88
  · exact td89
  · exact td90
  · exact td91
  · exact td92
  · exact td93
  · exact td94
  · exact td95
  · exact td96
  · exact td97
  · exact td98
  · exact td99
  · exact td100
  · exact td101
  · exact td102
  · exact td103
  · exact td104
  · exact td105
  · exact td107
  · exact td108
  · exact td109
  · exact td111
  · exact td112
  · exact td113
  · exact td114
  · exact td116
  · exact td117
  · exact td118
  · exact td120
  · exact td121
  · exact td122
  · exact td123
  · exact td124
  · exact td125
  · exact td126
  · exact td127
  · exact td128
  · exact td129
  · exact td130
  · exact td132
  · exact td133
  · exact td134
  · exact td135
  · exact td136
  · exact td137
  · exact td138
  · exact td139
  · exact td140
  · exact td141
  · exact td142
  · exact td143
  · exact td144
  · exact td145
  · exact td146
  )

/-- What the contracts of a seat lean on. -/
structure Hyp (G : Nat → World → Prop) : Prop where
  seat : Seat Tryz.prog G TT
  tab : ∀ g0 w, G g0 w → TabAt (Tryz.laysT29_ren.g 1) Lib.deBruijn64tab w
end Go.X

namespace Go.X
open Go.Proofs

def cIsSquare : Con
  | [.a (.i .i64 n)] => some ⟨[], .a (.b (spIsSquare n)), [], []⟩
  | _ => none
def cRank : Con
  | [.a (.i .i64 n)] => some ⟨[], .a (.i .i64 (spRank n)), [], []⟩
  | _ => none
def cFile : Con
  | [.a (.i .i64 n)] => some ⟨[], .a (.i .i64 (spFile n)), [], []⟩
  | _ => none
def cSquare : Con
  | [.a (.i .i64 f), .a (.i .i64 r)] => some ⟨[], .a (.i .i64 (spSquare f r)), [], []⟩
  | _ => none
def cIndexByte : Con
  | [.a (.s s), .a (.i .u8 c)] => some ⟨[], .a (.i .i64 (spIdxB s.data.toList c)), [], []⟩
  | _ => none
def cSide : Con
  | [.a (.i .u8 c)] => some ⟨[], .a (.i .i64 (spSide c)), [], []⟩
  | _ => none
def cIsCell : Con
  | [.a (.i .u8 c)] => some ⟨[], .a (.b (spIsCell c)), [], []⟩
  | _ => none
def cKind : Con
  | [.a (.i .u8 c)] => some ⟨[], .a (.i .u8 (spKind c)), [], []⟩
  | _ => none
def cBad : Con
  | [.a (.i .i32 (.ofNat r))] => some ⟨[], .a (.b (spBad r)), [], []⟩
  | _ => none
def cIndexFunc : Con
  | [.a (.s s), .fn 75 []] => some ⟨[], .a (.i .i64 (Lib.idxFunc spBad true s)), [], []⟩
  | _ => none
def cIs : Con
  | [.a (.s p)] => some ⟨[], .a (.b (spIs p)), [], []⟩
  | _ => none
def cAt : Con
  | [.a (.s p), .a (.i .i64 n)] => some ⟨[], .a (.i .u8 (spAt p n)), [], []⟩
  | _ => none
def cPut : Con
  | [.a (.s p), .a (.i .i64 n), .a (.i .u8 c)] => some ⟨[], .a (.s (spPut p n c)), [], []⟩
  | _ => none

section
variable {G : Nat → World → Prop}
theorem okIndexByte (_ : Hyp G) : ConOK Tryz.prog G 49 cIndexByte := by
  refine con_ext Tryz.func49 rfl rfl ?_
  intro rvs cr hcr hpre
  unfold cIndexByte at hcr
  split at hcr
  · cases hcr
    refine ⟨_, _, _, rfl, rfl, fun _ _ => rfl, fun g0 w _ _ => (Tryz.strings_IndexByte _ _ w).mono ?_⟩
    rintro e w' ⟨rfl, rfl⟩
    exact ⟨rfl, ⟨rfl, rfl, rfl, Nat.le_refl _, fun _ _ => rfl⟩⟩
  · cases hcr

set_option maxHeartbeats 4000000 in
set_option maxRecDepth 20000 in
theorem okIsSquare (hS : Hyp G) : ConOK Tryz.prog G 50 cIsSquare := by
  refine seat_con hS.seat [] [] trivial Tryz.func50 rfl rfl rfl ?_
  intro rvs cr hcr hpre
  unfold cIsSquare at hcr
  split at hcr
  · cases hcr
    refine ⟨⟨rfl, rfl, rfl⟩, fun c hc vs => ?_⟩
    repeat' (first | exact Bool.noConfusion ‹(!true) = true› | exact Bool.noConfusion ‹(!false) = false› | (intro h; exact h) | (intro h; rw [h]; rfl) | (intro h1 h2; rw [h1, h2]; rfl) | (intro _; assumption) | (intro _; exact rfl) | (intro h; exact Bool.noConfusion (h.symm.trans ‹_ = false›)) | refine ⟨fun _ => ?_, fun _ => ?_⟩ | refine ⟨?_⟩ | refine ⟨?_, ?_⟩ | fail)
    all_goals first | exact rfl | (refine chk_i ?_; simp_all [spIsSquare]; done) | (refine chk_i ?_; simp only [spIsSquare, decide_eq_true_eq, decide_eq_false_iff_not, Bool.not_eq_true', Bool.not_eq_false', Bool.or_eq_true, Bool.or_eq_false_iff, Bool.and_eq_true, Bool.and_eq_false_iff] at *; (repeat' split) <;> first | rfl | omega | (simp_all; done) | (simp_all; omega)) | (refine chk_b ?_; simp_all [spIsSquare]; done) | (refine chk_b ?_; simp only [spIsSquare, decide_eq_true_eq, decide_eq_false_iff_not, Bool.not_eq_true', Bool.not_eq_false', Bool.or_eq_true, Bool.or_eq_false_iff, Bool.and_eq_true, Bool.and_eq_false_iff] at *; (repeat' split) <;> first | rfl | omega | (simp_all; done) | (simp_all; omega)) | (refine chk_s ?_; simp_all [spIsSquare]; done) | (refine chk_s ?_; simp only [spIsSquare, decide_eq_true_eq, decide_eq_false_iff_not, Bool.not_eq_true', Bool.not_eq_false', Bool.or_eq_true, Bool.or_eq_false_iff, Bool.and_eq_true, Bool.and_eq_false_iff] at *; (repeat' split) <;> first | rfl | omega | (simp_all; done) | (simp_all; omega)) | (simp_all [spIsSquare]; done) | (simp_all [spIsSquare]; omega) | skip
  · cases hcr

set_option maxHeartbeats 4000000 in
set_option maxRecDepth 20000 in
theorem okFile (hS : Hyp G) : ConOK Tryz.prog G 59 cFile := by
  refine seat_con hS.seat [(50, cIsSquare)] [] ⟨okIsSquare hS, trivial⟩ Tryz.func59 rfl rfl rfl ?_
  intro rvs cr hcr hpre
  unfold cFile at hcr
  split at hcr
  · cases hcr
    refine ⟨⟨rfl, rfl, rfl⟩, fun c hc vs => ?_⟩
    repeat' (first | exact Bool.noConfusion ‹(!true) = true› | exact Bool.noConfusion ‹(!false) = false› | (intro h; exact h) | (intro h; rw [h]; rfl) | (intro h1 h2; rw [h1, h2]; rfl) | (intro _; assumption) | (intro _; exact rfl) | (intro h; exact Bool.noConfusion (h.symm.trans ‹_ = false›)) | refine ⟨fun _ => ?_, fun _ => ?_⟩ | refine ⟨?_⟩ | refine ⟨?_, ?_⟩ | fail)
    all_goals first | exact rfl | (refine chk_i ?_; simp_all [spFile]; done) | (refine chk_i ?_; simp only [spFile, decide_eq_true_eq, decide_eq_false_iff_not, Bool.not_eq_true', Bool.not_eq_false', Bool.or_eq_true, Bool.or_eq_false_iff, Bool.and_eq_true, Bool.and_eq_false_iff] at *; (repeat' split) <;> first | rfl | omega | (simp_all; done) | (simp_all; omega)) | (refine chk_b ?_; simp_all [spFile]; done) | (refine chk_b ?_; simp only [spFile, decide_eq_true_eq, decide_eq_false_iff_not, Bool.not_eq_true', Bool.not_eq_false', Bool.or_eq_true, Bool.or_eq_false_iff, Bool.and_eq_true, Bool.and_eq_false_iff] at *; (repeat' split) <;> first | rfl | omega | (simp_all; done) | (simp_all; omega)) | (refine chk_s ?_; simp_all [spFile]; done) | (refine chk_s ?_; simp only [spFile, decide_eq_true_eq, decide_eq_false_iff_not, Bool.not_eq_true', Bool.not_eq_false', Bool.or_eq_true, Bool.or_eq_false_iff, Bool.and_eq_true, Bool.and_eq_false_iff] at *; (repeat' split) <;> first | rfl | omega | (simp_all; done) | (simp_all; omega)) | (simp_all [spFile]; done) | (simp_all [spFile]; omega) | skip
    refine chk_i ?_
    have h := isSquare_iff.1 (by simpa using ‹(!spIsSquare _) = false›)
    rw [tmod9 h.1, spFile, if_pos (isSquare_iff.2 h)]
  · cases hcr

set_option maxHeartbeats 4000000 in
set_option maxRecDepth 20000 in
theorem okRank (hS : Hyp G) : ConOK Tryz.prog G 100 cRank := by
  refine seat_con hS.seat [(50, cIsSquare)] [] ⟨okIsSquare hS, trivial⟩ Tryz.func100 rfl rfl rfl ?_
  intro rvs cr hcr hpre
  unfold cRank at hcr
  split at hcr
  · cases hcr
    refine ⟨⟨rfl, rfl, rfl⟩, fun c hc vs => ?_⟩
    repeat' (first | exact Bool.noConfusion ‹(!true) = true› | exact Bool.noConfusion ‹(!false) = false› | (intro h; exact h) | (intro h; rw [h]; rfl) | (intro h1 h2; rw [h1, h2]; rfl) | (intro _; assumption) | (intro _; exact rfl) | (intro h; exact Bool.noConfusion (h.symm.trans ‹_ = false›)) | refine ⟨fun _ => ?_, fun _ => ?_⟩ | refine ⟨?_⟩ | refine ⟨?_, ?_⟩ | fail)
    all_goals first | exact rfl | (refine chk_i ?_; simp_all [spRank]; done) | (refine chk_i ?_; simp only [spRank, decide_eq_true_eq, decide_eq_false_iff_not, Bool.not_eq_true', Bool.not_eq_false', Bool.or_eq_true, Bool.or_eq_false_iff, Bool.and_eq_true, Bool.and_eq_false_iff] at *; (repeat' split) <;> first | rfl | omega | (simp_all; done) | (simp_all; omega)) | (refine chk_b ?_; simp_all [spRank]; done) | (refine chk_b ?_; simp only [spRank, decide_eq_true_eq, decide_eq_false_iff_not, Bool.not_eq_true', Bool.not_eq_false', Bool.or_eq_true, Bool.or_eq_false_iff, Bool.and_eq_true, Bool.and_eq_false_iff] at *; (repeat' split) <;> first | rfl | omega | (simp_all; done) | (simp_all; omega)) | (refine chk_s ?_; simp_all [spRank]; done) | (refine chk_s ?_; simp only [spRank, decide_eq_true_eq, decide_eq_false_iff_not, Bool.not_eq_true', Bool.not_eq_false', Bool.or_eq_true, Bool.or_eq_false_iff, Bool.and_eq_true, Bool.and_eq_false_iff] at *; (repeat' split) <;> first | rfl | omega | (simp_all; done) | (simp_all; omega)) | (simp_all [spRank]; done) | (simp_all [spRank]; omega) | skip
    refine chk_i ?_
    have h := isSquare_iff.1 (by simpa using ‹(!spIsSquare _) = false›)
    rw [tdiv9 h.1, spRank, if_pos (isSquare_iff.2 h), wrap64 (by omega) (by omega)]
  · cases hcr

set_option maxHeartbeats 4000000 in
set_option maxRecDepth 20000 in
theorem okSquare (hS : Hyp G) : ConOK Tryz.prog G 144 cSquare := by
  refine seat_con hS.seat [] [] trivial Tryz.func144 rfl rfl rfl ?_
  intro rvs cr hcr hpre
  unfold cSquare at hcr
  split at hcr
  · cases hcr
    refine ⟨⟨rfl, rfl, rfl⟩, fun c hc vs => ?_⟩
    repeat' (first | exact Bool.noConfusion ‹(!true) = true› | exact Bool.noConfusion ‹(!false) = false› | (intro h; exact h) | (intro h; rw [h]; rfl) | (intro h1 h2; rw [h1, h2]; rfl) | (intro _; assumption) | (intro _; exact rfl) | (intro h; exact Bool.noConfusion (h.symm.trans ‹_ = false›)) | refine ⟨fun _ => ?_, fun _ => ?_⟩ | refine ⟨?_⟩ | refine ⟨?_, ?_⟩ | fail)
    all_goals first | exact rfl | (refine chk_i ?_; simp_all [spSquare]; done) | (refine chk_i ?_; simp only [spSquare, decide_eq_true_eq, decide_eq_false_iff_not, Bool.not_eq_true', Bool.not_eq_false', Bool.or_eq_true, Bool.or_eq_false_iff, Bool.and_eq_true, Bool.and_eq_false_iff] at *; (repeat' split) <;> first | rfl | omega | (simp_all; done) | (simp_all; omega)) | (refine chk_b ?_; simp_all [spSquare]; done) | (refine chk_b ?_; simp only [spSquare, decide_eq_true_eq, decide_eq_false_iff_not, Bool.not_eq_true', Bool.not_eq_false', Bool.or_eq_true, Bool.or_eq_false_iff, Bool.and_eq_true, Bool.and_eq_false_iff] at *; (repeat' split) <;> first | rfl | omega | (simp_all; done) | (simp_all; omega)) | (refine chk_s ?_; simp_all [spSquare]; done) | (refine chk_s ?_; simp only [spSquare, decide_eq_true_eq, decide_eq_false_iff_not, Bool.not_eq_true', Bool.not_eq_false', Bool.or_eq_true, Bool.or_eq_false_iff, Bool.and_eq_true, Bool.and_eq_false_iff] at *; (repeat' split) <;> first | rfl | omega | (simp_all; done) | (simp_all; omega)) | (simp_all [spSquare]; done) | (simp_all [spSquare]; omega) | skip
    refine chk_i ?_
    simp only [Bool.or_eq_false_iff, decide_eq_false_iff_not] at *
    rw [wrap64 (x := 9 * _) (by omega) (by omega), wrap64 (by omega) (by omega), spSquare, if_pos (by simp; omega)]
    omega
  · cases hcr

set_option maxHeartbeats 4000000 in
set_option maxRecDepth 20000 in
theorem okSide (hS : Hyp G) : ConOK Tryz.prog G 29 cSide := by
  refine seat_con hS.seat [(49, cIndexByte)] [] ⟨okIndexByte hS, trivial⟩ Tryz.func29 rfl rfl rfl ?_
  intro rvs cr hcr hpre
  unfold cSide at hcr
  split at hcr
  · cases hcr
    refine ⟨⟨rfl, rfl, rfl⟩, fun c hc vs => ?_⟩
    repeat' (first | exact Bool.noConfusion ‹(!true) = true› | exact Bool.noConfusion ‹(!false) = false› | (intro h; exact h) | (intro h; rw [h]; rfl) | (intro h1 h2; rw [h1, h2]; rfl) | (intro _; assumption) | (intro _; exact rfl) | (intro h; exact Bool.noConfusion (h.symm.trans ‹_ = false›)) | refine ⟨fun _ => ?_, fun _ => ?_⟩ | refine ⟨?_⟩ | refine ⟨?_, ?_⟩ | fail)
    all_goals first | exact rfl | (refine chk_i ?_; simp_all [spSide]; done) | (refine chk_i ?_; simp only [spSide, decide_eq_true_eq, decide_eq_false_iff_not, Bool.not_eq_true', Bool.not_eq_false', Bool.or_eq_true, Bool.or_eq_false_iff, Bool.and_eq_true, Bool.and_eq_false_iff] at *; (repeat' split) <;> first | rfl | omega | (simp_all; done) | (simp_all; omega)) | (refine chk_b ?_; simp_all [spSide]; done) | (refine chk_b ?_; simp only [spSide, decide_eq_true_eq, decide_eq_false_iff_not, Bool.not_eq_true', Bool.not_eq_false', Bool.or_eq_true, Bool.or_eq_false_iff, Bool.and_eq_true, Bool.and_eq_false_iff] at *; (repeat' split) <;> first | rfl | omega | (simp_all; done) | (simp_all; omega)) | (refine chk_s ?_; simp_all [spSide]; done) | (refine chk_s ?_; simp only [spSide, decide_eq_true_eq, decide_eq_false_iff_not, Bool.not_eq_true', Bool.not_eq_false', Bool.or_eq_true, Bool.or_eq_false_iff, Bool.and_eq_true, Bool.and_eq_false_iff] at *; (repeat' split) <;> first | rfl | omega | (simp_all; done) | (simp_all; omega)) | (simp_all [spSide]; done) | (simp_all [spSide]; omega) | skip
  · cases hcr

set_option maxHeartbeats 4000000 in
set_option maxRecDepth 20000 in
theorem okIsCell (hS : Hyp G) : ConOK Tryz.prog G 76 cIsCell := by
  refine seat_con hS.seat [(29, cSide)] [] ⟨okSide hS, trivial⟩ Tryz.func76 rfl rfl rfl ?_
  intro rvs cr hcr hpre
  unfold cIsCell at hcr
  split at hcr
  · cases hcr
    refine ⟨⟨rfl, rfl, rfl⟩, fun c hc vs => ?_⟩
    repeat' (first | exact Bool.noConfusion ‹(!true) = true› | exact Bool.noConfusion ‹(!false) = false› | (intro h; exact h) | (intro h; rw [h]; rfl) | (intro h1 h2; rw [h1, h2]; rfl) | (intro _; assumption) | (intro _; exact rfl) | (intro h; exact Bool.noConfusion (h.symm.trans ‹_ = false›)) | refine ⟨fun _ => ?_, fun _ => ?_⟩ | refine ⟨?_⟩ | refine ⟨?_, ?_⟩ | fail)
    all_goals first | exact rfl | (refine chk_i ?_; simp_all [spIsCell]; done) | (refine chk_i ?_; simp only [spIsCell, decide_eq_true_eq, decide_eq_false_iff_not, Bool.not_eq_true', Bool.not_eq_false', Bool.or_eq_true, Bool.or_eq_false_iff, Bool.and_eq_true, Bool.and_eq_false_iff] at *; (repeat' split) <;> first | rfl | omega | (simp_all; done) | (simp_all; omega)) | (refine chk_b ?_; simp_all [spIsCell]; done) | (refine chk_b ?_; simp only [spIsCell, decide_eq_true_eq, decide_eq_false_iff_not, Bool.not_eq_true', Bool.not_eq_false', Bool.or_eq_true, Bool.or_eq_false_iff, Bool.and_eq_true, Bool.and_eq_false_iff] at *; (repeat' split) <;> first | rfl | omega | (simp_all; done) | (simp_all; omega)) | (refine chk_s ?_; simp_all [spIsCell]; done) | (refine chk_s ?_; simp only [spIsCell, decide_eq_true_eq, decide_eq_false_iff_not, Bool.not_eq_true', Bool.not_eq_false', Bool.or_eq_true, Bool.or_eq_false_iff, Bool.and_eq_true, Bool.and_eq_false_iff] at *; (repeat' split) <;> first | rfl | omega | (simp_all; done) | (simp_all; omega)) | (simp_all [spIsCell]; done) | (simp_all [spIsCell]; omega) | skip
  · cases hcr

set_option maxHeartbeats 4000000 in
set_option maxRecDepth 20000 in
theorem okKind (hS : Hyp G) : ConOK Tryz.prog G 45 cKind := by
  refine seat_con hS.seat [(29, cSide)] [] ⟨okSide hS, trivial⟩ Tryz.func45 rfl rfl rfl ?_
  intro rvs cr hcr hpre
  unfold cKind at hcr
  split at hcr
  · cases hcr
    refine ⟨⟨rfl, rfl, rfl⟩, fun c hc vs => ?_⟩
    repeat' (first | exact Bool.noConfusion ‹(!true) = true› | exact Bool.noConfusion ‹(!false) = false› | (intro h; exact h) | (intro h; rw [h]; rfl) | (intro h1 h2; rw [h1, h2]; rfl) | (intro _; assumption) | (intro _; exact rfl) | (intro h; exact Bool.noConfusion (h.symm.trans ‹_ = false›)) | refine ⟨fun _ => ?_, fun _ => ?_⟩ | refine ⟨?_⟩ | refine ⟨?_, ?_⟩ | fail)
    all_goals first | exact rfl | (refine chk_i ?_; simp_all [spKind]; done) | (refine chk_i ?_; simp only [spKind, decide_eq_true_eq, decide_eq_false_iff_not, Bool.not_eq_true', Bool.not_eq_false', Bool.or_eq_true, Bool.or_eq_false_iff, Bool.and_eq_true, Bool.and_eq_false_iff] at *; (repeat' split) <;> first | rfl | omega | (simp_all; done) | (simp_all; omega)) | (refine chk_b ?_; simp_all [spKind]; done) | (refine chk_b ?_; simp only [spKind, decide_eq_true_eq, decide_eq_false_iff_not, Bool.not_eq_true', Bool.not_eq_false', Bool.or_eq_true, Bool.or_eq_false_iff, Bool.and_eq_true, Bool.and_eq_false_iff] at *; (repeat' split) <;> first | rfl | omega | (simp_all; done) | (simp_all; omega)) | (refine chk_s ?_; simp_all [spKind]; done) | (refine chk_s ?_; simp only [spKind, decide_eq_true_eq, decide_eq_false_iff_not, Bool.not_eq_true', Bool.not_eq_false', Bool.or_eq_true, Bool.or_eq_false_iff, Bool.and_eq_true, Bool.and_eq_false_iff] at *; (repeat' split) <;> first | rfl | omega | (simp_all; done) | (simp_all; omega)) | (simp_all [spKind]; done) | (simp_all [spKind]; omega) | skip
  · cases hcr

set_option maxHeartbeats 4000000 in
set_option maxRecDepth 20000 in
theorem okBad (hS : Hyp G) : ConOK Tryz.prog G 75 cBad := by
  refine seat_con hS.seat [(76, cIsCell)] [] ⟨okIsCell hS, trivial⟩ Tryz.func75 rfl rfl rfl ?_
  intro rvs cr hcr hpre
  unfold cBad at hcr
  split at hcr
  · cases hcr
    refine ⟨⟨rfl, rfl, rfl⟩, fun c hc vs => ?_⟩
    repeat' (first | exact Bool.noConfusion ‹(!true) = true› | exact Bool.noConfusion ‹(!false) = false› | (intro h; exact h) | (intro h; rw [h]; rfl) | (intro h1 h2; rw [h1, h2]; rfl) | (intro _; assumption) | (intro _; exact rfl) | (intro h; exact Bool.noConfusion (h.symm.trans ‹_ = false›)) | refine ⟨fun _ => ?_, fun _ => ?_⟩ | refine ⟨?_⟩ | refine ⟨?_, ?_⟩ | fail)
    all_goals first | exact rfl | (refine chk_i ?_; simp_all [spBad]; done) | (refine chk_i ?_; simp only [spBad, decide_eq_true_eq, decide_eq_false_iff_not, Bool.not_eq_true', Bool.not_eq_false', Bool.or_eq_true, Bool.or_eq_false_iff, Bool.and_eq_true, Bool.and_eq_false_iff] at *; (repeat' split) <;> first | rfl | omega | (simp_all; done) | (simp_all; omega)) | (refine chk_b ?_; simp_all [spBad]; done) | (refine chk_b ?_; simp only [spBad, decide_eq_true_eq, decide_eq_false_iff_not, Bool.not_eq_true', Bool.not_eq_false', Bool.or_eq_true, Bool.or_eq_false_iff, Bool.and_eq_true, Bool.and_eq_false_iff] at *; (repeat' split) <;> first | rfl | omega | (simp_all; done) | (simp_all; omega)) | (refine chk_s ?_; simp_all [spBad]; done) | (refine chk_s ?_; simp only [spBad, decide_eq_true_eq, decide_eq_false_iff_not, Bool.not_eq_true', Bool.not_eq_false', Bool.or_eq_true, Bool.or_eq_false_iff, Bool.and_eq_true, Bool.and_eq_false_iff] at *; (repeat' split) <;> first | rfl | omega | (simp_all; done) | (simp_all; omega)) | (simp_all [spBad]; done) | (simp_all [spBad]; omega) | skip
  · cases hcr

theorem okIndexFunc (hS : Hyp G) : ConOK Tryz.prog G 74 cIndexFunc := by
  refine con_ext Tryz.func74 rfl rfl ?_
  intro rvs cr hcr hpre
  unfold cIndexFunc at hcr
  split at hcr
  · cases hcr
    refine ⟨_, _, _, rfl, rfl, fun _ _ => rfl, fun g0 w hg hG => Tryz.strings_IndexFunc_grows 75 #[] Tryz.call75 spBad _ w ?_⟩
    intro W x _ hb
    have hG' : G g0 W := hS.seat.good (topCtx g0 w hg) hG W ⟨hb.os, hb.tape, hb.output, hb.size, fun k h1 _ => hb.block k h1⟩
    refine (con_calls (avs := [.i .i32 (.ofNat x)]) (vals := [.int .i32 (.ofNat x)]) (okBad hS) (Nat.le_trans hg hb.size) hG' rfl ⟨_, _, rfl, rfl, rfl⟩ rfl (fun p hp => (by cases hp))).mono ?_
    rintro en w' ⟨v, e', rfl, h1, h2⟩
    refine ⟨?_, top_below h1.frame⟩
    simp only [R] at h2
    rw [h2]
  · cases hcr

set_option maxHeartbeats 4000000 in
set_option maxRecDepth 20000 in
theorem okIs (hS : Hyp G) : ConOK Tryz.prog G 51 cIs := by
  refine seat_con hS.seat [(74, cIndexFunc)] [] ⟨okIndexFunc hS, trivial⟩ Tryz.func51 rfl rfl rfl ?_
  intro rvs cr hcr hpre
  unfold cIs at hcr
  split at hcr
  · cases hcr
    refine ⟨⟨rfl, rfl, rfl⟩, fun c hc vs => ?_⟩
    repeat' (first | exact Bool.noConfusion ‹(!true) = true› | exact Bool.noConfusion ‹(!false) = false› | (intro h; exact h) | (intro h; rw [h]; rfl) | (intro h1 h2; rw [h1, h2]; rfl) | (intro _; assumption) | (intro _; exact rfl) | (intro h; exact Bool.noConfusion (h.symm.trans ‹_ = false›)) | refine ⟨fun _ => ?_, fun _ => ?_⟩ | refine ⟨?_⟩ | refine ⟨?_, ?_⟩ | fail)
    all_goals first | exact rfl | (refine chk_i ?_; simp_all [spIs]; done) | (refine chk_i ?_; simp only [spIs, decide_eq_true_eq, decide_eq_false_iff_not, Bool.not_eq_true', Bool.not_eq_false', Bool.or_eq_true, Bool.or_eq_false_iff, Bool.and_eq_true, Bool.and_eq_false_iff] at *; (repeat' split) <;> first | rfl | omega | (simp_all; done) | (simp_all; omega)) | (refine chk_b ?_; simp_all [spIs]; done) | (refine chk_b ?_; simp only [spIs, decide_eq_true_eq, decide_eq_false_iff_not, Bool.not_eq_true', Bool.not_eq_false', Bool.or_eq_true, Bool.or_eq_false_iff, Bool.and_eq_true, Bool.and_eq_false_iff] at *; (repeat' split) <;> first | rfl | omega | (simp_all; done) | (simp_all; omega)) | (refine chk_s ?_; simp_all [spIs]; done) | (refine chk_s ?_; simp only [spIs, decide_eq_true_eq, decide_eq_false_iff_not, Bool.not_eq_true', Bool.not_eq_false', Bool.or_eq_true, Bool.or_eq_false_iff, Bool.and_eq_true, Bool.and_eq_false_iff] at *; (repeat' split) <;> first | rfl | omega | (simp_all; done) | (simp_all; omega)) | (simp_all [spIs]; done) | (simp_all [spIs]; omega) | skip
  · cases hcr

set_option maxHeartbeats 4000000 in
set_option maxRecDepth 20000 in
theorem okAt (hS : Hyp G) : ConOK Tryz.prog G 30 cAt := by
  refine seat_con hS.seat [(50, cIsSquare), (51, cIs)] [] ⟨okIsSquare hS, okIs hS, trivial⟩ Tryz.func30 rfl rfl rfl ?_
  intro rvs cr hcr hpre
  unfold cAt at hcr
  split at hcr
  · cases hcr
    refine ⟨⟨rfl, rfl, rfl⟩, fun c hc vs => ?_⟩
    repeat' (first | exact Bool.noConfusion ‹(!true) = true› | exact Bool.noConfusion ‹(!false) = false› | (intro h; exact h) | (intro h; rw [h]; rfl) | (intro h1 h2; rw [h1, h2]; rfl) | (intro _; assumption) | (intro _; exact rfl) | (intro h; exact Bool.noConfusion (h.symm.trans ‹_ = false›)) | refine ⟨fun _ => ?_, fun _ => ?_⟩ | refine ⟨?_⟩ | refine ⟨?_, ?_⟩ | fail)
    all_goals first | exact rfl | (refine chk_i ?_; simp_all [spAt]; done) | (refine chk_i ?_; simp only [spAt, decide_eq_true_eq, decide_eq_false_iff_not, Bool.not_eq_true', Bool.not_eq_false', Bool.or_eq_true, Bool.or_eq_false_iff, Bool.and_eq_true, Bool.and_eq_false_iff] at *; (repeat' split) <;> first | rfl | omega | (simp_all; done) | (simp_all; omega)) | (refine chk_b ?_; simp_all [spAt]; done) | (refine chk_b ?_; simp only [spAt, decide_eq_true_eq, decide_eq_false_iff_not, Bool.not_eq_true', Bool.not_eq_false', Bool.or_eq_true, Bool.or_eq_false_iff, Bool.and_eq_true, Bool.and_eq_false_iff] at *; (repeat' split) <;> first | rfl | omega | (simp_all; done) | (simp_all; omega)) | (refine chk_s ?_; simp_all [spAt]; done) | (refine chk_s ?_; simp only [spAt, decide_eq_true_eq, decide_eq_false_iff_not, Bool.not_eq_true', Bool.not_eq_false', Bool.or_eq_true, Bool.or_eq_false_iff, Bool.and_eq_true, Bool.and_eq_false_iff] at *; (repeat' split) <;> first | rfl | omega | (simp_all; done) | (simp_all; omega)) | (simp_all [spAt]; done) | (simp_all [spAt]; omega) | skip
    all_goals
      have h := ‹(_ || _) = false›
      simp [isSquare_iff] at h
      have := spIs_size h.2
      omega
  · cases hcr

set_option maxHeartbeats 4000000 in
set_option maxRecDepth 20000 in
theorem okPut (hS : Hyp G) : ConOK Tryz.prog G 56 cPut := by
  refine seat_con hS.seat [(50, cIsSquare), (76, cIsCell), (51, cIs)] [] ⟨okIsSquare hS, okIsCell hS, okIs hS, trivial⟩ Tryz.func56 rfl rfl rfl ?_
  intro rvs cr hcr hpre
  unfold cPut at hcr
  split at hcr
  · cases hcr
    refine ⟨⟨rfl, rfl, rfl⟩, fun c hc vs => ?_⟩
    repeat' (first | exact Bool.noConfusion ‹(!true) = true› | exact Bool.noConfusion ‹(!false) = false› | (intro h; exact h) | (intro h; rw [h]; rfl) | (intro h1 h2; rw [h1, h2]; rfl) | (intro _; assumption) | (intro _; exact rfl) | (intro h; exact Bool.noConfusion (h.symm.trans ‹_ = false›)) | refine ⟨fun _ => ?_, fun _ => ?_⟩ | refine ⟨?_⟩ | refine ⟨?_, ?_⟩ | fail)
    all_goals first | exact rfl | (refine chk_i ?_; simp_all [spPut]; done) | (refine chk_i ?_; simp only [spPut, decide_eq_true_eq, decide_eq_false_iff_not, Bool.not_eq_true', Bool.not_eq_false', Bool.or_eq_true, Bool.or_eq_false_iff, Bool.and_eq_true, Bool.and_eq_false_iff] at *; (repeat' split) <;> first | rfl | omega | (simp_all; done) | (simp_all; omega)) | (refine chk_b ?_; simp_all [spPut]; done) | (refine chk_b ?_; simp only [spPut, decide_eq_true_eq, decide_eq_false_iff_not, Bool.not_eq_true', Bool.not_eq_false', Bool.or_eq_true, Bool.or_eq_false_iff, Bool.and_eq_true, Bool.and_eq_false_iff] at *; (repeat' split) <;> first | rfl | omega | (simp_all; done) | (simp_all; omega)) | (refine chk_s ?_; simp_all [spPut]; done) | (refine chk_s ?_; simp only [spPut, decide_eq_true_eq, decide_eq_false_iff_not, Bool.not_eq_true', Bool.not_eq_false', Bool.or_eq_true, Bool.or_eq_false_iff, Bool.and_eq_true, Bool.and_eq_false_iff] at *; (repeat' split) <;> first | rfl | omega | (simp_all; done) | (simp_all; omega)) | (simp_all [spPut]; done) | (simp_all [spPut]; omega) | skip
    all_goals
      have h := ‹(_ || _) = false›
      simp [isSquare_iff] at h
      have := spIs_size h.2
      have := bytesL_length ‹ByteArray›
      first | omega | (show _ < ((bytesL _).length : Int); omega)
  · cases hcr

end
end Go.X

namespace Go.X
open Go Go.Proofs

def cSeen : Con
  | [.a (.i .i64 n), .a (.i .i64 side)] => some ⟨[], .tup [.agg [.a (.i .i64 (spSF n side)), .a (.i .i64 (spSR n side))], .a (.b (spOk n side))], [], []⟩
  | _ => none
def cPal : Con
  | [.agg [.a (.i .i64 f), .a (.i .i64 r)]] => some ⟨[], .a (.b (spPal f r)), [], []⟩
  | _ => none
def cOvr : Con
  | [.agg [.a (.i .i64 _), .a (.i .i64 r)]] => some ⟨[], .a (.b (spOvr r)), [], []⟩
  | _ => none
def cAdv : Con
  | [.agg [.a (.i .i64 f), .a (.i .i64 r)]] => some ⟨[], .a (.b (spAdv f r)), [], []⟩
  | _ => none
def cEle : Con
  | [.agg [.a (.i .i64 f), .a (.i .i64 r)]] => some ⟨[], .a (.b (spEle f r)), [], []⟩
  | _ => none
def cPwn : Con
  | [.agg [.a (.i .i64 f), .a (.i .i64 r)]] => some ⟨[], .a (.b (spPwn f r)), [], []⟩
  | _ => none
def cMay : Con
  | [.a (.i .u8 c), .a (.i .i64 n)] => some ⟨[], .a (.b (spMay c n)), [], []⟩
  | _ => none
def cOver : Con
  | [.a (.i .i64 n), .a (.i .i64 side)] => some ⟨[], .a (.b (spOver n side)), [], []⟩
  | _ => none
section
variable {G : Nat → World → Prop}
set_option maxHeartbeats 4000000 in
set_option maxRecDepth 20000 in
theorem okSeen (hS : Hyp G) : ConOK Tryz.prog G 146 cSeen := by
  refine seat_con hS.seat [] [] trivial Tryz.func146 rfl rfl rfl ?_
  intro rvs cr hcr hpre
  unfold cSeen at hcr
  split at hcr
  · rename_i n side
    cases hcr
    refine ⟨⟨rfl, rfl, rfl⟩, fun c hc vs => ?_⟩
    repeat' (first | exact Bool.noConfusion ‹(!true) = true› | exact Bool.noConfusion ‹(!false) = false› | (intro h; exact h) | (intro h; rw [h]; rfl) | (intro h1 h2; rw [h1, h2]; rfl) | (intro _; assumption) | (intro _; exact rfl) | (intro h; exact Bool.noConfusion (h.symm.trans ‹_ = false›)) | refine ⟨fun _ => ?_, fun _ => ?_⟩ | refine ⟨?_⟩ | refine ⟨?_, ?_⟩ | fail)
    all_goals first | exact trivial | (refine (?_ : (_ : Int) ≠ _); decide) | exact rfl | skip
    · refine chk_i ?_; rw [spSF, if_neg]; rw [ok_bad ‹_›]; simp
    · refine chk_i ?_; rw [spSR, if_neg]; rw [ok_bad ‹_›]; simp
    · refine chk_b ?_; rw [ok_bad ‹_›]
    all_goals
      rename_i h hs
      have hok := ok_good h
      have hb : 0 ≤ n ∧ n < 90 := by simp [spOk] at hok; omega
      simp only [beq_iff_eq, beq_eq_false_iff_ne] at hs
    · refine chk_i ?_; rw [spSF, if_pos hok, spTurned, if_pos hs, wrap64 (by omega) (by omega), tmod9 (by omega)]
    · refine chk_i ?_; rw [spSR, if_pos hok, spTurned, if_pos hs, wrap64 (x := 89 - n) (by omega) (by omega), tdiv9 (by omega), wrap64 (by omega) (by omega)]
    · exact chk_b hok.symm
    · refine chk_i ?_; rw [spSF, if_pos hok, spTurned, if_neg hs, tmod9 (by omega)]
    · refine chk_i ?_; rw [spSR, if_pos hok, spTurned, if_neg hs, tdiv9 (by omega), wrap64 (by omega) (by omega)]
    · exact chk_b hok.symm
  · cases hcr
set_option maxHeartbeats 4000000 in
set_option maxRecDepth 20000 in
theorem okPal (hS : Hyp G) : ConOK Tryz.prog G 154 cPal := by
  refine seat_con hS.seat [] [] trivial Tryz.func154 rfl rfl rfl ?_
  intro rvs cr hcr hpre
  unfold cPal at hcr
  split at hcr
  · cases hcr
    refine ⟨⟨rfl, rfl, rfl⟩, fun c hc vs => ?_⟩
    repeat' (first | exact Bool.noConfusion ‹(!true) = true› | exact Bool.noConfusion ‹(!false) = false› | (intro h; exact h) | (intro h; rw [h]; rfl) | (intro h1 h2; rw [h1, h2]; rfl) | (intro _; assumption) | (intro _; exact rfl) | (intro h; exact Bool.noConfusion (h.symm.trans ‹_ = false›)) | refine ⟨fun _ => ?_, fun _ => ?_⟩ | refine ⟨?_⟩ | refine ⟨?_, ?_⟩ | fail)
    all_goals first | exact rfl | (refine chk_i ?_; simp_all [spPal]; done) | (refine chk_i ?_; simp only [spPal, decide_eq_true_eq, decide_eq_false_iff_not, Bool.not_eq_true', Bool.not_eq_false', Bool.or_eq_true, Bool.or_eq_false_iff, Bool.and_eq_true, Bool.and_eq_false_iff] at *; (repeat' split) <;> first | rfl | omega | (simp_all; done) | (simp_all; omega)) | (refine chk_b ?_; simp_all [spPal]; done) | (refine chk_b ?_; simp only [spPal, decide_eq_true_eq, decide_eq_false_iff_not, Bool.not_eq_true', Bool.not_eq_false', Bool.or_eq_true, Bool.or_eq_false_iff, Bool.and_eq_true, Bool.and_eq_false_iff] at *; (repeat' split) <;> first | rfl | omega | (simp_all; done) | (simp_all; omega)) | (refine chk_s ?_; simp_all [spPal]; done) | (refine chk_s ?_; simp only [spPal, decide_eq_true_eq, decide_eq_false_iff_not, Bool.not_eq_true', Bool.not_eq_false', Bool.or_eq_true, Bool.or_eq_false_iff, Bool.and_eq_true, Bool.and_eq_false_iff] at *; (repeat' split) <;> first | rfl | omega | (simp_all; done) | (simp_all; omega)) | (simp_all [spPal]; done) | (simp_all [spPal]; omega) | skip
  · cases hcr
set_option maxHeartbeats 4000000 in
set_option maxRecDepth 20000 in
theorem okOvr (hS : Hyp G) : ConOK Tryz.prog G 147 cOvr := by
  refine seat_con hS.seat [] [] trivial Tryz.func147 rfl rfl rfl ?_
  intro rvs cr hcr hpre
  unfold cOvr at hcr
  split at hcr
  · cases hcr
    refine ⟨⟨rfl, rfl, rfl⟩, fun c hc vs => ?_⟩
    repeat' (first | exact Bool.noConfusion ‹(!true) = true› | exact Bool.noConfusion ‹(!false) = false› | (intro h; exact h) | (intro h; rw [h]; rfl) | (intro h1 h2; rw [h1, h2]; rfl) | (intro _; assumption) | (intro _; exact rfl) | (intro h; exact Bool.noConfusion (h.symm.trans ‹_ = false›)) | refine ⟨fun _ => ?_, fun _ => ?_⟩ | refine ⟨?_⟩ | refine ⟨?_, ?_⟩ | fail)
    all_goals first | exact rfl | (refine chk_i ?_; simp_all [spOvr]; done) | (refine chk_i ?_; simp only [spOvr, decide_eq_true_eq, decide_eq_false_iff_not, Bool.not_eq_true', Bool.not_eq_false', Bool.or_eq_true, Bool.or_eq_false_iff, Bool.and_eq_true, Bool.and_eq_false_iff] at *; (repeat' split) <;> first | rfl | omega | (simp_all; done) | (simp_all; omega)) | (refine chk_b ?_; simp_all [spOvr]; done) | (refine chk_b ?_; simp only [spOvr, decide_eq_true_eq, decide_eq_false_iff_not, Bool.not_eq_true', Bool.not_eq_false', Bool.or_eq_true, Bool.or_eq_false_iff, Bool.and_eq_true, Bool.and_eq_false_iff] at *; (repeat' split) <;> first | rfl | omega | (simp_all; done) | (simp_all; omega)) | (refine chk_s ?_; simp_all [spOvr]; done) | (refine chk_s ?_; simp only [spOvr, decide_eq_true_eq, decide_eq_false_iff_not, Bool.not_eq_true', Bool.not_eq_false', Bool.or_eq_true, Bool.or_eq_false_iff, Bool.and_eq_true, Bool.and_eq_false_iff] at *; (repeat' split) <;> first | rfl | omega | (simp_all; done) | (simp_all; omega)) | (simp_all [spOvr]; done) | (simp_all [spOvr]; omega) | skip
  · cases hcr
set_option maxHeartbeats 4000000 in
set_option maxRecDepth 20000 in
theorem okAdv (hS : Hyp G) : ConOK Tryz.prog G 155 cAdv := by
  refine seat_con hS.seat [(154, cPal)] [] ⟨okPal hS, trivial⟩ Tryz.func155 rfl rfl rfl ?_
  intro rvs cr hcr hpre
  unfold cAdv at hcr
  split at hcr
  · cases hcr
    refine ⟨⟨rfl, rfl, rfl⟩, fun c hc vs => ?_⟩
    repeat' (first | exact Bool.noConfusion ‹(!true) = true› | exact Bool.noConfusion ‹(!false) = false› | (intro h; exact h) | (intro h; rw [h]; rfl) | (intro h1 h2; rw [h1, h2]; rfl) | (intro _; assumption) | (intro _; exact rfl) | (intro h; exact Bool.noConfusion (h.symm.trans ‹_ = false›)) | refine ⟨fun _ => ?_, fun _ => ?_⟩ | refine ⟨?_⟩ | refine ⟨?_, ?_⟩ | fail)
    all_goals first | exact rfl | (refine chk_i ?_; simp_all [spAdv]; done) | (refine chk_i ?_; simp only [spAdv, decide_eq_true_eq, decide_eq_false_iff_not, Bool.not_eq_true', Bool.not_eq_false', Bool.or_eq_true, Bool.or_eq_false_iff, Bool.and_eq_true, Bool.and_eq_false_iff] at *; (repeat' split) <;> first | rfl | omega | (simp_all; done) | (simp_all; omega)) | (refine chk_b ?_; simp_all [spAdv]; done) | (refine chk_b ?_; simp only [spAdv, decide_eq_true_eq, decide_eq_false_iff_not, Bool.not_eq_true', Bool.not_eq_false', Bool.or_eq_true, Bool.or_eq_false_iff, Bool.and_eq_true, Bool.and_eq_false_iff] at *; (repeat' split) <;> first | rfl | omega | (simp_all; done) | (simp_all; omega)) | (refine chk_s ?_; simp_all [spAdv]; done) | (refine chk_s ?_; simp only [spAdv, decide_eq_true_eq, decide_eq_false_iff_not, Bool.not_eq_true', Bool.not_eq_false', Bool.or_eq_true, Bool.or_eq_false_iff, Bool.and_eq_true, Bool.and_eq_false_iff] at *; (repeat' split) <;> first | rfl | omega | (simp_all; done) | (simp_all; omega)) | (simp_all [spAdv]; done) | (simp_all [spAdv]; omega) | skip
  · cases hcr
set_option maxHeartbeats 4000000 in
set_option maxRecDepth 20000 in
theorem okEle (hS : Hyp G) : ConOK Tryz.prog G 156 cEle := by
  refine seat_con hS.seat [] [] trivial Tryz.func156 rfl rfl rfl ?_
  intro rvs cr hcr hpre
  unfold cEle at hcr
  split at hcr
  · cases hcr
    refine ⟨⟨rfl, rfl, rfl⟩, fun c hc vs => ?_⟩
    repeat' (first | exact Bool.noConfusion ‹(!true) = true› | exact Bool.noConfusion ‹(!false) = false› | (intro h; exact h) | (intro h; rw [h]; rfl) | (intro h1 h2; rw [h1, h2]; rfl) | (intro _; assumption) | (intro _; exact rfl) | (intro h; exact Bool.noConfusion (h.symm.trans ‹_ = false›)) | refine ⟨fun _ => ?_, fun _ => ?_⟩ | refine ⟨?_⟩ | refine ⟨?_, ?_⟩ | fail)
    all_goals first | exact rfl | (refine chk_i ?_; simp_all [spEle]; done) | (refine chk_i ?_; simp only [spEle, decide_eq_true_eq, decide_eq_false_iff_not, Bool.not_eq_true', Bool.not_eq_false', Bool.or_eq_true, Bool.or_eq_false_iff, Bool.and_eq_true, Bool.and_eq_false_iff] at *; (repeat' split) <;> first | rfl | omega | (simp_all; done) | (simp_all; omega)) | (refine chk_b ?_; simp_all [spEle]; done) | (refine chk_b ?_; simp only [spEle, decide_eq_true_eq, decide_eq_false_iff_not, Bool.not_eq_true', Bool.not_eq_false', Bool.or_eq_true, Bool.or_eq_false_iff, Bool.and_eq_true, Bool.and_eq_false_iff] at *; (repeat' split) <;> first | rfl | omega | (simp_all; done) | (simp_all; omega)) | (refine chk_s ?_; simp_all [spEle]; done) | (refine chk_s ?_; simp only [spEle, decide_eq_true_eq, decide_eq_false_iff_not, Bool.not_eq_true', Bool.not_eq_false', Bool.or_eq_true, Bool.or_eq_false_iff, Bool.and_eq_true, Bool.and_eq_false_iff] at *; (repeat' split) <;> first | rfl | omega | (simp_all; done) | (simp_all; omega)) | (simp_all [spEle]; done) | (simp_all [spEle]; omega) | skip
  · cases hcr
set_option maxHeartbeats 4000000 in
set_option maxRecDepth 20000 in
theorem okPwn (hS : Hyp G) : ConOK Tryz.prog G 157 cPwn := by
  refine seat_con hS.seat [(147, cOvr)] [] ⟨okOvr hS, trivial⟩ Tryz.func157 rfl rfl rfl ?_
  intro rvs cr hcr hpre
  unfold cPwn at hcr
  split at hcr
  · cases hcr
    refine ⟨⟨rfl, rfl, rfl⟩, fun c hc vs => ?_⟩
    repeat' (first | exact Bool.noConfusion ‹(!true) = true› | exact Bool.noConfusion ‹(!false) = false› | (intro h; exact h) | (intro h; rw [h]; rfl) | (intro h1 h2; rw [h1, h2]; rfl) | (intro _; assumption) | (intro _; exact rfl) | (intro h; exact Bool.noConfusion (h.symm.trans ‹_ = false›)) | refine ⟨fun _ => ?_, fun _ => ?_⟩ | refine ⟨?_⟩ | refine ⟨?_, ?_⟩ | fail)
    all_goals first | exact rfl | (refine chk_i ?_; simp_all [spPwn]; done) | (refine chk_i ?_; simp only [spPwn, decide_eq_true_eq, decide_eq_false_iff_not, Bool.not_eq_true', Bool.not_eq_false', Bool.or_eq_true, Bool.or_eq_false_iff, Bool.and_eq_true, Bool.and_eq_false_iff] at *; (repeat' split) <;> first | rfl | omega | (simp_all; done) | (simp_all; omega)) | (refine chk_b ?_; simp_all [spPwn]; done) | (refine chk_b ?_; simp only [spPwn, decide_eq_true_eq, decide_eq_false_iff_not, Bool.not_eq_true', Bool.not_eq_false', Bool.or_eq_true, Bool.or_eq_false_iff, Bool.and_eq_true, Bool.and_eq_false_iff] at *; (repeat' split) <;> first | rfl | omega | (simp_all; done) | (simp_all; omega)) | (refine chk_s ?_; simp_all [spPwn]; done) | (refine chk_s ?_; simp only [spPwn, decide_eq_true_eq, decide_eq_false_iff_not, Bool.not_eq_true', Bool.not_eq_false', Bool.or_eq_true, Bool.or_eq_false_iff, Bool.and_eq_true, Bool.and_eq_false_iff] at *; (repeat' split) <;> first | rfl | omega | (simp_all; done) | (simp_all; omega)) | (simp_all [spPwn]; done) | (simp_all [spPwn]; omega) | skip
  · cases hcr
set_option maxHeartbeats 4000000 in
set_option maxRecDepth 20000 in
theorem okMay (hS : Hyp G) : ConOK Tryz.prog G 143 cMay := by
  refine seat_con hS.seat [(29, cSide), (45, cKind), (146, cSeen), (154, cPal), (155, cAdv), (156, cEle), (157, cPwn)] [] ⟨okSide hS, okKind hS, okSeen hS, okPal hS, okAdv hS, okEle hS, okPwn hS, trivial⟩ Tryz.func143 rfl rfl rfl ?_
  intro rvs cr hcr hpre
  unfold cMay at hcr
  split at hcr
  · cases hcr
    refine ⟨⟨rfl, rfl, rfl⟩, fun c hc vs => ?_⟩
    repeat' (first | exact Bool.noConfusion ‹(!true) = true› | exact Bool.noConfusion ‹(!false) = false› | (intro h; exact h) | (intro h; rw [h]; rfl) | (intro h1 h2; rw [h1, h2]; rfl) | (intro _; assumption) | (intro _; exact rfl) | (intro h; exact Bool.noConfusion (h.symm.trans ‹_ = false›)) | refine ⟨fun _ => ?_, fun _ => ?_⟩ | refine ⟨?_⟩ | refine ⟨?_, ?_⟩ | fail)
    all_goals first | exact rfl | (refine chk_i ?_; simp_all [spMay]; done) | (refine chk_i ?_; simp only [spMay, decide_eq_true_eq, decide_eq_false_iff_not, Bool.not_eq_true', Bool.not_eq_false', Bool.or_eq_true, Bool.or_eq_false_iff, Bool.and_eq_true, Bool.and_eq_false_iff] at *; (repeat' split) <;> first | rfl | omega | (simp_all; done) | (simp_all; omega)) | (refine chk_b ?_; simp_all [spMay]; done) | (refine chk_b ?_; simp only [spMay, decide_eq_true_eq, decide_eq_false_iff_not, Bool.not_eq_true', Bool.not_eq_false', Bool.or_eq_true, Bool.or_eq_false_iff, Bool.and_eq_true, Bool.and_eq_false_iff] at *; (repeat' split) <;> first | rfl | omega | (simp_all; done) | (simp_all; omega)) | (refine chk_s ?_; simp_all [spMay]; done) | (refine chk_s ?_; simp only [spMay, decide_eq_true_eq, decide_eq_false_iff_not, Bool.not_eq_true', Bool.not_eq_false', Bool.or_eq_true, Bool.or_eq_false_iff, Bool.and_eq_true, Bool.and_eq_false_iff] at *; (repeat' split) <;> first | rfl | omega | (simp_all; done) | (simp_all; omega)) | (simp_all [spMay]; done) | (simp_all [spMay]; omega) | skip
  · cases hcr
set_option maxHeartbeats 4000000 in
set_option maxRecDepth 20000 in
theorem okOver (hS : Hyp G) : ConOK Tryz.prog G 126 cOver := by
  refine seat_con hS.seat [(146, cSeen), (147, cOvr)] [] ⟨okSeen hS, okOvr hS, trivial⟩ Tryz.func126 rfl rfl rfl ?_
  intro rvs cr hcr hpre
  unfold cOver at hcr
  split at hcr
  · cases hcr
    refine ⟨⟨rfl, rfl, rfl⟩, fun c hc vs => ?_⟩
    repeat' (first | exact Bool.noConfusion ‹(!true) = true› | exact Bool.noConfusion ‹(!false) = false› | (intro h; exact h) | (intro h; rw [h]; rfl) | (intro h1 h2; rw [h1, h2]; rfl) | (intro _; assumption) | (intro _; exact rfl) | (intro h; exact Bool.noConfusion (h.symm.trans ‹_ = false›)) | refine ⟨fun _ => ?_, fun _ => ?_⟩ | refine ⟨?_⟩ | refine ⟨?_, ?_⟩ | fail)
    all_goals first | exact rfl | (refine chk_i ?_; simp_all [spOver]; done) | (refine chk_i ?_; simp only [spOver, decide_eq_true_eq, decide_eq_false_iff_not, Bool.not_eq_true', Bool.not_eq_false', Bool.or_eq_true, Bool.or_eq_false_iff, Bool.and_eq_true, Bool.and_eq_false_iff] at *; (repeat' split) <;> first | rfl | omega | (simp_all; done) | (simp_all; omega)) | (refine chk_b ?_; simp_all [spOver]; done) | (refine chk_b ?_; simp only [spOver, decide_eq_true_eq, decide_eq_false_iff_not, Bool.not_eq_true', Bool.not_eq_false', Bool.or_eq_true, Bool.or_eq_false_iff, Bool.and_eq_true, Bool.and_eq_false_iff] at *; (repeat' split) <;> first | rfl | omega | (simp_all; done) | (simp_all; omega)) | (refine chk_s ?_; simp_all [spOver]; done) | (refine chk_s ?_; simp only [spOver, decide_eq_true_eq, decide_eq_false_iff_not, Bool.not_eq_true', Bool.not_eq_false', Bool.or_eq_true, Bool.or_eq_false_iff, Bool.and_eq_true, Bool.and_eq_false_iff] at *; (repeat' split) <;> first | rfl | omega | (simp_all; done) | (simp_all; omega)) | (simp_all [spOver]; done) | (simp_all [spOver]; omega) | skip
  · cases hcr
end
end Go.X

namespace Go.X
open Go Go.Proofs

def rtS (s : BS) : RT := .agg [.a (.i .u64 (.ofNat s.1)), .a (.i .u64 (.ofNat s.2))]
def cOne : Con
  | [.a (.i .i64 n)] => some ⟨[], rtS (spOne n), [], []⟩
  | _ => none
def cOr : Con
  | [.agg [.a (.i .u64 a0), .a (.i .u64 a1)], .agg [.a (.i .u64 b0), .a (.i .u64 b1)]] => some ⟨[UI a0, UI a1, UI b0, UI b1], rtS (spOr (a0.toNat, a1.toNat) (b0.toNat, b1.toNat)), [], []⟩
  | _ => none
def cMinus : Con
  | [.agg [.a (.i .u64 a0), .a (.i .u64 a1)], .agg [.a (.i .u64 b0), .a (.i .u64 b1)]] => some ⟨[UI a0, UI a1, UI b0, UI b1], rtS (spMinus (a0.toNat, a1.toNat) (b0.toNat, b1.toNat)), [], []⟩
  | _ => none
def cWith : Con
  | [.agg [.a (.i .u64 a0), .a (.i .u64 a1)], .a (.i .i64 n)] => some ⟨[UI a0, UI a1], rtS (spWith (a0.toNat, a1.toNat) n), [], []⟩
  | _ => none
def cWithout : Con
  | [.agg [.a (.i .u64 a0), .a (.i .u64 a1)], .a (.i .i64 n)] => some ⟨[UI a0, UI a1], rtS (spWithout (a0.toNat, a1.toNat) n), [], []⟩
  | _ => none
def cPlain : Con
  | [.agg [.a (.i .u64 a0), .a (.i .u64 a1)]] => some ⟨[UI a0, UI a1], rtS (spPlain (a0.toNat, a1.toNat)), [], []⟩
  | _ => none
def cTz : Con
  | [.a (.i .u64 x)] => some ⟨[UI x], .a (.i .i64 (.ofNat (Lib.ctz 64 x.toNat))), [], []⟩
  | _ => none
def cFirst : Con
  | [.agg [.a (.i .u64 a0), .a (.i .u64 a1)]] => some ⟨[UI a0, UI a1], .a (.i .i64 (spFirst (a0.toNat, a1.toNat))), [], []⟩
  | _ => none
def cEach : Con
  | [.agg [.a (.i .u64 a0), .a (.i .u64 a1)]] => some ⟨[], .fn 116 [.box 68 [.a (.i .u64 a0), .a (.i .u64 a1)]], [], []⟩
  | _ => none

theorem shl64 {n : Int} (h : 0 ≤ n) (h' : n < 45) : IntKind.u64.wrap (1 * 2 ^ min n.toNat IntKind.u64.bits) = Int.ofNat (2 ^ n.toNat) := by
  have h1 : min n.toNat IntKind.u64.bits = n.toNat := Nat.min_eq_left (by show n.toNat ≤ 64; omega)
  have h2 : 2 ^ n.toNat < 2 ^ 45 := Nat.pow_lt_pow_right (by decide) (by omega)
  rw [h1, IntKind.wrap_u64, Int.one_mul]
  have h3 : ((2 : Int) ^ n.toNat) = ((2 ^ n.toNat : Nat) : Int) := by simp
  rw [h3]
  show _ = ((2 ^ n.toNat : Nat) : Int)
  generalize 2 ^ n.toNat = m at h2
  have : m < 35184372088832 := h2
  omega
section
variable {G : Nat → World → Prop}
set_option maxHeartbeats 4000000 in
set_option maxRecDepth 20000 in
theorem okOne (hS : Hyp G) : ConOK Tryz.prog G 114 cOne := by
  refine seat_con hS.seat [] [] trivial Tryz.func114 rfl rfl rfl ?_
  intro rvs cr hcr hpre
  unfold cOne at hcr
  split at hcr
  · cases hcr
    refine ⟨⟨rfl, rfl, rfl⟩, fun c hc vs => ?_⟩
    repeat' (first | exact Bool.noConfusion ‹(!true) = true› | exact Bool.noConfusion ‹(!false) = false› | (intro h; exact h) | (intro h; rw [h]; rfl) | (intro h1 h2; rw [h1, h2]; rfl) | (intro _; assumption) | (intro _; exact rfl) | (intro h; exact Bool.noConfusion (h.symm.trans ‹_ = false›)) | refine ⟨fun _ => ?_, fun _ => ?_⟩ | refine ⟨?_⟩ | refine ⟨?_, ?_⟩ | fail)
    all_goals first | (refine chk_i ?_) | (refine chk_b ?_) | (refine chk_s ?_) | exact trivial | exact rfl | skip
    · rename_i n _ h; rw [spOne, if_pos h]; rfl
    · rename_i n _ h; rw [spOne, if_pos h]; rfl
    · rename_i n _ h1 h2; simp at h1; omega
    · rename_i n _ h1 h2
      rw [spOne, h1, if_neg (by simp), if_pos (by simpa using h2)]
      simp at h1 h2
      exact shl64 (by omega) (by omega)
    · rename_i n _ h1 h2
      rw [spOne, h1, if_neg (by simp), if_pos (by simpa using h2)]; rfl
    · rename_i n _ h1 h2; simp at h1 h2; rw [wrap64 (by omega) (by omega)]; omega
    · rename_i n _ h1 h2
      rw [spOne, h1, if_neg (by simp), if_neg (by simpa using h2)]; rfl
    · rename_i n _ h1 h2
      rw [spOne, h1, if_neg (by simp), if_neg (by simpa using h2)]
      simp at h1 h2
      rw [wrap64 (by omega) (by omega)]
      exact shl64 (by omega) (by omega)
  · cases hcr
set_option maxHeartbeats 4000000 in
set_option maxRecDepth 20000 in
theorem okPlain (hS : Hyp G) : ConOK Tryz.prog G 117 cPlain := by
  refine seat_con hS.seat [] [] trivial Tryz.func117 rfl rfl rfl ?_
  intro rvs cr hcr hpre
  unfold cPlain at hcr
  split at hcr
  · cases hcr
    simp only [List.mem_cons, List.not_mem_nil, or_false, forall_eq_or_imp, forall_eq] at hpre
    refine ⟨⟨rfl, rfl, rfl⟩, fun c hc vs => ?_⟩
    repeat' (first | exact Bool.noConfusion ‹(!true) = true› | exact Bool.noConfusion ‹(!false) = false› | (intro h; exact h) | (intro h; rw [h]; rfl) | (intro h1 h2; rw [h1, h2]; rfl) | (intro _; assumption) | (intro _; exact rfl) | (intro h; exact Bool.noConfusion (h.symm.trans ‹_ = false›)) | refine ⟨fun _ => ?_, fun _ => ?_⟩ | refine ⟨?_⟩ | refine ⟨?_, ?_⟩ | fail)
    all_goals first | (refine chk_i ?_) | (refine chk_b ?_) | (refine chk_s ?_) | exact trivial | exact rfl | skip
    · exact and_nat hpre.1 UI_M
    · exact and_nat hpre.2 UI_M
  · cases hcr
set_option maxHeartbeats 4000000 in
set_option maxRecDepth 20000 in
theorem okOr (hS : Hyp G) : ConOK Tryz.prog G 113 cOr := by
  refine seat_con hS.seat [(117, cPlain)] [] ⟨okPlain hS, trivial⟩ Tryz.func113 rfl rfl rfl ?_
  intro rvs cr hcr hpre
  unfold cOr at hcr
  split at hcr
  · cases hcr
    simp only [List.mem_cons, List.not_mem_nil, or_false, forall_eq_or_imp, forall_eq] at hpre
    refine ⟨⟨rfl, rfl, rfl⟩, fun c hc vs => ?_⟩
    repeat' (first | exact Bool.noConfusion ‹(!true) = true› | exact Bool.noConfusion ‹(!false) = false› | (intro h; exact h) | (intro h; rw [h]; rfl) | (intro h1 h2; rw [h1, h2]; rfl) | (intro _; assumption) | (intro _; exact rfl) | (intro h; exact Bool.noConfusion (h.symm.trans ‹_ = false›)) | refine ⟨fun _ => ?_, fun _ => ?_⟩ | refine ⟨?_⟩ | refine ⟨?_, ?_⟩ | fail)
    all_goals first | (refine chk_i ?_) | (refine chk_b ?_) | (refine chk_s ?_) | exact trivial | exact rfl | skip
    · exact UI_or hpre.1 hpre.2.2.1
    · exact UI_or hpre.2.1 hpre.2.2.2
    · rw [or_nat hpre.1 hpre.2.2.1, or_nat hpre.2.1 hpre.2.2.2]; rfl
    · rw [or_nat hpre.1 hpre.2.2.1, or_nat hpre.2.1 hpre.2.2.2]; rfl
  · cases hcr
set_option maxHeartbeats 4000000 in
set_option maxRecDepth 20000 in
theorem okMinus (hS : Hyp G) : ConOK Tryz.prog G 141 cMinus := by
  refine seat_con hS.seat [(117, cPlain)] [] ⟨okPlain hS, trivial⟩ Tryz.func141 rfl rfl rfl ?_
  intro rvs cr hcr hpre
  unfold cMinus at hcr
  split at hcr
  · cases hcr
    simp only [List.mem_cons, List.not_mem_nil, or_false, forall_eq_or_imp, forall_eq] at hpre
    refine ⟨⟨rfl, rfl, rfl⟩, fun c hc vs => ?_⟩
    repeat' (first | exact Bool.noConfusion ‹(!true) = true› | exact Bool.noConfusion ‹(!false) = false› | (intro h; exact h) | (intro h; rw [h]; rfl) | (intro h1 h2; rw [h1, h2]; rfl) | (intro _; assumption) | (intro _; exact rfl) | (intro h; exact Bool.noConfusion (h.symm.trans ‹_ = false›)) | refine ⟨fun _ => ?_, fun _ => ?_⟩ | refine ⟨?_⟩ | refine ⟨?_, ?_⟩ | fail)
    all_goals first | (refine chk_i ?_) | (refine chk_b ?_) | (refine chk_s ?_) | exact trivial | exact rfl | skip
    · exact UI_andNot hpre.1 hpre.2.2.1
    · exact UI_andNot hpre.2.1 hpre.2.2.2
    · rw [andNot_nat hpre.1 hpre.2.2.1, andNot_nat hpre.2.1 hpre.2.2.2]; rfl
    · rw [andNot_nat hpre.1 hpre.2.2.1, andNot_nat hpre.2.1 hpre.2.2.2]; rfl
  · cases hcr
set_option maxHeartbeats 4000000 in
set_option maxRecDepth 20000 in
theorem okWith (hS : Hyp G) : ConOK Tryz.prog G 87 cWith := by
  refine seat_con hS.seat [(114, cOne), (113, cOr)] [] ⟨okOne hS, okOr hS, trivial⟩ Tryz.func87 rfl rfl rfl ?_
  intro rvs cr hcr hpre
  unfold cWith at hcr
  split at hcr
  · cases hcr
    simp only [List.mem_cons, List.not_mem_nil, or_false, forall_eq_or_imp, forall_eq] at hpre
    refine ⟨⟨rfl, rfl, rfl⟩, fun c hc vs => ?_⟩
    repeat' (first | exact Bool.noConfusion ‹(!true) = true› | exact Bool.noConfusion ‹(!false) = false› | (intro h; exact h) | (intro h; rw [h]; rfl) | (intro h1 h2; rw [h1, h2]; rfl) | (intro _; assumption) | (intro _; exact rfl) | (intro h; exact Bool.noConfusion (h.symm.trans ‹_ = false›)) | refine ⟨fun _ => ?_, fun _ => ?_⟩ | refine ⟨?_⟩ | refine ⟨?_, ?_⟩ | fail)
    all_goals first | (refine chk_i ?_) | (refine chk_b ?_) | (refine chk_s ?_) | exact trivial | exact rfl | skip
    · exact hpre.1
    · exact hpre.2
    · exact UI.nat (by have := one_lt ‹Int›; omega)
    · exact UI.nat (by have := one_lt ‹Int›; omega)
    · rfl
    · rfl
  · cases hcr
set_option maxHeartbeats 4000000 in
set_option maxRecDepth 20000 in
theorem okWithout (hS : Hyp G) : ConOK Tryz.prog G 119 cWithout := by
  refine seat_con hS.seat [(114, cOne), (141, cMinus)] [] ⟨okOne hS, okMinus hS, trivial⟩ Tryz.func119 rfl rfl rfl ?_
  intro rvs cr hcr hpre
  unfold cWithout at hcr
  split at hcr
  · cases hcr
    simp only [List.mem_cons, List.not_mem_nil, or_false, forall_eq_or_imp, forall_eq] at hpre
    refine ⟨⟨rfl, rfl, rfl⟩, fun c hc vs => ?_⟩
    repeat' (first | exact Bool.noConfusion ‹(!true) = true› | exact Bool.noConfusion ‹(!false) = false› | (intro h; exact h) | (intro h; rw [h]; rfl) | (intro h1 h2; rw [h1, h2]; rfl) | (intro _; assumption) | (intro _; exact rfl) | (intro h; exact Bool.noConfusion (h.symm.trans ‹_ = false›)) | refine ⟨fun _ => ?_, fun _ => ?_⟩ | refine ⟨?_⟩ | refine ⟨?_, ?_⟩ | fail)
    all_goals first | (refine chk_i ?_) | (refine chk_b ?_) | (refine chk_s ?_) | exact trivial | exact rfl | skip
    · exact hpre.1
    · exact hpre.2
    · exact UI.nat (by have := one_lt ‹Int›; omega)
    · exact UI.nat (by have := one_lt ‹Int›; omega)
    · rfl
    · rfl
  · cases hcr
theorem okTz (hS : Hyp G) : ConOK Tryz.prog G 140 cTz := by
  refine con_ext Tryz.func140 rfl rfl ?_
  intro rvs cr hcr hpre
  unfold cTz at hcr
  split at hcr
  · cases hcr
    rename_i x
    have hx := hpre _ (List.mem_singleton.2 rfl)
    obtain ⟨n, rfl⟩ := Int.eq_ofNat_of_zero_le hx.lo
    have hx2 := hx.hi
    refine ⟨_, _, _, rfl, rfl, fun _ _ => rfl, fun g0 w _ hG => (Tryz.bits_TrailingZeros64 n (by omega) w (fun _ => hS.tab g0 w hG)).mono ?_⟩
    rintro e w' ⟨rfl, rfl⟩
    exact ⟨rfl, ⟨rfl, rfl, rfl, Nat.le_refl _, fun _ _ => rfl⟩⟩
  · cases hcr
set_option maxHeartbeats 4000000 in
set_option maxRecDepth 20000 in
theorem okFirst (hS : Hyp G) : ConOK Tryz.prog G 118 cFirst := by
  refine seat_con hS.seat [(117, cPlain), (140, cTz)] [] ⟨okPlain hS, okTz hS, trivial⟩ Tryz.func118 rfl rfl rfl ?_
  intro rvs cr hcr hpre
  unfold cFirst at hcr
  split at hcr
  · cases hcr
    simp only [List.mem_cons, List.not_mem_nil, or_false, forall_eq_or_imp, forall_eq] at hpre
    refine ⟨⟨rfl, rfl, rfl⟩, fun c hc vs => ?_⟩
    repeat' (first | exact Bool.noConfusion ‹(!true) = true› | exact Bool.noConfusion ‹(!false) = false› | (intro h; exact h) | (intro h; rw [h]; rfl) | (intro h1 h2; rw [h1, h2]; rfl) | (intro _; assumption) | (intro _; exact rfl) | (intro h; exact Bool.noConfusion (h.symm.trans ‹_ = false›)) | refine ⟨fun _ => ?_, fun _ => ?_⟩ | refine ⟨?_⟩ | refine ⟨?_, ?_⟩ | fail)
    all_goals first | (refine chk_i ?_) | (refine chk_b ?_) | (refine chk_s ?_) | exact trivial | exact rfl | skip
    all_goals obtain ⟨ha, hb⟩ := hpre
    · exact ha
    · exact hb
    · exact UI.nat (Nat.lt_trans (plain_lt _).1 (by decide))
    · rename_i h; exact first1 _ h
    · exact UI.nat (Nat.lt_trans (plain_lt _).2 (by decide))
    · rename_i h1 h2; exact first2 _ h1 h2
    · rename_i h1 h2; exact first3 _ h1 h2
  · cases hcr
set_option maxHeartbeats 4000000 in
set_option maxRecDepth 20000 in
theorem okEach (hS : Hyp G) : ConOK Tryz.prog G 89 cEach := by
  refine seat_con hS.seat [] [] trivial Tryz.func89 rfl rfl rfl ?_
  intro rvs cr hcr hpre
  unfold cEach at hcr
  split at hcr
  · cases hcr
    simp only [List.mem_cons, List.not_mem_nil, or_false, forall_eq_or_imp, forall_eq] at hpre
    refine ⟨⟨rfl, rfl, rfl⟩, fun c hc vs => ?_⟩
    repeat' (first | exact Bool.noConfusion ‹(!true) = true› | exact Bool.noConfusion ‹(!false) = false› | (intro h; exact h) | (intro h; rw [h]; rfl) | (intro h1 h2; rw [h1, h2]; rfl) | (intro _; assumption) | (intro _; exact rfl) | (intro h; exact Bool.noConfusion (h.symm.trans ‹_ = false›)) | refine ⟨fun _ => ?_, fun _ => ?_⟩ | refine ⟨?_⟩ | refine ⟨?_, ?_⟩ | fail)
    all_goals first | (refine chk_i ?_) | (refine chk_b ?_) | (refine chk_s ?_) | exact trivial | exact rfl | skip
    · rfl
    · rfl
  · cases hcr
end
end Go.X

namespace Go.X
open Go Go.Proofs

def cList : Con
  | [.agg [.a (.i .u64 a0), .a (.i .u64 a1)]] => some ⟨[UI a0, UI a1], .row ⟨3, .int .i64, spList (a0.toNat, a1.toNat), true⟩, [], []⟩
  | _ => none
section
variable {G : Nat → World → Prop}
set_option maxHeartbeats 4000000 in
set_option maxRecDepth 20000 in
theorem okList (hS : Hyp G) : ConOK Tryz.prog G 65 cList := by
  refine seat_con hS.seat [(89, cEach), (117, cPlain), (118, cFirst), (119, cWithout)] [] ⟨okEach hS, okPlain hS, okFirst hS, okWithout hS, trivial⟩ Tryz.func65 rfl rfl rfl ?_
  intro rvs cr hcr hpre
  unfold cList at hcr
  split at hcr
  · rename_i x a0 a1
    cases hcr
    simp only [List.mem_cons, List.not_mem_nil, or_false, forall_eq_or_imp, forall_eq] at hpre
    refine ⟨⟨rfl, rfl, rfl⟩, fun c hc vs => ?_⟩
    repeat' (first | exact Bool.noConfusion ‹(!true) = true› | exact Bool.noConfusion ‹(!false) = false› | (intro h; exact h) | (intro h; rw [h]; rfl) | (intro h1 h2; rw [h1, h2]; rfl) | (intro _; assumption) | (intro _; exact rfl) | (intro h; exact Bool.noConfusion (h.symm.trans ‹_ = false›)) | refine ⟨fun _ => ?_, fun _ => ?_⟩ | refine ⟨?_⟩ | refine ⟨?_, ?_⟩ | fail)
    refine trOps_none rfl (inl_one false hS.seat.tt rfl rfl Tryz.func88 rfl rfl ?_)
    intro cI hk hr
    refine (vs.kin hk).go rfl ?_
    repeat' (first | exact Bool.noConfusion ‹(!true) = true› | exact Bool.noConfusion ‹(!false) = false› | (intro h; exact h) | (intro h; rw [h]; rfl) | (intro h1 h2; rw [h1, h2]; rfl) | (intro _; assumption) | (intro _; exact rfl) | (intro h; exact Bool.noConfusion (h.symm.trans ‹_ = false›)) | refine ⟨fun _ => ?_, fun _ => ?_⟩ | refine ⟨?_⟩ | refine ⟨?_, ?_⟩ | fail)
    refine trOps_none rfl (inl_one false hS.seat.tt rfl rfl Tryz.func115 rfl rfl ?_)
    intro cI2 hk2 hr2
    refine ((vs.kin hk).kin hk2).go rfl ?_
    repeat' (first | exact Bool.noConfusion ‹(!true) = true› | exact Bool.noConfusion ‹(!false) = false› | (intro h; exact h) | (intro h; rw [h]; rfl) | (intro h1 h2; rw [h1, h2]; rfl) | (intro _; assumption) | (intro _; exact rfl) | (intro h; exact Bool.noConfusion (h.symm.trans ‹_ = false›)) | refine ⟨fun _ => ?_, fun _ => ?_⟩ | refine ⟨?_⟩ | refine ⟨?_, ?_⟩ | fail)
    refine Tr_nilBox 3 (.int .i64) 2 0 rfl rfl (by decide) ?_
    refine tr_range hr2 rfl Tryz.func116 rfl rfl rfl (fun c2 hk3 hr3 hI => ?_)
    refine (((vs.kin hk).kin hk2).kin hk3).go rfl ?_
    repeat' (first | exact Bool.noConfusion ‹(!true) = true› | exact Bool.noConfusion ‹(!false) = false› | (intro h; exact h) | (intro h; rw [h]; rfl) | (intro h1 h2; rw [h1, h2]; rfl) | (intro _; assumption) | (intro _; exact rfl) | (intro h; exact Bool.noConfusion (h.symm.trans ‹_ = false›)) | refine ⟨fun _ => ?_, fun _ => ?_⟩ | refine ⟨?_⟩ | refine ⟨?_, ?_⟩ | fail)
    · exact hpre.1
    · exact hpre.2
    refine Tr_loopH (α := BS × List Int) (fun _ => []) (fun x => [(1, some ⟨68, [.i .u64 (.ofNat x.1.1), .i .u64 (.ofNat x.1.2)], true⟩)]) (fun x => [(0, some ⟨3, .int .i64, x.2, true⟩)])
      (fun x => (x.1.1 < 2 ^ 45 ∧ x.1.2 < 2 ^ 45) ∧ x.2 ++ spList x.1 = spList (a0.toNat, a1.toNat)) (fun x => (spList x.1).length) (spPlain (a0.toNat, a1.toNat), []) ?_ ?_ ?_
    · exact ⟨plain_lt _, by rw [List.nil_append, spList_plain]⟩
    · (refine ⟨?_, rfl, ?_, ?_, ?_, rfl⟩ <;> repeat' (first | exact trivial | (refine ⟨rfl, ?_⟩) | fail))
    · rintro ⟨b, acc⟩ ⟨hb, hacc⟩
      have hlen : acc.length ≤ 90 := by
        have h1 := congrArg List.length hacc
        have h2 := spList_len (a0.toNat, a1.toNat)
        simp only [List.length_append] at h1
        omega
      refine (((vs.kin hk).kin hk2).kin hk3).go rfl ?_
      repeat' (first | exact Bool.noConfusion ‹(!true) = true› | exact Bool.noConfusion ‹(!false) = false› | (intro h; exact h) | (intro h; rw [h]; rfl) | (intro h1 h2; rw [h1, h2]; rfl) | (intro _; assumption) | (intro _; exact rfl) | (intro h; exact Bool.noConfusion (h.symm.trans ‹_ = false›)) | refine ⟨fun _ => ?_, fun _ => ?_⟩ | refine ⟨?_⟩ | refine ⟨?_, ?_⟩ | fail)
      · exact UI.nat (Nat.lt_trans hb.1 (by decide))
      · exact UI.nat (Nat.lt_trans hb.2 (by decide))
      · rename_i hne
        refine trOps_none rfl (yield_one false hI rfl rfl rfl rfl ?_)
        intro c3 hk4
        refine ((((vs.kin hk).kin hk2).kin hk3).kin hk4).go rfl ?_
        repeat' (first | exact Bool.noConfusion ‹(!true) = true› | exact Bool.noConfusion ‹(!false) = false› | (intro h; exact h) | (intro h; rw [h]; rfl) | (intro h1 h2; rw [h1, h2]; rfl) | (intro _; assumption) | (intro _; exact rfl) | (intro h; exact Bool.noConfusion (h.symm.trans ‹_ = false›)) | refine ⟨fun _ => ?_, fun _ => ?_⟩ | refine ⟨?_⟩ | refine ⟨?_, ?_⟩ | fail)
        refine ((((vs.kin hk).kin hk2).kin hk3).kin hk4).go rfl ?_
        repeat' (first | exact Bool.noConfusion ‹(!true) = true› | exact Bool.noConfusion ‹(!false) = false› | (intro h; exact h) | (intro h; rw [h]; rfl) | (intro h1 h2; rw [h1, h2]; rfl) | (intro _; assumption) | (intro _; exact rfl) | (intro h; exact Bool.noConfusion (h.symm.trans ‹_ = false›)) | refine ⟨fun _ => ?_, fun _ => ?_⟩ | refine ⟨?_⟩ | refine ⟨?_, ?_⟩ | fail)
        · show acc.length + 1 ≤ 4000000000; omega
        · show (acc.length + 1) * 8 ≤ 140737488355328; omega
        refine (((vs.kin hk).kin hk2).kin hk3).on ?_
        repeat' (first | exact Bool.noConfusion ‹(!true) = true› | exact Bool.noConfusion ‹(!false) = false› | (intro h; exact h) | (intro h; rw [h]; rfl) | (intro h1 h2; rw [h1, h2]; rfl) | (intro _; assumption) | (intro _; exact rfl) | (intro h; exact Bool.noConfusion (h.symm.trans ‹_ = false›)) | refine ⟨fun _ => ?_, fun _ => ?_⟩ | refine ⟨?_⟩ | refine ⟨?_, ?_⟩ | fail)
        · exact UI.nat (Nat.lt_trans hb.1 (by decide))
        · exact UI.nat (Nat.lt_trans hb.2 (by decide))
        have h0 : b ≠ (0, 0) := fun h => by rw [h] at hne; simp [EK.eqb] at hne
        have hst := spList_step hb h0
        refine Again.mk (spWithout b (spFirst b), acc ++ [spFirst b]) ⟨minus_lt _ _, ?_⟩ ?_ ?_
        · show (acc ++ [spFirst b]) ++ spList (spWithout b (spFirst b)) = _
          rw [← hacc, List.append_assoc]
          show acc ++ (spFirst b :: spList (spWithout b (spFirst b))) = acc ++ spList b
          rw [hst]
        · show (spList (spWithout b (spFirst b))).length < (spList b).length
          rw [hst]; simp
        · (refine ⟨?_, rfl, ?_, ?_, ?_, rfl⟩ <;> repeat' (first | exact trivial | (refine ⟨rfl, ?_⟩) | fail))
      · rename_i he
        have h0 : b = (0, 0) := by
          obtain ⟨u, v⟩ := b
          simp [EK.eqb] at he
          have h1 : u = 0 := by omega
          have h2 : v = 0 := by omega
          rw [h1, h2]
        have hacc' : acc = spList (a0.toNat, a1.toNat) := by
          rw [← hacc]; show acc = acc ++ spList b
          rw [h0, spList_zero, List.append_nil]
        refine (vs.kin hk).on ?_
        repeat' (first | exact Bool.noConfusion ‹(!true) = true› | exact Bool.noConfusion ‹(!false) = false› | (intro h; exact h) | (intro h; rw [h]; rfl) | (intro h1 h2; rw [h1, h2]; rfl) | (intro _; assumption) | (intro _; exact rfl) | (intro h; exact Bool.noConfusion (h.symm.trans ‹_ = false›)) | refine ⟨fun _ => ?_, fun _ => ?_⟩ | refine ⟨?_⟩ | refine ⟨?_, ?_⟩ | fail)
        refine vs.on ?_
        repeat' (first | exact Bool.noConfusion ‹(!true) = true› | exact Bool.noConfusion ‹(!false) = false› | (intro h; exact h) | (intro h; rw [h]; rfl) | (intro h1 h2; rw [h1, h2]; rfl) | (intro _; assumption) | (intro _; exact rfl) | (intro h; exact Bool.noConfusion (h.symm.trans ‹_ = false›)) | refine ⟨fun _ => ?_, fun _ => ?_⟩ | refine ⟨?_⟩ | refine ⟨?_, ?_⟩ | fail)
        · show (⟨3, .int .i64, acc, true⟩ : Row) = ⟨3, .int .i64, spList (a0.toNat, a1.toNat), true⟩
          rw [hacc']
        · rfl
  · cases hcr
end
end Go.X

namespace Go.X
open Go Go.Proofs

def cPieces : Con
  | [.a (.s p), .a (.i .i64 side)] => some ⟨[], .row ⟨3, .int .i64, spList (spSet p (spOf side)), true⟩, [], []⟩
  | _ => none
def cFind : Con
  | [.a (.s p), .a (.i .u8 c)] => some ⟨[], .row ⟨3, .int .i64, spList (spSet p (· == c)), true⟩, [], []⟩
  | _ => none
def cPieces1 : Con
  | [.a (.i .u8 c), .box _ 0 _ _ [.a (.i .i64 side)]] => some ⟨[], .a (.b (spOf side c)), [], []⟩
  | _ => none
def cFind1 : Con
  | [.a (.i .u8 x), .box _ 0 _ _ [.a (.i .u8 c)]] => some ⟨[], .a (.b (x == c)), [], []⟩
  | _ => none
section
variable {G : Nat → World → Prop}
set_option maxHeartbeats 4000000 in
set_option maxRecDepth 20000 in
theorem okPieces1 (hS : Hyp G) : ConOK Tryz.prog G 64 cPieces1 := by
  refine seat_con hS.seat [(29, cSide)] [] ⟨okSide hS, trivial⟩ Tryz.func64 rfl rfl rfl ?_
  intro rvs cr hcr hpre
  unfold cPieces1 at hcr
  split at hcr
  · cases hcr
    refine ⟨⟨rfl, rfl, rfl⟩, fun c hc vs => ?_⟩
    repeat' (first | exact Bool.noConfusion ‹(!true) = true› | exact Bool.noConfusion ‹(!false) = false› | (intro h; exact h) | (intro h; rw [h]; rfl) | (intro h1 h2; rw [h1, h2]; rfl) | (intro _; assumption) | (intro _; exact rfl) | (intro h; exact Bool.noConfusion (h.symm.trans ‹_ = false›)) | refine ⟨fun _ => ?_, fun _ => ?_⟩ | refine ⟨?_⟩ | refine ⟨?_, ?_⟩ | fail)
    all_goals first | exact rfl | (refine chk_i ?_; simp_all [spOf]; done) | (refine chk_i ?_; simp only [spOf, decide_eq_true_eq, decide_eq_false_iff_not, Bool.not_eq_true', Bool.not_eq_false', Bool.or_eq_true, Bool.or_eq_false_iff, Bool.and_eq_true, Bool.and_eq_false_iff] at *; (repeat' split) <;> first | rfl | omega | (simp_all; done) | (simp_all; omega)) | (refine chk_b ?_; simp_all [spOf]; done) | (refine chk_b ?_; simp only [spOf, decide_eq_true_eq, decide_eq_false_iff_not, Bool.not_eq_true', Bool.not_eq_false', Bool.or_eq_true, Bool.or_eq_false_iff, Bool.and_eq_true, Bool.and_eq_false_iff] at *; (repeat' split) <;> first | rfl | omega | (simp_all; done) | (simp_all; omega)) | (refine chk_s ?_; simp_all [spOf]; done) | (refine chk_s ?_; simp only [spOf, decide_eq_true_eq, decide_eq_false_iff_not, Bool.not_eq_true', Bool.not_eq_false', Bool.or_eq_true, Bool.or_eq_false_iff, Bool.and_eq_true, Bool.and_eq_false_iff] at *; (repeat' split) <;> first | rfl | omega | (simp_all; done) | (simp_all; omega)) | (simp_all [spOf]; done) | (simp_all [spOf]; omega) | skip
  · cases hcr
set_option maxHeartbeats 4000000 in
set_option maxRecDepth 20000 in
theorem okFind1 (hS : Hyp G) : ConOK Tryz.prog G 138 cFind1 := by
  refine seat_con hS.seat [] [] trivial Tryz.func138 rfl rfl rfl ?_
  intro rvs cr hcr hpre
  unfold cFind1 at hcr
  split at hcr
  · cases hcr
    refine ⟨⟨rfl, rfl, rfl⟩, fun c hc vs => ?_⟩
    repeat' (first | exact Bool.noConfusion ‹(!true) = true› | exact Bool.noConfusion ‹(!false) = false› | (intro h; exact h) | (intro h; rw [h]; rfl) | (intro h1 h2; rw [h1, h2]; rfl) | (intro _; assumption) | (intro _; exact rfl) | (intro h; exact Bool.noConfusion (h.symm.trans ‹_ = false›)) | refine ⟨fun _ => ?_, fun _ => ?_⟩ | refine ⟨?_⟩ | refine ⟨?_, ?_⟩ | fail)
    all_goals first | exact rfl | (refine chk_i ?_; simp_all [id_eq]; done) | (refine chk_i ?_; simp only [id_eq, decide_eq_true_eq, decide_eq_false_iff_not, Bool.not_eq_true', Bool.not_eq_false', Bool.or_eq_true, Bool.or_eq_false_iff, Bool.and_eq_true, Bool.and_eq_false_iff] at *; (repeat' split) <;> first | rfl | omega | (simp_all; done) | (simp_all; omega)) | (refine chk_b ?_; simp_all [id_eq]; done) | (refine chk_b ?_; simp only [id_eq, decide_eq_true_eq, decide_eq_false_iff_not, Bool.not_eq_true', Bool.not_eq_false', Bool.or_eq_true, Bool.or_eq_false_iff, Bool.and_eq_true, Bool.and_eq_false_iff] at *; (repeat' split) <;> first | rfl | omega | (simp_all; done) | (simp_all; omega)) | (refine chk_s ?_; simp_all [id_eq]; done) | (refine chk_s ?_; simp only [id_eq, decide_eq_true_eq, decide_eq_false_iff_not, Bool.not_eq_true', Bool.not_eq_false', Bool.or_eq_true, Bool.or_eq_false_iff, Bool.and_eq_true, Bool.and_eq_false_iff] at *; (repeat' split) <;> first | rfl | omega | (simp_all; done) | (simp_all; omega)) | (simp_all [id_eq]; done) | (simp_all [id_eq]; omega) | skip
  · cases hcr
def cSetP : Con
  | [.a (.s p), .fn 64 [.box _ 0 3 _ [.a (.i .i64 v)]]] => some ⟨[], rtS (spSet p (spOf v)), [], []⟩
  | _ => none
set_option maxHeartbeats 4000000 in
set_option maxRecDepth 20000 in
theorem okSetP (hS : Hyp G) : ConOK Tryz.prog G 63 cSetP := by
  refine seat_con hS.seat [(51, cIs), (64, cPieces1), (87, cWith)] [] ⟨okIs hS, okPieces1 hS, okWith hS, trivial⟩ Tryz.func63 rfl rfl rfl ?_
  intro rvs cr hcr hpre
  unfold cSetP at hcr
  split at hcr
  · rename_i p id o v
    cases hcr
    refine ⟨⟨rfl, rfl, rfl⟩, fun c hc vs => ?_⟩
    repeat' (first | exact Bool.noConfusion ‹(!true) = true› | exact Bool.noConfusion ‹(!false) = false› | (intro h; exact h) | (intro h; rw [h]; rfl) | (intro h1 h2; rw [h1, h2]; rfl) | (intro _; assumption) | (intro _; exact rfl) | (intro h; exact Bool.noConfusion (h.symm.trans ‹_ = false›)) | refine ⟨fun _ => ?_, fun _ => ?_⟩ | refine ⟨?_⟩ | refine ⟨?_, ?_⟩ | fail)
    · rename_i his
      refine Tr_loopH (α := Nat) (fun i => [(9, .i .i64 (.ofNat i))]) (fun i => [(2, some ⟨68, [.i .u64 (.ofNat (spUpTo p (spOf v) i).1), .i .u64 (.ofNat (spUpTo p (spOf v) i).2)], true⟩)]) (fun _ => [])
        (fun i => i ≤ 90) (fun i => 90 - i) 0 (by omega) (by (refine ⟨?_, rfl, ?_, ?_, ?_, rfl⟩ <;> repeat' (first | exact trivial | (refine ⟨rfl, ?_⟩) | fail))) ?_
      intro i hi
      refine vs.go rfl ?_
      repeat' (first | exact Bool.noConfusion ‹(!true) = true› | exact Bool.noConfusion ‹(!false) = false› | (intro h; exact h) | (intro h; rw [h]; rfl) | (intro h1 h2; rw [h1, h2]; rfl) | (intro _; assumption) | (intro _; exact rfl) | (intro h; exact Bool.noConfusion (h.symm.trans ‹_ = false›)) | refine ⟨fun _ => ?_, fun _ => ?_⟩ | refine ⟨?_⟩ | refine ⟨?_, ?_⟩ | fail)
      · rename_i h; have := spIs_size his; simp at h; show (i : Int) < p.size; omega
      · exact UI.nat (Nat.lt_trans (upTo_lt _ _ _).1 (by decide))
      · exact UI.nat (Nat.lt_trans (upTo_lt _ _ _).2 (by decide))
      · rename_i h hf
        have h' : i < 90 := by simp at h; omega
        refine Again.mk (i + 1) (by omega) (by omega) ?_
        have e : spUpTo p (spOf v) (i + 1) = spWith (spUpTo p (spOf v) i) i := by
          rw [spUpTo, if_pos]; exact hf
        dsimp only
        rw [wrapS (by omega), e]
        (refine ⟨?_, rfl, ?_, ?_, ?_, rfl⟩ <;> repeat' (first | exact trivial | (refine ⟨rfl, ?_⟩) | fail))
      · rename_i h hf
        have h' : i < 90 := by simp at h; omega
        refine Again.mk (i + 1) (by omega) (by omega) ?_
        have e : spUpTo p (spOf v) (i + 1) = spUpTo p (spOf v) i := by
          rw [spUpTo, if_neg]; intro hh; exact Bool.noConfusion (hh.symm.trans hf)
        rw [wrapS (by omega), e]
        (refine ⟨?_, rfl, ?_, ?_, ?_, rfl⟩ <;> repeat' (first | exact trivial | (refine ⟨rfl, ?_⟩) | fail))
      all_goals
        rename_i h
        have h90 : i = 90 := by simp at h; omega
        subst h90
        have e : spSet p (spOf v) = spUpTo p (spOf v) 90 := by rw [spSet, if_pos his]
      · rw [e]; exact rfl
      · rw [e]; exact rfl
      · trivial
      · rfl
    all_goals
      rename_i his
      have e : spSet p (spOf v) = (0, 0) := by rw [spSet, his]; rfl
    · rw [e]; exact rfl
    · rw [e]; exact rfl
    · trivial
    · rfl
  · cases hcr
def cSetF : Con
  | [.a (.s p), .fn 138 [.box _ 0 5 _ [.a (.i .u8 v)]]] => some ⟨[], rtS (spSet p ((· == v))), [], []⟩
  | _ => none
set_option maxHeartbeats 4000000 in
set_option maxRecDepth 20000 in
theorem okSetF (hS : Hyp G) : ConOK Tryz.prog G 63 cSetF := by
  refine seat_con hS.seat [(51, cIs), (138, cFind1), (87, cWith)] [] ⟨okIs hS, okFind1 hS, okWith hS, trivial⟩ Tryz.func63 rfl rfl rfl ?_
  intro rvs cr hcr hpre
  unfold cSetF at hcr
  split at hcr
  · rename_i p id o v
    cases hcr
    refine ⟨⟨rfl, rfl, rfl⟩, fun c hc vs => ?_⟩
    repeat' (first | exact Bool.noConfusion ‹(!true) = true› | exact Bool.noConfusion ‹(!false) = false› | (intro h; exact h) | (intro h; rw [h]; rfl) | (intro h1 h2; rw [h1, h2]; rfl) | (intro _; assumption) | (intro _; exact rfl) | (intro h; exact Bool.noConfusion (h.symm.trans ‹_ = false›)) | refine ⟨fun _ => ?_, fun _ => ?_⟩ | refine ⟨?_⟩ | refine ⟨?_, ?_⟩ | fail)
    · rename_i his
      refine Tr_loopH (α := Nat) (fun i => [(9, .i .i64 (.ofNat i))]) (fun i => [(2, some ⟨68, [.i .u64 (.ofNat (spUpTo p ((· == v)) i).1), .i .u64 (.ofNat (spUpTo p ((· == v)) i).2)], true⟩)]) (fun _ => [])
        (fun i => i ≤ 90) (fun i => 90 - i) 0 (by omega) (by (refine ⟨?_, rfl, ?_, ?_, ?_, rfl⟩ <;> repeat' (first | exact trivial | (refine ⟨rfl, ?_⟩) | fail))) ?_
      intro i hi
      refine vs.go rfl ?_
      repeat' (first | exact Bool.noConfusion ‹(!true) = true› | exact Bool.noConfusion ‹(!false) = false› | (intro h; exact h) | (intro h; rw [h]; rfl) | (intro h1 h2; rw [h1, h2]; rfl) | (intro _; assumption) | (intro _; exact rfl) | (intro h; exact Bool.noConfusion (h.symm.trans ‹_ = false›)) | refine ⟨fun _ => ?_, fun _ => ?_⟩ | refine ⟨?_⟩ | refine ⟨?_, ?_⟩ | fail)
      · rename_i h; have := spIs_size his; simp at h; show (i : Int) < p.size; omega
      · exact UI.nat (Nat.lt_trans (upTo_lt _ _ _).1 (by decide))
      · exact UI.nat (Nat.lt_trans (upTo_lt _ _ _).2 (by decide))
      · rename_i h hf
        have h' : i < 90 := by simp at h; omega
        refine Again.mk (i + 1) (by omega) (by omega) ?_
        have e : spUpTo p ((· == v)) (i + 1) = spWith (spUpTo p ((· == v)) i) i := by
          rw [spUpTo, if_pos]; exact hf
        dsimp only
        rw [wrapS (by omega), e]
        (refine ⟨?_, rfl, ?_, ?_, ?_, rfl⟩ <;> repeat' (first | exact trivial | (refine ⟨rfl, ?_⟩) | fail))
      · rename_i h hf
        have h' : i < 90 := by simp at h; omega
        refine Again.mk (i + 1) (by omega) (by omega) ?_
        have e : spUpTo p ((· == v)) (i + 1) = spUpTo p ((· == v)) i := by
          rw [spUpTo, if_neg]; intro hh; exact Bool.noConfusion (hh.symm.trans hf)
        rw [wrapS (by omega), e]
        (refine ⟨?_, rfl, ?_, ?_, ?_, rfl⟩ <;> repeat' (first | exact trivial | (refine ⟨rfl, ?_⟩) | fail))
      all_goals
        rename_i h
        have h90 : i = 90 := by simp at h; omega
        subst h90
        have e : spSet p ((· == v)) = spUpTo p ((· == v)) 90 := by rw [spSet, if_pos his]
      · rw [e]; exact rfl
      · rw [e]; exact rfl
      · trivial
      · rfl
    all_goals
      rename_i his
      have e : spSet p ((· == v)) = (0, 0) := by rw [spSet, his]; rfl
    · rw [e]; exact rfl
    · rw [e]; exact rfl
    · trivial
    · rfl
  · cases hcr
set_option maxHeartbeats 4000000 in
set_option maxRecDepth 20000 in
theorem okPieces (hS : Hyp G) : ConOK Tryz.prog G 43 cPieces := by
  refine seat_con hS.seat [(63, cSetP), (65, cList)] [] ⟨okSetP hS, okList hS, trivial⟩ Tryz.func43 rfl rfl rfl ?_
  intro rvs cr hcr hpre
  unfold cPieces at hcr
  split at hcr
  · cases hcr
    refine ⟨⟨rfl, rfl, rfl⟩, fun c hc vs => ?_⟩
    repeat' (first | exact Bool.noConfusion ‹(!true) = true› | exact Bool.noConfusion ‹(!false) = false› | (intro h; exact h) | (intro h; rw [h]; rfl) | (intro h1 h2; rw [h1, h2]; rfl) | (intro _; assumption) | (intro _; exact rfl) | (intro h; exact Bool.noConfusion (h.symm.trans ‹_ = false›)) | refine ⟨fun _ => ?_, fun _ => ?_⟩ | refine ⟨?_⟩ | refine ⟨?_, ?_⟩ | fail)
    · exact UI.nat (Nat.lt_trans (set_lt _ _).1 (by decide))
    · exact UI.nat (Nat.lt_trans (set_lt _ _).2 (by decide))
    · rfl
    · rfl
  · cases hcr
set_option maxHeartbeats 4000000 in
set_option maxRecDepth 20000 in
theorem okFind (hS : Hyp G) : ConOK Tryz.prog G 99 cFind := by
  refine seat_con hS.seat [(63, cSetF), (65, cList)] [] ⟨okSetF hS, okList hS, trivial⟩ Tryz.func99 rfl rfl rfl ?_
  intro rvs cr hcr hpre
  unfold cFind at hcr
  split at hcr
  · cases hcr
    refine ⟨⟨rfl, rfl, rfl⟩, fun c hc vs => ?_⟩
    repeat' (first | exact Bool.noConfusion ‹(!true) = true› | exact Bool.noConfusion ‹(!false) = false› | (intro h; exact h) | (intro h; rw [h]; rfl) | (intro h1 h2; rw [h1, h2]; rfl) | (intro _; assumption) | (intro _; exact rfl) | (intro h; exact Bool.noConfusion (h.symm.trans ‹_ = false›)) | refine ⟨fun _ => ?_, fun _ => ?_⟩ | refine ⟨?_⟩ | refine ⟨?_, ?_⟩ | fail)
    · exact UI.nat (Nat.lt_trans (set_lt _ _).1 (by decide))
    · exact UI.nat (Nat.lt_trans (set_lt _ _).2 (by decide))
    · rfl
    · rfl
  · cases hcr
end
end Go.X

namespace Go.X
open Go Go.Proofs

def cIs0 : Con
  | [.a (.i .i64 n)] => some ⟨[], .a (.b (spIsSquare n)), [], []⟩
  | _ => none
def cAllowed1 : Con
  | [.a (.i .i64 n), .box _ 0 _ _ [.a (.s _), .a (.i .i64 _), .a (.i .u8 c)]] => some ⟨[], .a (.b (!spMay c n)), [], []⟩
  | _ => none
section
variable {G : Nat → World → Prop}
set_option maxHeartbeats 4000000 in
set_option maxRecDepth 20000 in
theorem okAllowed1 (hS : Hyp G) : ConOK Tryz.prog G 142 cAllowed1 := by
  refine seat_con hS.seat [(143, cMay)] [] ⟨okMay hS, trivial⟩ Tryz.func142 rfl rfl rfl ?_
  intro rvs cr hcr hpre
  unfold cAllowed1 at hcr
  split at hcr
  · cases hcr
    refine ⟨⟨rfl, rfl, rfl⟩, fun c hc vs => ?_⟩
    repeat' (first | exact Bool.noConfusion ‹(!true) = true› | exact Bool.noConfusion ‹(!false) = false› | (intro h; exact h) | (intro h; rw [h]; rfl) | (intro h1 h2; rw [h1, h2]; rfl) | (intro _; assumption) | (intro _; exact rfl) | (intro h; exact Bool.noConfusion (h.symm.trans ‹_ = false›)) | refine ⟨fun _ => ?_, fun _ => ?_⟩ | refine ⟨?_⟩ | refine ⟨?_, ?_⟩ | fail)
    all_goals first | exact rfl | (refine chk_i ?_; simp_all [id_eq]; done) | (refine chk_i ?_; simp only [id_eq, decide_eq_true_eq, decide_eq_false_iff_not, Bool.not_eq_true', Bool.not_eq_false', Bool.or_eq_true, Bool.or_eq_false_iff, Bool.and_eq_true, Bool.and_eq_false_iff] at *; (repeat' split) <;> first | rfl | omega | (simp_all; done) | (simp_all; omega)) | (refine chk_b ?_; simp_all [id_eq]; done) | (refine chk_b ?_; simp only [id_eq, decide_eq_true_eq, decide_eq_false_iff_not, Bool.not_eq_true', Bool.not_eq_false', Bool.or_eq_true, Bool.or_eq_false_iff, Bool.and_eq_true, Bool.and_eq_false_iff] at *; (repeat' split) <;> first | rfl | omega | (simp_all; done) | (simp_all; omega)) | (refine chk_s ?_; simp_all [id_eq]; done) | (refine chk_s ?_; simp only [id_eq, decide_eq_true_eq, decide_eq_false_iff_not, Bool.not_eq_true', Bool.not_eq_false', Bool.or_eq_true, Bool.or_eq_false_iff, Bool.and_eq_true, Bool.and_eq_false_iff] at *; (repeat' split) <;> first | rfl | omega | (simp_all; done) | (simp_all; omega)) | (simp_all [id_eq]; done) | (simp_all [id_eq]; omega) | skip
  · cases hcr
def cIdxA : Con
  | [.row _ ⟨3, .int .i64, l, _⟩, .fn 142 [.box _ 0 73 _ [.a (.s p), .a (.i .i64 fr), .a (.i .u8 pc)]]] => some ⟨LB l :: [], .a (.i .i64 (spIdx (fun n => !spMay pc n) l)), [], []⟩
  | _ => none
set_option maxHeartbeats 4000000 in
set_option maxRecDepth 20000 in
theorem okIdxA (hS : Hyp G) : ConOK Tryz.prog G 57 cIdxA := by
  refine seat_con hS.seat [(142, cAllowed1)] [none] ⟨okAllowed1 hS, trivial⟩ Tryz.func57 rfl rfl rfl ?_
  intro rvs cr hcr hpre
  unfold cIdxA at hcr
  split at hcr
  · rename_i x _ l _ _ _ p fr pc
    cases hcr
    simp only [List.mem_cons, List.not_mem_nil, or_false, forall_eq_or_imp, forall_eq] at hpre
    refine ⟨⟨rfl, rfl, rfl⟩, fun c hc vs => ?_⟩
    repeat' (first | exact Bool.noConfusion ‹(!true) = true› | exact Bool.noConfusion ‹(!false) = false› | (intro h; exact h) | (intro h; rw [h]; rfl) | (intro h1 h2; rw [h1, h2]; rfl) | (intro _; assumption) | (intro _; exact rfl) | (intro h; exact Bool.noConfusion (h.symm.trans ‹_ = false›)) | refine ⟨fun _ => ?_, fun _ => ?_⟩ | refine ⟨?_⟩ | refine ⟨?_, ?_⟩ | fail)
    all_goals first | exact trivial | (refine (?_ : (_ : Int) ≠ _); decide) | exact rfl | skip
    refine Tr_loopH (α := Nat) (fun i => [(8, .i .i64 (.ofNat i))]) (fun _ => []) (fun _ => [])
        (fun i => i ≤ l.length ∧ ∀ x ∈ l.take i, (fun n => !spMay pc n) x = false) (fun i => l.length - i) 0 ⟨by omega, by simp⟩ (by (refine ⟨?_, rfl, ?_, ?_, ?_, rfl⟩ <;> repeat' (first | exact trivial | (refine ⟨rfl, ?_⟩) | fail))) ?_
    rintro i ⟨hi, hq⟩
    refine vs.go rfl ?_
    repeat' (first | exact Bool.noConfusion ‹(!true) = true› | exact Bool.noConfusion ‹(!false) = false› | (intro h; exact h) | (intro h; rw [h]; rfl) | (intro h1 h2; rw [h1, h2]; rfl) | (intro _; assumption) | (intro _; exact rfl) | (intro h; exact Bool.noConfusion (h.symm.trans ‹_ = false›)) | refine ⟨fun _ => ?_, fun _ => ?_⟩ | refine ⟨?_⟩ | refine ⟨?_, ?_⟩ | fail)
    all_goals first | exact trivial | (refine (?_ : (_ : Int) ≠ _); decide) | exact rfl | skip
    all_goals first | exact hpre.1 | exact hpre.2 | exact hpre.2.1 | exact hpre.2.2 | exact NE.of' hpre.2 ‹decide _ = true› | skip
    · rename_i h; simpa using h
    · rename_i h hf; simp at h; exact chk_i (idx_some h hq hf).symm
    · rename_i h hf
      simp at h
      refine Again.mk (i + 1) ⟨by omega, take_next h hq hf⟩ (by omega) ?_
      rw [wrapN (by have hll : l.length ≤ 2000000000 := (by first | exact hpre | exact hpre.1); omega)]
      (refine ⟨?_, rfl, ?_, ?_, ?_, rfl⟩ <;> repeat' (first | exact trivial | (refine ⟨rfl, ?_⟩) | fail))
    · rename_i h
      simp at h
      have hi' : i = l.length := by omega
      subst hi'
      exact chk_i (idx_none hq).symm
  · cases hcr
def cDelA : Con
  | [.row id ⟨3, .int .i64, l, true⟩, .fn 142 [.box _ 0 73 _ [.a (.s p), .a (.i .i64 fr), .a (.i .u8 pc)]]] => some ⟨LB l :: [], .row ⟨3, .int .i64, l.filter (fun x => !(fun n => !spMay pc n) x), true⟩, [id], []⟩
  | _ => none
set_option maxHeartbeats 4000000 in
set_option maxRecDepth 20000 in
theorem okDelA (hS : Hyp G) : ConOK Tryz.prog G 60 cDelA := by
  refine seat_con hS.seat [(57, cIdxA), (142, cAllowed1)] [] ⟨okIdxA hS, okAllowed1 hS, trivial⟩ Tryz.func60 rfl rfl rfl ?_
  intro rvs cr hcr hpre
  unfold cDelA at hcr
  split at hcr
  · rename_i id l _ _ p fr pc
    cases hcr
    simp only [List.mem_cons, List.not_mem_nil, or_false, forall_eq_or_imp, forall_eq] at hpre
    refine ⟨⟨rfl, rfl, by simp [occOk, normL, occL, occ, vwsL, vws]⟩, fun c hc vs => ?_⟩
    simp only [normL, impL, imp, List.contains_cons, beq_self_eq_true, Bool.true_or, Bool.true_and]
    repeat' (first | exact Bool.noConfusion ‹(!true) = true› | exact Bool.noConfusion ‹(!false) = false› | (intro h; exact h) | (intro h; rw [h]; rfl) | (intro h1 h2; rw [h1, h2]; rfl) | (intro _; assumption) | (intro _; exact rfl) | (intro h; exact Bool.noConfusion (h.symm.trans ‹_ = false›)) | refine ⟨fun _ => ?_, fun _ => ?_⟩ | refine ⟨?_⟩ | refine ⟨?_, ?_⟩ | fail)
    all_goals first | exact trivial | (refine (?_ : (_ : Int) ≠ _); decide) | exact rfl | skip
    all_goals first | exact hpre | exact hpre.1 | exact hpre.2 | exact hpre.2.1 | exact hpre.2.2 | skip
    · rename_i h
      rcases idx_spec (fun n => !spMay pc n) l with ⟨_, h2⟩ | ⟨i, _, h2, _⟩
      · show (⟨3, .int .i64, l, true⟩ : Row) = ⟨3, .int .i64, _, true⟩
        rw [idx_all h2]
      · rw [h2] at h; simp at h
    · rename_i h
      rcases idx_spec (fun n => !spMay pc n) l with ⟨h2, _⟩ | ⟨w, hw, h2, h3, h4⟩
      · rw [h2] at h; simp at h
      · simp only [h2]
        rw [wrapN (by have hll : l.length ≤ 2000000000 := (by first | exact hpre | exact hpre.1); omega)]
        refine Tr_loopH (α := Nat × Nat × List Int) (fun x => [(5, .i .i64 (.ofNat x.1)), (6, .i .i64 (.ofNat x.2.1))]) (fun _ => []) (fun x => [(0, some ⟨3, .int .i64, x.2.2, true⟩)])
          (fun x => DelInv (fun n => !spMay pc n) l x.1 x.2.1 x.2.2) (fun x => l.length - x.2.1) (w, w + 1, l) (DelInv.start hw h3 h4) (by (refine ⟨?_, rfl, ?_, ?_, ?_, rfl⟩ <;> repeat' (first | exact trivial | (refine ⟨rfl, ?_⟩) | fail))) ?_
        rintro ⟨i, j, row⟩ hq
        dsimp only at hq ⊢
        refine vs.go rfl ?_
        repeat' (first | exact Bool.noConfusion ‹(!true) = true› | exact Bool.noConfusion ‹(!false) = false› | (intro h; exact h) | (intro h; rw [h]; rfl) | (intro h1 h2; rw [h1, h2]; rfl) | (intro _; assumption) | (intro _; exact rfl) | (intro h; exact Bool.noConfusion (h.symm.trans ‹_ = false›)) | refine ⟨fun _ => ?_, fun _ => ?_⟩ | refine ⟨?_⟩ | refine ⟨?_, ?_⟩ | fail)
        all_goals first | exact trivial | (refine (?_ : (_ : Int) ≠ _); decide) | exact rfl | skip
        all_goals try dsimp only at *
        all_goals first | exact hpre.1 | exact hpre.2 | exact hpre.2.1 | exact hpre.2.2 | exact NE.of hpre.2 hw | skip
        all_goals (have hlt := hq.lt; have hle := hq.le; have hlen := hq.len)
        · rename_i h; simpa using h
        · rename_i h _; simp at h; show (i : Int) < row.length; omega
        · rename_i h hf
          simp at h
          refine Again.mk (i + 1, j + 1, row.set i (row.getD j 0)) (hq.keep (by omega) hf) (by show l.length - (j + 1) < l.length - j; omega) ?_
          rw [wrapN (by have hll : l.length ≤ 2000000000 := (by first | exact hpre | exact hpre.1); omega), wrapN (by have hll : l.length ≤ 2000000000 := (by first | exact hpre | exact hpre.1); omega)]
          (refine ⟨?_, rfl, ?_, ?_, ?_, rfl⟩ <;> repeat' (first | exact trivial | (refine ⟨rfl, ?_⟩) | fail))
        · rename_i h hf
          simp at h
          refine Again.mk (i, j + 1, row) (hq.del (by omega) hf) (by show l.length - (j + 1) < l.length - j; omega) ?_
          rw [wrapN (by have hll : l.length ≤ 2000000000 := (by first | exact hpre | exact hpre.1); omega)]
          (refine ⟨?_, rfl, ?_, ?_, ?_, rfl⟩ <;> repeat' (first | exact trivial | (refine ⟨rfl, ?_⟩) | fail))
        all_goals rename_i h; simp at h
        · show (i : Int) ≤ row.length; omega
        · show i ≤ row.length; omega
        · exact Nat.le_refl _
        all_goals simp only [Int.toNat_natCast, Int.ofNat_eq_natCast, List.length_append, List.length_take, List.length_replicate, List.length_drop, List.take_append, List.take_take]
        · omega
        · omega
        · rw [show i - min i row.length = 0 by omega, show i - (min i row.length + (row.length - i)) = 0 by omega, Nat.min_self, List.take_zero, List.take_zero, List.append_nil, List.append_nil, hq.done (by omega)]
  · cases hcr
def cCompact : Con
  | [.row id ⟨3, .int .i64, l, true⟩] => some ⟨[LB l], .row ⟨3, .int .i64, spCompact l, true⟩, [id], []⟩
  | _ => none
set_option maxHeartbeats 4000000 in
set_option maxRecDepth 20000 in
theorem okCompact (hS : Hyp G) : ConOK Tryz.prog G 70 cCompact := by
  refine seat_con hS.seat [] [] trivial Tryz.func70 rfl rfl rfl ?_
  intro rvs cr hcr hpre
  unfold cCompact at hcr
  split at hcr
  · rename_i id l
    cases hcr
    simp only [List.mem_cons, List.not_mem_nil, or_false, forall_eq_or_imp, forall_eq] at hpre
    refine ⟨⟨rfl, rfl, by simp [occOk, normL, occL, occ, vwsL, vws]⟩, fun c hc vs => ?_⟩
    simp only [normL, impL, imp, List.contains_cons, beq_self_eq_true, Bool.true_or, Bool.true_and]
    repeat' (first | exact Bool.noConfusion ‹(!true) = true› | exact Bool.noConfusion ‹(!false) = false› | (intro h; exact h) | (intro h; rw [h]; rfl) | (intro h1 h2; rw [h1, h2]; rfl) | (intro _; assumption) | (intro _; exact rfl) | (intro h; exact Bool.noConfusion (h.symm.trans ‹_ = false›)) | refine ⟨fun _ => ?_, fun _ => ?_⟩ | refine ⟨?_⟩ | refine ⟨?_, ?_⟩ | fail)
    all_goals first | exact trivial | (refine (?_ : (_ : Int) ≠ _); decide) | exact rfl | skip
    · rename_i h
      simp at h
      show (⟨3, .int .i64, l, true⟩ : Row) = ⟨3, .int .i64, _, true⟩
      rw [compact_short (by omega)]
    · rename_i h
      simp at h
      refine Tr_loopH (α := Nat) (fun k => [(3, .i .i64 (.ofNat k))]) (fun _ => []) (fun _ => [])
        (fun k => 1 ≤ k ∧ k ≤ l.length ∧ spCompact (l.take k) = l.take k) (fun k => l.length - k) 1 ⟨by omega, by omega, compact_one (by omega)⟩ (by (refine ⟨?_, rfl, ?_, ?_, ?_, rfl⟩ <;> repeat' (first | exact trivial | (refine ⟨rfl, ?_⟩) | fail))) ?_
      rintro k ⟨hk1, hk2, hk3⟩
      have hwp : IntKind.i64.wrap (Int.ofNat k - 1) = Int.ofNat (k - 1) := wrapP hk1 (by unfold LB at hpre; omega)
      refine vs.go rfl ?_
      repeat' (first | exact Bool.noConfusion ‹(!true) = true› | exact Bool.noConfusion ‹(!false) = false› | (intro h; exact h) | (intro h; rw [h]; rfl) | (intro h1 h2; rw [h1, h2]; rfl) | (intro _; assumption) | (intro _; exact rfl) | (intro h; exact Bool.noConfusion (h.symm.trans ‹_ = false›)) | refine ⟨fun _ => ?_, fun _ => ?_⟩ | refine ⟨?_⟩ | refine ⟨?_, ?_⟩ | fail)
      all_goals first | exact trivial | (refine (?_ : (_ : Int) ≠ _); decide) | exact rfl | skip
      all_goals try dsimp only at *
      · rename_i h; simpa using h
      · rw [hwp]; simp
      · rename_i h; rw [hwp]; simp at h; show ((k - 1 : Nat) : Int) < l.length; omega
      · rename_i h _; simp at h; show (k : Int) ≤ l.length; omega
      · rename_i h he
        rw [hwp] at he
        have hkl : k < l.length := by simp at h; omega
        refine Tr_loopH (α := Nat × Nat × List Int) (fun x => [(3, .i .i64 (.ofNat x.1)), (5, .i .i64 (.ofNat x.2.1))]) (fun _ => []) (fun x => [(0, some ⟨3, .int .i64, x.2.2, true⟩)])
          (fun x => 1 ≤ x.2.1 ∧ CmpInv l x.1 (k + x.2.1) x.2.2) (fun x => l.length - (k + x.2.1)) (k, 1, l) ⟨by show 1 ≤ 1; omega, CmpInv.start hk1 hkl hk3 (beqT he)⟩ (by (refine ⟨?_, rfl, ?_, ?_, ?_, rfl⟩ <;> repeat' (first | exact trivial | (refine ⟨rfl, ?_⟩) | fail))) ?_
        rintro ⟨w, j, row⟩ ⟨hj1, hq⟩
        dsimp only at hj1 hq ⊢
        have hlt := hq.lt
        have hle := hq.le
        have hlen := hq.len
        have hll : l.length ≤ 2000000000 := hpre
        have hwj : IntKind.i64.wrap (Int.ofNat j - 1) = Int.ofNat (j - 1) := wrapP hj1 (by omega)
        refine vs.go rfl ?_
        repeat' (first | exact Bool.noConfusion ‹(!true) = true› | exact Bool.noConfusion ‹(!false) = false› | (intro h; exact h) | (intro h; rw [h]; rfl) | (intro h1 h2; rw [h1, h2]; rfl) | (intro _; assumption) | (intro _; exact rfl) | (intro h; exact Bool.noConfusion (h.symm.trans ‹_ = false›)) | refine ⟨fun _ => ?_, fun _ => ?_⟩ | refine ⟨?_⟩ | refine ⟨?_, ?_⟩ | fail)
        all_goals first | exact trivial | (refine (?_ : (_ : Int) ≠ _); decide) | exact rfl | skip
        all_goals try dsimp only at *
        · rename_i h; simpa using h
        · rw [hwj]; simp
        · rename_i h; rw [hwj]; simp at h; show ((j - 1 : Nat) : Int) < (l.length - k : Nat); omega
        · rename_i h _; simpa using h
        · show (w : Int) < row.length; omega
        · rename_i h hn
          rw [hwj] at hn
          have hjl : k + j < l.length := by simp at h; omega
          have hn' : row.getD (k + j) 0 ≠ row.getD (k + j - 1) 0 := by
            rw [show k + j - 1 = k + (j - 1) by omega]; exact bneT hn
          refine Again.mk (w + 1, j + 1, row.set w (row.getD (k + j) 0)) ⟨by show 1 ≤ j + 1; omega, hq.new hjl hn'⟩ (by show l.length - (k + (j + 1)) < l.length - (k + j); omega) ?_
          rw [wrapN (by omega), wrapN (by omega)]
          (refine ⟨?_, rfl, ?_, ?_, ?_, rfl⟩ <;> repeat' (first | exact trivial | (refine ⟨rfl, ?_⟩) | fail))
        · rename_i h hn
          rw [hwj] at hn
          have hjl : k + j < l.length := by simp at h; omega
          have hn' : row.getD (k + j) 0 = row.getD (k + j - 1) 0 := by
            rw [show k + j - 1 = k + (j - 1) by omega]; exact bneF hn
          refine Again.mk (w, j + 1, row) ⟨by show 1 ≤ j + 1; omega, hq.same hjl hn'⟩ (by show l.length - (k + (j + 1)) < l.length - (k + j); omega) ?_
          rw [wrapN (by omega)]
          (refine ⟨?_, rfl, ?_, ?_, ?_, rfl⟩ <;> repeat' (first | exact trivial | (refine ⟨rfl, ?_⟩) | fail))
        all_goals rename_i h; simp at h
        · show (w : Int) ≤ row.length; omega
        · show w ≤ row.length; omega
        · exact Nat.le_refl _
        all_goals simp only [Int.toNat_natCast, Int.ofNat_eq_natCast, List.length_append, List.length_take, List.length_replicate, List.length_drop, List.take_append, List.take_take]
        · omega
        · omega
        · rw [show w - min w row.length = 0 by omega, show w - (min w row.length + (row.length - w)) = 0 by omega, Nat.min_self, List.take_zero, List.take_zero, List.append_nil, List.append_nil, hq.done (by omega)]
      · rename_i h he
        rw [hwp] at he
        have hkl : k < l.length := by simp at h; omega
        refine Again.mk (k + 1) ⟨by omega, by omega, compact_go hk1 hkl hk3 (beqF he)⟩ (by omega) ?_
        rw [wrapN (by have hll : l.length ≤ 2000000000 := (by first | exact hpre | exact hpre.1); omega)]
        (refine ⟨?_, rfl, ?_, ?_, ?_, rfl⟩ <;> repeat' (first | exact trivial | (refine ⟨rfl, ?_⟩) | fail))
      · rename_i h
        simp at h
        show (⟨3, .int .i64, l, true⟩ : Row) = ⟨3, .int .i64, _, true⟩
        rw [List.take_of_length_le (by omega)] at hk3
        rw [hk3]
  · cases hcr
end
end Go.X

namespace Go.X
open Go Go.Proofs

def cRIs : Con
  | [.a (.i .i64 n)] => some ⟨[], .a (.b (spIsSquare n)), [], []⟩
  | _ => none
def cStep : Con
  | [.agg [.a (.s _), .a (.i .i64 fr), .a (.i .u8 _)], .a (.i .i64 a), .a (.i .i64 b)] => some ⟨[SM a, SM b], .a (.i .i64 (spStep fr a b)), [], []⟩
  | _ => none
def cEmpty : Con
  | [.agg [.a (.s p), .a (.i .i64 _), .a (.i .u8 _)], .a (.i .i64 n)] => some ⟨[S90 p], .a (.b (spEmpty p n)), [], []⟩
  | _ => none
def cFour : Con
  | [.agg [.a (.s _), .a (.i .i64 fr), .a (.i .u8 _)], .a (.i .i64 a), .a (.i .i64 b)] => some ⟨[SM a, SM b], .row ⟨3, .int .i64, spFour fr a b, true⟩, [], []⟩
  | _ => none
def cLine : Con
  | [.agg [.a (.s p), .a (.i .i64 fr), .a (.i .u8 _)], .a (.i .i64 a), .a (.i .i64 b)] => some ⟨[Dir a b, S90 p], .tup [.row ⟨3, .int .i64, spFree p fr a b, true⟩, .a (.i .i64 (spFirst2 p fr a b 0)), .a (.i .i64 (spFirst2 p fr a b 1))], [], []⟩
  | _ => none
def cAllow : Con
  | [.agg [.a (.s _), .a (.i .i64 _), .a (.i .u8 pc)], .row id ⟨3, .int .i64, l, true⟩] => some ⟨[LB l], .row ⟨3, .int .i64, l.filter (spMay pc), true⟩, [id], []⟩
  | _ => none
def cGen : Con
  | [.agg [.a (.s _), .a (.i .i64 fr), .a (.i .u8 pc)]] => some ⟨[], .row ⟨3, .int .i64, spGen fr pc, true⟩, [], []⟩
  | _ => none
def cAdvL : Con
  | [.agg [.a (.s _), .a (.i .i64 fr), .a (.i .u8 pc)]] => some ⟨[], .row ⟨3, .int .i64, spAdvL fr pc, true⟩, [], []⟩
  | _ => none
def cEle1 : Con
  | [.a (.i .i64 n), .box _ 0 _ _ [.a (.s p), .a (.i .i64 fr), .a (.i .u8 _)]] => some ⟨[S90 p, Sq fr], .a (.b (!spEmpty p (IntKind.i64.wrap ((IntKind.i64.wrap (fr + n)).tdiv 2)))), [], []⟩
  | _ => none
def cEleL : Con
  | [.agg [.a (.s p), .a (.i .i64 fr), .a (.i .u8 pc)]] => some ⟨[S90 p, Sq fr], .row ⟨3, .int .i64, spEleL p fr pc, true⟩, [], []⟩
  | _ => none
def cHorse : Con
  | [.agg [.a (.s p), .a (.i .i64 fr), .a (.i .u8 _)]] => some ⟨[S90 p], .row ⟨3, .int .i64, spHorse p fr, true⟩, [], []⟩
  | _ => none
def cLines : Con
  | [.agg [.a (.s p), .a (.i .i64 fr), .a (.i .u8 _)], .a (.b second)] => some ⟨[S90 p], .row ⟨3, .int .i64, spLines p fr second, true⟩, [], []⟩
  | _ => none
def cChariot : Con
  | [.agg [.a (.s p), .a (.i .i64 fr), .a (.i .u8 _)]] => some ⟨[S90 p], .row ⟨3, .int .i64, spLines p fr false, true⟩, [], []⟩
  | _ => none
def cCannon : Con
  | [.agg [.a (.s p), .a (.i .i64 fr), .a (.i .u8 _)]] => some ⟨[S90 p], .row ⟨3, .int .i64, spLines p fr true, true⟩, [], []⟩
  | _ => none
def cPawn : Con
  | [.agg [.a (.s _), .a (.i .i64 fr), .a (.i .u8 pc)]] => some ⟨[], .row ⟨3, .int .i64, spPawnL fr pc, true⟩, [], []⟩
  | _ => none
section
variable {G : Nat → World → Prop}
set_option maxHeartbeats 4000000 in
set_option maxRecDepth 20000 in
theorem okRIs (hS : Hyp G) : ConOK Tryz.prog G 68 cRIs := by
  refine seat_con hS.seat [] [] trivial Tryz.func68 rfl rfl rfl ?_
  intro rvs cr hcr hpre
  unfold cRIs at hcr
  split at hcr
  · cases hcr
    refine ⟨⟨rfl, rfl, rfl⟩, fun c hc vs => ?_⟩
    repeat' (first | exact Bool.noConfusion ‹(!true) = true› | exact Bool.noConfusion ‹(!false) = false› | (intro h; exact h) | (intro h; rw [h]; rfl) | (intro h1 h2; rw [h1, h2]; rfl) | (intro _; assumption) | (intro _; exact rfl) | (intro h; exact Bool.noConfusion (h.symm.trans ‹_ = false›)) | refine ⟨fun _ => ?_, fun _ => ?_⟩ | refine ⟨?_⟩ | refine ⟨?_, ?_⟩ | fail)
    all_goals first | exact rfl | (refine chk_i ?_; simp_all [spIsSquare]; done) | (refine chk_i ?_; simp only [spIsSquare, decide_eq_true_eq, decide_eq_false_iff_not, Bool.not_eq_true', Bool.not_eq_false', Bool.or_eq_true, Bool.or_eq_false_iff, Bool.and_eq_true, Bool.and_eq_false_iff] at *; (repeat' split) <;> first | rfl | omega | (simp_all; done) | (simp_all; omega)) | (refine chk_b ?_; simp_all [spIsSquare]; done) | (refine chk_b ?_; simp only [spIsSquare, decide_eq_true_eq, decide_eq_false_iff_not, Bool.not_eq_true', Bool.not_eq_false', Bool.or_eq_true, Bool.or_eq_false_iff, Bool.and_eq_true, Bool.and_eq_false_iff] at *; (repeat' split) <;> first | rfl | omega | (simp_all; done) | (simp_all; omega)) | (refine chk_s ?_; simp_all [spIsSquare]; done) | (refine chk_s ?_; simp only [spIsSquare, decide_eq_true_eq, decide_eq_false_iff_not, Bool.not_eq_true', Bool.not_eq_false', Bool.or_eq_true, Bool.or_eq_false_iff, Bool.and_eq_true, Bool.and_eq_false_iff] at *; (repeat' split) <;> first | rfl | omega | (simp_all; done) | (simp_all; omega)) | (simp_all [spIsSquare]; done) | (simp_all [spIsSquare]; omega) | skip
  · cases hcr
set_option maxHeartbeats 4000000 in
set_option maxRecDepth 20000 in
theorem okStep (hS : Hyp G) : ConOK Tryz.prog G 124 cStep := by
  refine seat_con hS.seat [(59, cFile), (100, cRank), (144, cSquare)] [] ⟨okFile hS, okRank hS, okSquare hS, trivial⟩ Tryz.func124 rfl rfl rfl ?_
  intro rvs cr hcr hpre
  unfold cStep at hcr
  split at hcr
  · cases hcr
    simp only [List.mem_cons, List.not_mem_nil, or_false, forall_eq_or_imp, forall_eq] at hpre
    refine ⟨⟨rfl, rfl, rfl⟩, fun c hc vs => ?_⟩
    repeat' (first | exact Bool.noConfusion ‹(!true) = true› | exact Bool.noConfusion ‹(!false) = false› | (intro h; exact h) | (intro h; rw [h]; rfl) | (intro h1 h2; rw [h1, h2]; rfl) | (intro _; assumption) | (intro _; exact rfl) | (intro h; exact Bool.noConfusion (h.symm.trans ‹_ = false›)) | refine ⟨fun _ => ?_, fun _ => ?_⟩ | refine ⟨?_⟩ | refine ⟨?_, ?_⟩ | fail)
    all_goals first | exact trivial | (refine (?_ : (_ : Int) ≠ _); decide) | exact rfl | skip
    exact chk_i (step_wrap hpre.1 hpre.2)
  · cases hcr
set_option maxHeartbeats 4000000 in
set_option maxRecDepth 20000 in
theorem okEmpty (hS : Hyp G) : ConOK Tryz.prog G 123 cEmpty := by
  refine seat_con hS.seat [(68, cRIs)] [] ⟨okRIs hS, trivial⟩ Tryz.func123 rfl rfl rfl ?_
  intro rvs cr hcr hpre
  unfold cEmpty at hcr
  split at hcr
  · cases hcr
    simp only [List.mem_cons, List.not_mem_nil, or_false, forall_eq_or_imp, forall_eq] at hpre
    refine ⟨⟨rfl, rfl, rfl⟩, fun c hc vs => ?_⟩
    repeat' (first | exact Bool.noConfusion ‹(!true) = true› | exact Bool.noConfusion ‹(!false) = false› | (intro h; exact h) | (intro h; rw [h]; rfl) | (intro h1 h2; rw [h1, h2]; rfl) | (intro _; assumption) | (intro _; exact rfl) | (intro h; exact Bool.noConfusion (h.symm.trans ‹_ = false›)) | refine ⟨fun _ => ?_, fun _ => ?_⟩ | refine ⟨?_⟩ | refine ⟨?_, ?_⟩ | fail)
    all_goals first | exact trivial | (refine (?_ : (_ : Int) ≠ _); decide) | exact rfl | skip
    intro h; have h := isSquare_iff.1 h; have := hpre.is; omega
  · cases hcr
set_option maxHeartbeats 4000000 in
set_option maxRecDepth 20000 in
theorem okFour (hS : Hyp G) : ConOK Tryz.prog G 121 cFour := by
  refine seat_con hS.seat [(124, cStep)] [] ⟨okStep hS, trivial⟩ Tryz.func121 rfl rfl rfl ?_
  intro rvs cr hcr hpre
  unfold cFour at hcr
  split at hcr
  · cases hcr
    simp only [List.mem_cons, List.not_mem_nil, or_false, forall_eq_or_imp, forall_eq] at hpre
    refine ⟨⟨rfl, rfl, rfl⟩, fun c hc vs => ?_⟩
    have h1 := neg_wrap hpre.1
    have h2 := neg_wrap hpre.2
    have h3 := hpre.1.neg
    have h4 := hpre.2.neg
    repeat' (first | exact Bool.noConfusion ‹(!true) = true› | exact Bool.noConfusion ‹(!false) = false› | (intro h; exact h) | (intro h; rw [h]; rfl) | (intro h1 h2; rw [h1, h2]; rfl) | (intro _; assumption) | (intro _; exact rfl) | (intro h; exact Bool.noConfusion (h.symm.trans ‹_ = false›)) | refine ⟨fun _ => ?_, fun _ => ?_⟩ | refine ⟨?_⟩ | refine ⟨?_, ?_⟩ | fail)
    all_goals first | exact trivial | (refine (?_ : (_ : Int) ≠ _); decide) | exact rfl | skip
    all_goals first | exact hpre.1 | exact hpre.2 | (rw [h1]; exact h3) | (rw [h2]; exact h4) | skip
    show (⟨_, _, _, _⟩ : Row) = ⟨_, _, _, _⟩
    rw [h1, h2]; rfl
  · cases hcr
set_option maxHeartbeats 4000000 in
set_option maxRecDepth 20000 in
theorem okLine (hS : Hyp G) : ConOK Tryz.prog G 145 cLine := by
  refine seat_con hS.seat [(124, cStep), (68, cRIs)] [] ⟨okStep hS, okRIs hS, trivial⟩ Tryz.func145 rfl rfl rfl ?_
  intro rvs cr hcr hpre
  unfold cLine at hcr
  split at hcr
  · rename_i p fr pc a b
    cases hcr
    simp only [List.mem_cons, List.not_mem_nil, or_false, forall_eq_or_imp, forall_eq] at hpre
    refine ⟨⟨rfl, rfl, rfl⟩, fun c hc vs => ?_⟩
    repeat' (first | exact Bool.noConfusion ‹(!true) = true› | exact Bool.noConfusion ‹(!false) = false› | (intro h; exact h) | (intro h; rw [h]; rfl) | (intro h1 h2; rw [h1, h2]; rfl) | (intro _; assumption) | (intro _; exact rfl) | (intro h; exact Bool.noConfusion (h.symm.trans ‹_ = false›)) | refine ⟨fun _ => ?_, fun _ => ?_⟩ | refine ⟨?_⟩ | refine ⟨?_, ?_⟩ | fail)
    all_goals first | exact trivial | (refine (?_ : (_ : Int) ≠ _); decide) | exact rfl | skip
    refine Tr_nilTmp 3 (.int .i64) 6 rfl (by decide) ?_
    repeat' (first | exact Bool.noConfusion ‹(!true) = true› | exact Bool.noConfusion ‹(!false) = false› | (intro h; exact h) | (intro h; rw [h]; rfl) | (intro h1 h2; rw [h1, h2]; rfl) | (intro _; assumption) | (intro _; exact rfl) | (intro h; exact Bool.noConfusion (h.symm.trans ‹_ = false›)) | refine ⟨fun _ => ?_, fun _ => ?_⟩ | refine ⟨?_⟩ | refine ⟨?_, ?_⟩ | fail)
    refine Tr_loopH (α := List Int) (fun d => [(6, .row 0), (7, .i .i64 (nth (blk p d) 0)), (8, .i .i64 (nth (blk p d) 1)), (9, .i .i64 (.ofNat (blk p d).length)), (10, .i .i64 (.ofNat (d.length + 1)))]) (fun _ => [])
      (fun d => [(0, some ⟨3, .int .i64, d.takeWhile (free p), true⟩)]) (fun d => Scan fr a b d) (fun d => 20 - d.length) [] Scan.start (by (refine ⟨?_, rfl, ?_, ?_, ?_, rfl⟩ <;> repeat' (first | exact trivial | (refine ⟨rfl, ?_⟩) | fail))) ?_
    intro d hq
    have hle := hq.le
    have hbl : (blk p d).length ≤ 9 := Nat.le_trans (List.length_filter_le _ _) hle
    have hft : (d.takeWhile (free p)).length ≤ 9 := Nat.le_trans ((List.takeWhile_prefix _).length_le) hle
    have hda : -1 ≤ a ∧ a ≤ 1 ∧ -1 ≤ b ∧ b ≤ 1 := by rcases hpre.1.is with ⟨rfl, rfl⟩ | ⟨rfl, rfl⟩ | ⟨rfl, rfl⟩ | ⟨rfl, rfl⟩ <;> omega
    have hma : -10 ≤ (d.length + 1 : Int) * a ∧ (d.length + 1 : Int) * a ≤ 10 ∧ -10 ≤ (d.length + 1 : Int) * b ∧ (d.length + 1 : Int) * b ≤ 10 := by
      rcases hpre.1.is with ⟨rfl, rfl⟩ | ⟨rfl, rfl⟩ | ⟨rfl, rfl⟩ | ⟨rfl, rfl⟩ <;> omega
    have ea : IntKind.i64.wrap (Int.ofNat (d.length + 1) * a) = Int.ofNat (d.length + 1) * a := by
      rw [wrap64] <;> simp <;> omega
    have eb : IntKind.i64.wrap (Int.ofNat (d.length + 1) * b) = Int.ofNat (d.length + 1) * b := by
      rw [wrap64] <;> simp <;> omega
    have hsa : SM (Int.ofNat (d.length + 1) * a) := .of (by simp; omega) (by simp; omega)
    have hsb : SM (Int.ofNat (d.length + 1) * b) := .of (by simp; omega) (by simp; omega)
    have hs9 := hpre.2.is
    refine vs.go rfl ?_
    repeat' (first | exact Bool.noConfusion ‹(!true) = true› | exact Bool.noConfusion ‹(!false) = false› | (intro h; exact h) | (intro h; rw [h]; rfl) | (intro h1 h2; rw [h1, h2]; rfl) | (intro _; assumption) | (intro _; exact rfl) | (intro h; exact Bool.noConfusion (h.symm.trans ‹_ = false›)) | refine ⟨fun _ => ?_, fun _ => ?_⟩ | refine ⟨?_⟩ | refine ⟨?_, ?_⟩ | fail)
    all_goals first | exact trivial | (refine (?_ : (_ : Int) ≠ _); decide) | exact rfl | skip
    all_goals try dsimp only at *
    all_goals simp only [ea, eb] at *
    · exact hsa
    · exact hsb
    · rename_i h; have e := hq.stop (bt h); show (⟨_, _, _, _⟩ : Row) = ⟨_, _, _, _⟩; rw [spFree, e]
    · rename_i h; have e := hq.stop (bt h); exact chk_i (by rw [spFirst2, e])
    · rename_i h; have e := hq.stop (bt h); exact chk_i (by rw [spFirst2, e])
    · rename_i h; have := isSquare_iff.1 (bn h); omega
    · rename_i h; have := isSquare_iff.1 (bn h); omega
    · simp; omega
    · simp; omega
    · rename_i h2 h0 hs hf
      have hn := hq.next hpre.1 (bn hs)
      refine Again.mk _ hn (by have := hn.le; simp at this ⊢; omega) ?_
      have h0' : (blk p d).length = 0 := by simpa using h0
      rw [blk_free hf, free_more h0' hf, List.length_append, List.length_singleton, wrapN (by omega)]
      (refine ⟨?_, rfl, ?_, ?_, ?_, rfl⟩ <;> repeat' (first | exact trivial | (refine ⟨rfl, ?_⟩) | fail))
    · rename_i h2 h0 hs hf
      have hn := hq.next hpre.1 (bn hs)
      refine Again.mk _ hn (by have := hn.le; simp at this ⊢; omega) ?_
      have h0' : (blk p d).length ≠ 0 := by simpa using h0
      rw [blk_free hf, free_same h0', List.length_append, List.length_singleton, wrapN (by omega)]
      (refine ⟨?_, rfl, ?_, ?_, ?_, rfl⟩ <;> repeat' (first | exact trivial | (refine ⟨rfl, ?_⟩) | fail))
    · rename_i h2 h0 hs hf
      have hn := hq.next hpre.1 (bn hs)
      refine Again.mk _ hn (by have := hn.le; simp at this ⊢; omega) ?_
      have h0' : blk p d = [] := by simpa using h0
      rw [blk_more hf, free_none hf, h0', wrapN (by omega)]
      simp only [List.length_append, List.length_singleton]
      (refine ⟨?_, rfl, ?_, ?_, ?_, rfl⟩ <;> repeat' (first | exact trivial | (refine ⟨rfl, ?_⟩) | fail))
    · rename_i h2 h0 hs hf
      have hn := hq.next hpre.1 (bn hs)
      refine Again.mk _ hn (by have := hn.le; simp at this ⊢; omega) ?_
      have h0' : (blk p d).length = 1 := by simp at h0 h2; have := List.length_pos_iff.2 h0; omega
      obtain ⟨x, hx⟩ := List.length_eq_one_iff.1 h0'
      rw [blk_more hf, free_none hf, hx, wrapN (by omega)]
      simp only [List.length_append, List.length_singleton]
      (refine ⟨?_, rfl, ?_, ?_, ?_, rfl⟩ <;> repeat' (first | exact trivial | (refine ⟨rfl, ?_⟩) | fail))
    all_goals
      rename_i h
      have h2 : 2 ≤ (blk p d).length := by simp at h; omega
      have e := hq.two h2
    · show (⟨_, _, _, _⟩ : Row) = ⟨_, _, _, _⟩; rw [e.1]
    · exact chk_i e.2.1.symm
    · exact chk_i e.2.2.symm
  · cases hcr
set_option maxHeartbeats 4000000 in
set_option maxRecDepth 20000 in
theorem okAllow (hS : Hyp G) : ConOK Tryz.prog G 120 cAllow := by
  refine seat_con hS.seat [(60, cDelA), (1000060, cMark)] [] ⟨okDelA hS, okMark, trivial⟩ Tryz.func120 rfl rfl rfl ?_
  intro rvs cr hcr hpre
  unfold cAllow at hcr
  split at hcr
  · cases hcr
    simp only [List.mem_cons, List.not_mem_nil, or_false, forall_eq_or_imp, forall_eq] at hpre
    refine ⟨⟨rfl, rfl, by simp [occOk, normL, occL, occ, vwsL, vws]⟩, fun c hc vs => ?_⟩
    simp only [normL, impL, imp, List.contains_cons, beq_self_eq_true, Bool.true_or, Bool.true_and]
    repeat' (first | exact Bool.noConfusion ‹(!true) = true› | exact Bool.noConfusion ‹(!false) = false› | (intro h; exact h) | (intro h; rw [h]; rfl) | (intro h1 h2; rw [h1, h2]; rfl) | (intro _; assumption) | (intro _; exact rfl) | (intro h; exact Bool.noConfusion (h.symm.trans ‹_ = false›)) | refine ⟨fun _ => ?_, fun _ => ?_⟩ | refine ⟨?_⟩ | refine ⟨?_, ?_⟩ | fail)
    all_goals first | exact trivial | (refine (?_ : (_ : Int) ≠ _); decide) | exact rfl | skip
    · exact hpre
    · show (⟨_, _, _, _⟩ : Row) = ⟨_, _, _, _⟩
      simp only [Bool.not_not]
  · cases hcr
set_option maxHeartbeats 4000000 in
set_option maxRecDepth 20000 in
theorem okGen (hS : Hyp G) : ConOK Tryz.prog G 90 cGen := by
  refine seat_con hS.seat [(121, cFour), (120, cAllow), (1000120, cMark)] [] ⟨okFour hS, okAllow hS, okMark, trivial⟩ Tryz.func90 rfl rfl rfl ?_
  intro rvs cr hcr hpre
  unfold cGen at hcr
  split at hcr
  · cases hcr
    refine ⟨⟨rfl, rfl, rfl⟩, fun c hc vs => ?_⟩
    repeat' (first | exact Bool.noConfusion ‹(!true) = true› | exact Bool.noConfusion ‹(!false) = false› | (intro h; exact h) | (intro h; rw [h]; rfl) | (intro h1 h2; rw [h1, h2]; rfl) | (intro _; assumption) | (intro _; exact rfl) | (intro h; exact Bool.noConfusion (h.symm.trans ‹_ = false›)) | refine ⟨fun _ => ?_, fun _ => ?_⟩ | refine ⟨?_⟩ | refine ⟨?_, ?_⟩ | fail)
    all_goals first | exact trivial | (refine (?_ : (_ : Int) ≠ _); decide) | exact rfl | skip
    all_goals first | exact SM.of (by decide) (by decide) | skip
    · simp [spFour]
    · simp [spFour]
    · show LB (spFour _ 1 0 ++ spFour _ 0 1); simp [spFour, LB]
  · cases hcr
set_option maxHeartbeats 4000000 in
set_option maxRecDepth 20000 in
theorem okAdvL (hS : Hyp G) : ConOK Tryz.prog G 91 cAdvL := by
  refine seat_con hS.seat [(121, cFour), (120, cAllow), (1000120, cMark)] [] ⟨okFour hS, okAllow hS, okMark, trivial⟩ Tryz.func91 rfl rfl rfl ?_
  intro rvs cr hcr hpre
  unfold cAdvL at hcr
  split at hcr
  · cases hcr
    refine ⟨⟨rfl, rfl, rfl⟩, fun c hc vs => ?_⟩
    repeat' (first | exact Bool.noConfusion ‹(!true) = true› | exact Bool.noConfusion ‹(!false) = false› | (intro h; exact h) | (intro h; rw [h]; rfl) | (intro h1 h2; rw [h1, h2]; rfl) | (intro _; assumption) | (intro _; exact rfl) | (intro h; exact Bool.noConfusion (h.symm.trans ‹_ = false›)) | refine ⟨fun _ => ?_, fun _ => ?_⟩ | refine ⟨?_⟩ | refine ⟨?_, ?_⟩ | fail)
    all_goals first | exact trivial | (refine (?_ : (_ : Int) ≠ _); decide) | exact rfl | skip
    all_goals first | exact SM.of (by decide) (by decide) | skip
    · simp [spFour, LB]
  · cases hcr
set_option maxHeartbeats 4000000 in
set_option maxRecDepth 20000 in
theorem okLines (hS : Hyp G) : ConOK Tryz.prog G 125 cLines := by
  refine seat_con hS.seat [(145, cLine)] [] ⟨okLine hS, trivial⟩ Tryz.func125 rfl rfl rfl ?_
  intro rvs cr hcr hpre
  unfold cLines at hcr
  split at hcr
  · rename_i p fr pc sec
    cases hcr
    simp only [List.mem_cons, List.not_mem_nil, or_false, forall_eq_or_imp, forall_eq] at hpre
    refine ⟨⟨rfl, rfl, rfl⟩, fun c hc vs => ?_⟩
    repeat' (first | exact Bool.noConfusion ‹(!true) = true› | exact Bool.noConfusion ‹(!false) = false› | (intro h; exact h) | (intro h; rw [h]; rfl) | (intro h1 h2; rw [h1, h2]; rfl) | (intro _; assumption) | (intro _; exact rfl) | (intro h; exact Bool.noConfusion (h.symm.trans ‹_ = false›)) | refine ⟨fun _ => ?_, fun _ => ?_⟩ | refine ⟨?_⟩ | refine ⟨?_, ?_⟩ | fail)
    all_goals first | exact trivial | (refine (?_ : (_ : Int) ≠ _); decide) | exact rfl | skip
    refine Tr_nilTmp 3 (.int .i64) 5 rfl (by decide) ?_
    repeat' (first | exact Bool.noConfusion ‹(!true) = true› | exact Bool.noConfusion ‹(!false) = false› | (intro h; exact h) | (intro h; rw [h]; rfl) | (intro h1 h2; rw [h1, h2]; rfl) | (intro _; assumption) | (intro _; exact rfl) | (intro h; exact Bool.noConfusion (h.symm.trans ‹_ = false›)) | refine ⟨fun _ => ?_, fun _ => ?_⟩ | refine ⟨?_⟩ | refine ⟨?_, ?_⟩ | fail)
    refine Tr_loopH (α := Nat) (fun i => [(5, .row 1), (17, .i .i64 (.ofNat i))]) (fun _ => []) (fun i => [(1, some ⟨3, .int .i64, (dirs.take i).flatMap (line1 p fr sec), true⟩)])
      (fun i => i ≤ 4) (fun i => 4 - i) 0 (by omega) (by (refine ⟨?_, rfl, ?_, ?_, ?_, rfl⟩ <;> repeat' (first | exact trivial | (refine ⟨rfl, ?_⟩) | fail))) ?_
    intro i hi
    have hl1 := dirs_len (f := line1 p fr sec) (fun w => line1_len _ _ _ w) hi
    have hl2 := free_len p fr (dirs.getD i (0, 0)).1 (dirs.getD i (0, 0)).2
    refine vs.go rfl ?_
    repeat' (first | exact Bool.noConfusion ‹(!true) = true› | exact Bool.noConfusion ‹(!false) = false› | (intro h; exact h) | (intro h; rw [h]; rfl) | (intro h1 h2; rw [h1, h2]; rfl) | (intro _; assumption) | (intro _; exact rfl) | (intro h; exact Bool.noConfusion (h.symm.trans ‹_ = false›)) | refine ⟨fun _ => ?_, fun _ => ?_⟩ | refine ⟨?_⟩ | refine ⟨?_, ?_⟩ | fail)
    all_goals first | exact trivial | (refine (?_ : (_ : Int) ≠ _); decide) | exact rfl | skip
    all_goals try dsimp only at *
    · rename_i h; simpa using h
    · rename_i h; simp at h; exact dirs_dir (i := i) (by omega)
    · exact hpre
    · show ((dirs.take i).flatMap (line1 p fr sec)).length + (spFree p fr (dirs.getD i (0, 0)).1 (dirs.getD i (0, 0)).2).length ≤ 4000000000
      omega
    · show (((dirs.take i).flatMap (line1 p fr sec)).length + (spFree p fr (dirs.getD i (0, 0)).1 (dirs.getD i (0, 0)).2).length) * 8 ≤ 140737488355328
      omega
    iterate 2
      · show ((dirs.take i).flatMap (line1 p fr sec) ++ spFree p fr (dirs.getD i (0, 0)).1 (dirs.getD i (0, 0)).2).length + 1 ≤ 4000000000
        rw [List.length_append]; omega
      · show (((dirs.take i).flatMap (line1 p fr sec) ++ spFree p fr (dirs.getD i (0, 0)).1 (dirs.getD i (0, 0)).2).length + 1) * 8 ≤ 140737488355328
        rw [List.length_append]; omega
      · rename_i h hs
        simp at h
        refine Again.mk (i + 1) (by omega) (by omega) ?_
        have e := dirs_next (by omega : i < 4) (line1 p fr sec)
        rw [e, line1, hs, wrapN (by omega), ← List.append_assoc]
        (refine ⟨?_, rfl, ?_, ?_, ?_, rfl⟩ <;> repeat' (first | exact trivial | (refine ⟨rfl, ?_⟩) | fail))
    all_goals
      rename_i h
      simp at h
      have h4 : i = 4 := by omega
      subst h4
      rfl
  · cases hcr
set_option maxHeartbeats 4000000 in
set_option maxRecDepth 20000 in
theorem okChariot (hS : Hyp G) : ConOK Tryz.prog G 94 cChariot := by
  refine seat_con hS.seat [(125, cLines)] [] ⟨okLines hS, trivial⟩ Tryz.func94 rfl rfl rfl ?_
  intro rvs cr hcr hpre
  unfold cChariot at hcr
  split at hcr
  · cases hcr
    simp only [List.mem_cons, List.not_mem_nil, or_false, forall_eq_or_imp, forall_eq] at hpre
    refine ⟨⟨rfl, rfl, rfl⟩, fun c hc vs => ?_⟩
    repeat' (first | exact Bool.noConfusion ‹(!true) = true› | exact Bool.noConfusion ‹(!false) = false› | (intro h; exact h) | (intro h; rw [h]; rfl) | (intro h1 h2; rw [h1, h2]; rfl) | (intro _; assumption) | (intro _; exact rfl) | (intro h; exact Bool.noConfusion (h.symm.trans ‹_ = false›)) | refine ⟨fun _ => ?_, fun _ => ?_⟩ | refine ⟨?_⟩ | refine ⟨?_, ?_⟩ | fail)
    all_goals first | exact trivial | (refine (?_ : (_ : Int) ≠ _); decide) | exact rfl | skip
    exact hpre
  · cases hcr
set_option maxHeartbeats 4000000 in
set_option maxRecDepth 20000 in
theorem okCannon (hS : Hyp G) : ConOK Tryz.prog G 95 cCannon := by
  refine seat_con hS.seat [(125, cLines)] [] ⟨okLines hS, trivial⟩ Tryz.func95 rfl rfl rfl ?_
  intro rvs cr hcr hpre
  unfold cCannon at hcr
  split at hcr
  · cases hcr
    simp only [List.mem_cons, List.not_mem_nil, or_false, forall_eq_or_imp, forall_eq] at hpre
    refine ⟨⟨rfl, rfl, rfl⟩, fun c hc vs => ?_⟩
    repeat' (first | exact Bool.noConfusion ‹(!true) = true› | exact Bool.noConfusion ‹(!false) = false› | (intro h; exact h) | (intro h; rw [h]; rfl) | (intro h1 h2; rw [h1, h2]; rfl) | (intro _; assumption) | (intro _; exact rfl) | (intro h; exact Bool.noConfusion (h.symm.trans ‹_ = false›)) | refine ⟨fun _ => ?_, fun _ => ?_⟩ | refine ⟨?_⟩ | refine ⟨?_, ?_⟩ | fail)
    all_goals first | exact trivial | (refine (?_ : (_ : Int) ≠ _); decide) | exact rfl | skip
    exact hpre
  · cases hcr
set_option maxHeartbeats 4000000 in
set_option maxRecDepth 20000 in
theorem okHorse (hS : Hyp G) : ConOK Tryz.prog G 93 cHorse := by
  refine seat_con hS.seat [(124, cStep), (123, cEmpty)] [] ⟨okStep hS, okEmpty hS, trivial⟩ Tryz.func93 rfl rfl rfl ?_
  intro rvs cr hcr hpre
  unfold cHorse at hcr
  split at hcr
  · rename_i p fr pc
    cases hcr
    simp only [List.mem_cons, List.not_mem_nil, or_false, forall_eq_or_imp, forall_eq] at hpre
    refine ⟨⟨rfl, rfl, rfl⟩, fun c hc vs => ?_⟩
    repeat' (first | exact Bool.noConfusion ‹(!true) = true› | exact Bool.noConfusion ‹(!false) = false› | (intro h; exact h) | (intro h; rw [h]; rfl) | (intro h1 h2; rw [h1, h2]; rfl) | (intro _; assumption) | (intro _; exact rfl) | (intro h; exact Bool.noConfusion (h.symm.trans ‹_ = false›)) | refine ⟨fun _ => ?_, fun _ => ?_⟩ | refine ⟨?_⟩ | refine ⟨?_, ?_⟩ | fail)
    all_goals first | exact trivial | (refine (?_ : (_ : Int) ≠ _); decide) | exact rfl | skip
    refine Tr_nilTmp 3 (.int .i64) 3 rfl (by decide) ?_
    repeat' (first | exact Bool.noConfusion ‹(!true) = true› | exact Bool.noConfusion ‹(!false) = false› | (intro h; exact h) | (intro h; rw [h]; rfl) | (intro h1 h2; rw [h1, h2]; rfl) | (intro _; assumption) | (intro _; exact rfl) | (intro h; exact Bool.noConfusion (h.symm.trans ‹_ = false›)) | refine ⟨fun _ => ?_, fun _ => ?_⟩ | refine ⟨?_⟩ | refine ⟨?_, ?_⟩ | fail)
    refine Tr_loopH (α := Nat) (fun i => [(3, .row 1), (12, .i .i64 (.ofNat i))]) (fun _ => []) (fun i => [(1, some ⟨3, .int .i64, (dirs.take i).flatMap (horse1 p fr), true⟩)])
      (fun i => i ≤ 4) (fun i => 4 - i) 0 (by omega) (by (refine ⟨?_, rfl, ?_, ?_, ?_, rfl⟩ <;> repeat' (first | exact trivial | (refine ⟨rfl, ?_⟩) | fail))) ?_
    intro i hi
    have hl1 := dirs_len (f := horse1 p fr) (fun w => by unfold horse1; split <;> simp) hi
    refine vs.go rfl ?_
    repeat' (first | exact Bool.noConfusion ‹(!true) = true› | exact Bool.noConfusion ‹(!false) = false› | (intro h; exact h) | (intro h; rw [h]; rfl) | (intro h1 h2; rw [h1, h2]; rfl) | (intro _; assumption) | (intro _; exact rfl) | (intro h; exact Bool.noConfusion (h.symm.trans ‹_ = false›)) | refine ⟨fun _ => ?_, fun _ => ?_⟩ | refine ⟨?_⟩ | refine ⟨?_, ?_⟩ | fail)
    all_goals first | exact trivial | (refine (?_ : (_ : Int) ≠ _); decide) | exact rfl | skip
    all_goals try dsimp only at *
    · rename_i h; simpa using h
    iterate 2
      · have hs := dir_sm (dirs_dir (i := i) (by simp at *; omega))
        first | exact hs.1 | exact hs.2.1
    · exact hpre
    iterate 4
      · have hd := dirs_dir (i := i) (by simp at *; omega)
        have hs := dir_sm hd
        obtain ⟨_, _, h1, h2, h3, h4⟩ := hs
        rw [← dir_w1 hd] at h1
        rw [← dir_w2 hd] at h2
        rw [← dir_w3 hd] at h3
        rw [← dir_w4 hd] at h4
        first | exact h1 | exact h2 | exact h3 | exact h4
    · show ((dirs.take i).flatMap (horse1 p fr)).length + 2 ≤ 4000000000; omega
    · show (((dirs.take i).flatMap (horse1 p fr)).length + 2) * 8 ≤ 140737488355328; omega
    · rename_i h hs
      simp at h
      have hd := dirs_dir (i := i) (by omega)
      refine Again.mk (i + 1) (by omega) (by omega) ?_
      have e := dirs_next (by omega : i < 4) (horse1 p fr)
      have hs' : spEmpty p (spStep fr (dirs.getD i (0, 0)).1 (dirs.getD i (0, 0)).2) = true := hs
      rw [e, horse1, if_pos hs', wrapN (by omega), ← dir_w1 hd, ← dir_w2 hd, ← dir_w3 hd, ← dir_w4 hd]
      (refine ⟨?_, rfl, ?_, ?_, ?_, rfl⟩ <;> repeat' (first | exact trivial | (refine ⟨rfl, ?_⟩) | fail))
    · rename_i h hs
      simp at h
      refine Again.mk (i + 1) (by omega) (by omega) ?_
      have e := dirs_next (by omega : i < 4) (horse1 p fr)
      have hs' : spEmpty p (spStep fr (dirs.getD i (0, 0)).1 (dirs.getD i (0, 0)).2) = false := hs
      rw [e, horse1, hs', wrapN (by omega), if_neg (by simp), List.append_nil]
      (refine ⟨?_, rfl, ?_, ?_, ?_, rfl⟩ <;> repeat' (first | exact trivial | (refine ⟨rfl, ?_⟩) | fail))
    · rename_i h
      simp at h
      have h4 : i = 4 := by omega
      subst h4
      rfl
  · cases hcr
set_option maxHeartbeats 4000000 in
set_option maxRecDepth 20000 in
theorem okPawn (hS : Hyp G) : ConOK Tryz.prog G 96 cPawn := by
  refine seat_con hS.seat [(29, cSide), (124, cStep), (126, cOver)] [] ⟨okSide hS, okStep hS, okOver hS, trivial⟩ Tryz.func96 rfl rfl rfl ?_
  intro rvs cr hcr hpre
  unfold cPawn at hcr
  split at hcr
  · rename_i p fr pc
    cases hcr
    simp only [List.mem_cons, List.not_mem_nil, or_false, forall_eq_or_imp, forall_eq] at hpre
    refine ⟨⟨rfl, rfl, rfl⟩, fun c hc vs => ?_⟩
    have hb := side_bd pc
    have e : IntKind.i64.wrap (1 - IntKind.i64.wrap (2 * spSide pc)) = 1 - 2 * spSide pc := by
      rw [wrap64 (x := 2 * _) (by omega) (by omega), wrap64 (by omega) (by omega)]
    repeat' (first | exact Bool.noConfusion ‹(!true) = true› | exact Bool.noConfusion ‹(!false) = false› | (intro h; exact h) | (intro h; rw [h]; rfl) | (intro h1 h2; rw [h1, h2]; rfl) | (intro _; assumption) | (intro _; exact rfl) | (intro h; exact Bool.noConfusion (h.symm.trans ‹_ = false›)) | refine ⟨fun _ => ?_, fun _ => ?_⟩ | refine ⟨?_⟩ | refine ⟨?_, ?_⟩ | fail)
    all_goals first | exact trivial | (refine (?_ : (_ : Int) ≠ _); decide) | exact rfl | skip
    all_goals first | exact SM.of (by decide) (by decide) | (rw [e]; exact SM.of (by omega) (by omega)) | (simp; done) | skip
    · rename_i h
      show (⟨_, _, _, _⟩ : Row) = ⟨_, _, _, _⟩
      rw [e, spPawnL, if_pos h]
    · rename_i h
      show (⟨_, _, _, _⟩ : Row) = ⟨_, _, _, _⟩
      rw [e, spPawnL, if_neg (by rw [h]; simp)]; rfl
  · cases hcr
end
end Go.X

namespace Go.X
open Go Go.Proofs

def cAll1 : Con
  | [.a (.i .i64 n), .box _ 0 _ _ [.a (.s p)], .box _ 0 _ _ [.a (.i .u8 pc)]] => some ⟨[S90 p], .a (.b (spTaken p pc n)), [], []⟩
  | _ => none
def cIndexI : Con
  | [.row _ ⟨3, .int .i64, l, _⟩, .a (.i .i64 v)] => some ⟨[LB l], .a (.i .i64 (spIdx (fun x => v == x) l)), [], []⟩
  | _ => none
def cContainsI : Con
  | [.row _ ⟨3, .int .i64, l, _⟩, .a (.i .i64 v)] => some ⟨[LB l], .a (.b (l.any (fun x => v == x))), [], []⟩
  | _ => none
def cWay : Con
  | [.agg [.a (.s p), .a (.i .i64 fr), .a (.i .u8 pc)]] => some ⟨[WayOk p fr pc], .row ⟨3, .int .i64, spWay p fr pc, true⟩, [], []⟩
  | _ => none
def cAll : Con
  | [.a (.s p), .a (.i .i64 fr)] => some ⟨[], .row ⟨3, .int .i64, spAll p fr, true⟩, [], []⟩
  | _ => none
def cRCan : Con
  | [.a (.s p), .a (.i .i64 fr), .a (.i .i64 to)] => some ⟨[], .a (.b (spCan p fr to)), [], []⟩
  | _ => none
def cSort : Con := cSortI 3
section
variable {G : Nat → World → Prop}
set_option maxHeartbeats 4000000 in
set_option maxRecDepth 20000 in
theorem okEle1 (hS : Hyp G) : ConOK Tryz.prog G 122 cEle1 := by
  refine seat_con hS.seat [(123, cEmpty)] [] ⟨okEmpty hS, trivial⟩ Tryz.func122 rfl rfl rfl ?_
  intro rvs cr hcr hpre
  unfold cEle1 at hcr
  split at hcr
  · cases hcr
    simp only [List.mem_cons, List.not_mem_nil, or_false, forall_eq_or_imp, forall_eq] at hpre
    refine ⟨⟨rfl, rfl, rfl⟩, fun c hc vs => ?_⟩
    repeat' (first | exact Bool.noConfusion ‹(!true) = true› | exact Bool.noConfusion ‹(!false) = false› | (intro h; exact h) | (intro h; rw [h]; rfl) | (intro h1 h2; rw [h1, h2]; rfl) | (intro _; assumption) | (intro _; exact rfl) | (intro h; exact Bool.noConfusion (h.symm.trans ‹_ = false›)) | refine ⟨fun _ => ?_, fun _ => ?_⟩ | refine ⟨?_⟩ | refine ⟨?_, ?_⟩ | fail)
    all_goals first | exact trivial | (refine (?_ : (_ : Int) ≠ _); decide) | exact rfl | skip
    exact hpre.1
  · cases hcr
set_option maxHeartbeats 4000000 in
set_option maxRecDepth 20000 in
theorem okAll1 (hS : Hyp G) : ConOK Tryz.prog G 67 cAll1 := by
  refine seat_con hS.seat [(68, cRIs), (29, cSide)] [] ⟨okRIs hS, okSide hS, trivial⟩ Tryz.func67 rfl rfl rfl ?_
  intro rvs cr hcr hpre
  unfold cAll1 at hcr
  split at hcr
  · cases hcr
    simp only [List.mem_cons, List.not_mem_nil, or_false, forall_eq_or_imp, forall_eq] at hpre
    refine ⟨⟨rfl, rfl, rfl⟩, fun c hc vs => ?_⟩
    repeat' (first | exact Bool.noConfusion ‹(!true) = true› | exact Bool.noConfusion ‹(!false) = false› | (intro h; exact h) | (intro h; rw [h]; rfl) | (intro h1 h2; rw [h1, h2]; rfl) | (intro _; assumption) | (intro _; exact rfl) | (intro h; exact Bool.noConfusion (h.symm.trans ‹_ = false›)) | refine ⟨fun _ => ?_, fun _ => ?_⟩ | refine ⟨?_⟩ | refine ⟨?_, ?_⟩ | fail)
    all_goals first | exact rfl | skip
    all_goals
      have := hpre.is
      intro h
      have h := isSquare_iff.1 (by simpa using h)
      omega
  · cases hcr
def cIdxE : Con
  | [.row _ ⟨3, .int .i64, l, _⟩, .fn 122 [.box _ 0 73 _ [.a (.s p), .a (.i .i64 fr), .a (.i .u8 pc)]]] => some ⟨LB l :: [S90 p, Sq fr], .a (.i .i64 (spIdx (fun n => !spEmpty p (IntKind.i64.wrap ((IntKind.i64.wrap (fr + n)).tdiv 2))) l)), [], []⟩
  | _ => none
set_option maxHeartbeats 4000000 in
set_option maxRecDepth 20000 in
theorem okIdxE (hS : Hyp G) : ConOK Tryz.prog G 57 cIdxE := by
  refine seat_con hS.seat [(122, cEle1)] [none] ⟨okEle1 hS, trivial⟩ Tryz.func57 rfl rfl rfl ?_
  intro rvs cr hcr hpre
  unfold cIdxE at hcr
  split at hcr
  · rename_i x _ l _ _ _ p fr pc
    cases hcr
    simp only [List.mem_cons, List.not_mem_nil, or_false, forall_eq_or_imp, forall_eq] at hpre
    refine ⟨⟨rfl, rfl, rfl⟩, fun c hc vs => ?_⟩
    repeat' (first | exact Bool.noConfusion ‹(!true) = true› | exact Bool.noConfusion ‹(!false) = false› | (intro h; exact h) | (intro h; rw [h]; rfl) | (intro h1 h2; rw [h1, h2]; rfl) | (intro _; assumption) | (intro _; exact rfl) | (intro h; exact Bool.noConfusion (h.symm.trans ‹_ = false›)) | refine ⟨fun _ => ?_, fun _ => ?_⟩ | refine ⟨?_⟩ | refine ⟨?_, ?_⟩ | fail)
    all_goals first | exact trivial | (refine (?_ : (_ : Int) ≠ _); decide) | exact rfl | skip
    refine Tr_loopH (α := Nat) (fun i => [(8, .i .i64 (.ofNat i))]) (fun _ => []) (fun _ => [])
        (fun i => i ≤ l.length ∧ ∀ x ∈ l.take i, (fun n => !spEmpty p (IntKind.i64.wrap ((IntKind.i64.wrap (fr + n)).tdiv 2))) x = false) (fun i => l.length - i) 0 ⟨by omega, by simp⟩ (by (refine ⟨?_, rfl, ?_, ?_, ?_, rfl⟩ <;> repeat' (first | exact trivial | (refine ⟨rfl, ?_⟩) | fail))) ?_
    rintro i ⟨hi, hq⟩
    refine vs.go rfl ?_
    repeat' (first | exact Bool.noConfusion ‹(!true) = true› | exact Bool.noConfusion ‹(!false) = false› | (intro h; exact h) | (intro h; rw [h]; rfl) | (intro h1 h2; rw [h1, h2]; rfl) | (intro _; assumption) | (intro _; exact rfl) | (intro h; exact Bool.noConfusion (h.symm.trans ‹_ = false›)) | refine ⟨fun _ => ?_, fun _ => ?_⟩ | refine ⟨?_⟩ | refine ⟨?_, ?_⟩ | fail)
    all_goals first | exact trivial | (refine (?_ : (_ : Int) ≠ _); decide) | exact rfl | skip
    all_goals first | exact hpre.1 | exact hpre.2 | exact hpre.2.1 | exact hpre.2.2 | exact NE.of' hpre.2 ‹decide _ = true› | skip
    · rename_i h; simpa using h
    · rename_i h hf; simp at h; exact chk_i (idx_some h hq hf).symm
    · rename_i h hf
      simp at h
      refine Again.mk (i + 1) ⟨by omega, take_next h hq hf⟩ (by omega) ?_
      rw [wrapN (by have hll : l.length ≤ 2000000000 := (by first | exact hpre | exact hpre.1); omega)]
      (refine ⟨?_, rfl, ?_, ?_, ?_, rfl⟩ <;> repeat' (first | exact trivial | (refine ⟨rfl, ?_⟩) | fail))
    · rename_i h
      simp at h
      have hi' : i = l.length := by omega
      subst hi'
      exact chk_i (idx_none hq).symm
  · cases hcr
def cDelE : Con
  | [.row id ⟨3, .int .i64, l, true⟩, .fn 122 [.box _ 0 73 _ [.a (.s p), .a (.i .i64 fr), .a (.i .u8 pc)]]] => some ⟨LB l :: [S90 p, Sq fr], .row ⟨3, .int .i64, l.filter (fun x => !(fun n => !spEmpty p (IntKind.i64.wrap ((IntKind.i64.wrap (fr + n)).tdiv 2))) x), true⟩, [id], []⟩
  | _ => none
set_option maxHeartbeats 4000000 in
set_option maxRecDepth 20000 in
theorem okDelE (hS : Hyp G) : ConOK Tryz.prog G 60 cDelE := by
  refine seat_con hS.seat [(57, cIdxE), (122, cEle1)] [] ⟨okIdxE hS, okEle1 hS, trivial⟩ Tryz.func60 rfl rfl rfl ?_
  intro rvs cr hcr hpre
  unfold cDelE at hcr
  split at hcr
  · rename_i id l _ _ p fr pc
    cases hcr
    simp only [List.mem_cons, List.not_mem_nil, or_false, forall_eq_or_imp, forall_eq] at hpre
    refine ⟨⟨rfl, rfl, by simp [occOk, normL, occL, occ, vwsL, vws]⟩, fun c hc vs => ?_⟩
    simp only [normL, impL, imp, List.contains_cons, beq_self_eq_true, Bool.true_or, Bool.true_and]
    repeat' (first | exact Bool.noConfusion ‹(!true) = true› | exact Bool.noConfusion ‹(!false) = false› | (intro h; exact h) | (intro h; rw [h]; rfl) | (intro h1 h2; rw [h1, h2]; rfl) | (intro _; assumption) | (intro _; exact rfl) | (intro h; exact Bool.noConfusion (h.symm.trans ‹_ = false›)) | refine ⟨fun _ => ?_, fun _ => ?_⟩ | refine ⟨?_⟩ | refine ⟨?_, ?_⟩ | fail)
    all_goals first | exact trivial | (refine (?_ : (_ : Int) ≠ _); decide) | exact rfl | skip
    all_goals first | exact hpre | exact hpre.1 | exact hpre.2 | exact hpre.2.1 | exact hpre.2.2 | skip
    · rename_i h
      rcases idx_spec (fun n => !spEmpty p (IntKind.i64.wrap ((IntKind.i64.wrap (fr + n)).tdiv 2))) l with ⟨_, h2⟩ | ⟨i, _, h2, _⟩
      · show (⟨3, .int .i64, l, true⟩ : Row) = ⟨3, .int .i64, _, true⟩
        rw [idx_all h2]
      · rw [h2] at h; simp at h
    · rename_i h
      rcases idx_spec (fun n => !spEmpty p (IntKind.i64.wrap ((IntKind.i64.wrap (fr + n)).tdiv 2))) l with ⟨h2, _⟩ | ⟨w, hw, h2, h3, h4⟩
      · rw [h2] at h; simp at h
      · simp only [h2]
        rw [wrapN (by have hll : l.length ≤ 2000000000 := (by first | exact hpre | exact hpre.1); omega)]
        refine Tr_loopH (α := Nat × Nat × List Int) (fun x => [(5, .i .i64 (.ofNat x.1)), (6, .i .i64 (.ofNat x.2.1))]) (fun _ => []) (fun x => [(0, some ⟨3, .int .i64, x.2.2, true⟩)])
          (fun x => DelInv (fun n => !spEmpty p (IntKind.i64.wrap ((IntKind.i64.wrap (fr + n)).tdiv 2))) l x.1 x.2.1 x.2.2) (fun x => l.length - x.2.1) (w, w + 1, l) (DelInv.start hw h3 h4) (by (refine ⟨?_, rfl, ?_, ?_, ?_, rfl⟩ <;> repeat' (first | exact trivial | (refine ⟨rfl, ?_⟩) | fail))) ?_
        rintro ⟨i, j, row⟩ hq
        dsimp only at hq ⊢
        refine vs.go rfl ?_
        repeat' (first | exact Bool.noConfusion ‹(!true) = true› | exact Bool.noConfusion ‹(!false) = false› | (intro h; exact h) | (intro h; rw [h]; rfl) | (intro h1 h2; rw [h1, h2]; rfl) | (intro _; assumption) | (intro _; exact rfl) | (intro h; exact Bool.noConfusion (h.symm.trans ‹_ = false›)) | refine ⟨fun _ => ?_, fun _ => ?_⟩ | refine ⟨?_⟩ | refine ⟨?_, ?_⟩ | fail)
        all_goals first | exact trivial | (refine (?_ : (_ : Int) ≠ _); decide) | exact rfl | skip
        all_goals try dsimp only at *
        all_goals first | exact hpre.1 | exact hpre.2 | exact hpre.2.1 | exact hpre.2.2 | exact NE.of hpre.2 hw | skip
        all_goals (have hlt := hq.lt; have hle := hq.le; have hlen := hq.len)
        · rename_i h; simpa using h
        · rename_i h _; simp at h; show (i : Int) < row.length; omega
        · rename_i h hf
          simp at h
          refine Again.mk (i + 1, j + 1, row.set i (row.getD j 0)) (hq.keep (by omega) hf) (by show l.length - (j + 1) < l.length - j; omega) ?_
          rw [wrapN (by have hll : l.length ≤ 2000000000 := (by first | exact hpre | exact hpre.1); omega), wrapN (by have hll : l.length ≤ 2000000000 := (by first | exact hpre | exact hpre.1); omega)]
          (refine ⟨?_, rfl, ?_, ?_, ?_, rfl⟩ <;> repeat' (first | exact trivial | (refine ⟨rfl, ?_⟩) | fail))
        · rename_i h hf
          simp at h
          refine Again.mk (i, j + 1, row) (hq.del (by omega) hf) (by show l.length - (j + 1) < l.length - j; omega) ?_
          rw [wrapN (by have hll : l.length ≤ 2000000000 := (by first | exact hpre | exact hpre.1); omega)]
          (refine ⟨?_, rfl, ?_, ?_, ?_, rfl⟩ <;> repeat' (first | exact trivial | (refine ⟨rfl, ?_⟩) | fail))
        all_goals rename_i h; simp at h
        · show (i : Int) ≤ row.length; omega
        · show i ≤ row.length; omega
        · exact Nat.le_refl _
        all_goals simp only [Int.toNat_natCast, Int.ofNat_eq_natCast, List.length_append, List.length_take, List.length_replicate, List.length_drop, List.take_append, List.take_take]
        · omega
        · omega
        · rw [show i - min i row.length = 0 by omega, show i - (min i row.length + (row.length - i)) = 0 by omega, Nat.min_self, List.take_zero, List.take_zero, List.append_nil, List.append_nil, hq.done (by omega)]
  · cases hcr
def cIdxL : Con
  | [.row _ ⟨3, .int .i64, l, _⟩, .fn 67 [.box _ 0 9 _ [.a (.s p)], .box _ 0 5 _ [.a (.i .u8 pc)]]] => some ⟨LB l :: [NE l p], .a (.i .i64 (spIdx (fun n => spTaken p pc n) l)), [], []⟩
  | _ => none
set_option maxHeartbeats 4000000 in
set_option maxRecDepth 20000 in
theorem okIdxL (hS : Hyp G) : ConOK Tryz.prog G 57 cIdxL := by
  refine seat_con hS.seat [(67, cAll1)] [none] ⟨okAll1 hS, trivial⟩ Tryz.func57 rfl rfl rfl ?_
  intro rvs cr hcr hpre
  unfold cIdxL at hcr
  split at hcr
  · rename_i x _ l _ _ _ p _ _ pc
    cases hcr
    simp only [List.mem_cons, List.not_mem_nil, or_false, forall_eq_or_imp, forall_eq] at hpre
    refine ⟨⟨rfl, rfl, rfl⟩, fun c hc vs => ?_⟩
    repeat' (first | exact Bool.noConfusion ‹(!true) = true› | exact Bool.noConfusion ‹(!false) = false› | (intro h; exact h) | (intro h; rw [h]; rfl) | (intro h1 h2; rw [h1, h2]; rfl) | (intro _; assumption) | (intro _; exact rfl) | (intro h; exact Bool.noConfusion (h.symm.trans ‹_ = false›)) | refine ⟨fun _ => ?_, fun _ => ?_⟩ | refine ⟨?_⟩ | refine ⟨?_, ?_⟩ | fail)
    all_goals first | exact trivial | (refine (?_ : (_ : Int) ≠ _); decide) | exact rfl | skip
    refine Tr_loopH (α := Nat) (fun i => [(8, .i .i64 (.ofNat i))]) (fun _ => []) (fun _ => [])
        (fun i => i ≤ l.length ∧ ∀ x ∈ l.take i, (fun n => spTaken p pc n) x = false) (fun i => l.length - i) 0 ⟨by omega, by simp⟩ (by (refine ⟨?_, rfl, ?_, ?_, ?_, rfl⟩ <;> repeat' (first | exact trivial | (refine ⟨rfl, ?_⟩) | fail))) ?_
    rintro i ⟨hi, hq⟩
    refine vs.go rfl ?_
    repeat' (first | exact Bool.noConfusion ‹(!true) = true› | exact Bool.noConfusion ‹(!false) = false› | (intro h; exact h) | (intro h; rw [h]; rfl) | (intro h1 h2; rw [h1, h2]; rfl) | (intro _; assumption) | (intro _; exact rfl) | (intro h; exact Bool.noConfusion (h.symm.trans ‹_ = false›)) | refine ⟨fun _ => ?_, fun _ => ?_⟩ | refine ⟨?_⟩ | refine ⟨?_, ?_⟩ | fail)
    all_goals first | exact trivial | (refine (?_ : (_ : Int) ≠ _); decide) | exact rfl | skip
    all_goals first | exact hpre.1 | exact hpre.2 | exact hpre.2.1 | exact hpre.2.2 | exact NE.of' hpre.2 ‹decide _ = true› | skip
    · rename_i h; simpa using h
    · rename_i h hf; simp at h; exact chk_i (idx_some h hq hf).symm
    · rename_i h hf
      simp at h
      refine Again.mk (i + 1) ⟨by omega, take_next h hq hf⟩ (by omega) ?_
      rw [wrapN (by have hll : l.length ≤ 2000000000 := (by first | exact hpre | exact hpre.1); omega)]
      (refine ⟨?_, rfl, ?_, ?_, ?_, rfl⟩ <;> repeat' (first | exact trivial | (refine ⟨rfl, ?_⟩) | fail))
    · rename_i h
      simp at h
      have hi' : i = l.length := by omega
      subst hi'
      exact chk_i (idx_none hq).symm
  · cases hcr
def cDelL : Con
  | [.row id ⟨3, .int .i64, l, true⟩, .fn 67 [.box _ 0 9 _ [.a (.s p)], .box _ 0 5 _ [.a (.i .u8 pc)]]] => some ⟨LB l :: [NE l p], .row ⟨3, .int .i64, l.filter (fun x => !(fun n => spTaken p pc n) x), true⟩, [id], []⟩
  | _ => none
set_option maxHeartbeats 4000000 in
set_option maxRecDepth 20000 in
theorem okDelL (hS : Hyp G) : ConOK Tryz.prog G 60 cDelL := by
  refine seat_con hS.seat [(57, cIdxL), (67, cAll1)] [] ⟨okIdxL hS, okAll1 hS, trivial⟩ Tryz.func60 rfl rfl rfl ?_
  intro rvs cr hcr hpre
  unfold cDelL at hcr
  split at hcr
  · rename_i id l _ _ p _ _ pc
    cases hcr
    simp only [List.mem_cons, List.not_mem_nil, or_false, forall_eq_or_imp, forall_eq] at hpre
    refine ⟨⟨rfl, rfl, by simp [occOk, normL, occL, occ, vwsL, vws]⟩, fun c hc vs => ?_⟩
    simp only [normL, impL, imp, List.contains_cons, beq_self_eq_true, Bool.true_or, Bool.true_and]
    repeat' (first | exact Bool.noConfusion ‹(!true) = true› | exact Bool.noConfusion ‹(!false) = false› | (intro h; exact h) | (intro h; rw [h]; rfl) | (intro h1 h2; rw [h1, h2]; rfl) | (intro _; assumption) | (intro _; exact rfl) | (intro h; exact Bool.noConfusion (h.symm.trans ‹_ = false›)) | refine ⟨fun _ => ?_, fun _ => ?_⟩ | refine ⟨?_⟩ | refine ⟨?_, ?_⟩ | fail)
    all_goals first | exact trivial | (refine (?_ : (_ : Int) ≠ _); decide) | exact rfl | skip
    all_goals first | exact hpre | exact hpre.1 | exact hpre.2 | exact hpre.2.1 | exact hpre.2.2 | skip
    · rename_i h
      rcases idx_spec (fun n => spTaken p pc n) l with ⟨_, h2⟩ | ⟨i, _, h2, _⟩
      · show (⟨3, .int .i64, l, true⟩ : Row) = ⟨3, .int .i64, _, true⟩
        rw [idx_all h2]
      · rw [h2] at h; simp at h
    · rename_i h
      rcases idx_spec (fun n => spTaken p pc n) l with ⟨h2, _⟩ | ⟨w, hw, h2, h3, h4⟩
      · rw [h2] at h; simp at h
      · simp only [h2]
        rw [wrapN (by have hll : l.length ≤ 2000000000 := (by first | exact hpre | exact hpre.1); omega)]
        refine Tr_loopH (α := Nat × Nat × List Int) (fun x => [(5, .i .i64 (.ofNat x.1)), (6, .i .i64 (.ofNat x.2.1))]) (fun _ => []) (fun x => [(0, some ⟨3, .int .i64, x.2.2, true⟩)])
          (fun x => DelInv (fun n => spTaken p pc n) l x.1 x.2.1 x.2.2) (fun x => l.length - x.2.1) (w, w + 1, l) (DelInv.start hw h3 h4) (by (refine ⟨?_, rfl, ?_, ?_, ?_, rfl⟩ <;> repeat' (first | exact trivial | (refine ⟨rfl, ?_⟩) | fail))) ?_
        rintro ⟨i, j, row⟩ hq
        dsimp only at hq ⊢
        refine vs.go rfl ?_
        repeat' (first | exact Bool.noConfusion ‹(!true) = true› | exact Bool.noConfusion ‹(!false) = false› | (intro h; exact h) | (intro h; rw [h]; rfl) | (intro h1 h2; rw [h1, h2]; rfl) | (intro _; assumption) | (intro _; exact rfl) | (intro h; exact Bool.noConfusion (h.symm.trans ‹_ = false›)) | refine ⟨fun _ => ?_, fun _ => ?_⟩ | refine ⟨?_⟩ | refine ⟨?_, ?_⟩ | fail)
        all_goals first | exact trivial | (refine (?_ : (_ : Int) ≠ _); decide) | exact rfl | skip
        all_goals try dsimp only at *
        all_goals first | exact hpre.1 | exact hpre.2 | exact hpre.2.1 | exact hpre.2.2 | exact NE.of hpre.2 hw | skip
        all_goals (have hlt := hq.lt; have hle := hq.le; have hlen := hq.len)
        · rename_i h; simpa using h
        · rename_i h _; simp at h; show (i : Int) < row.length; omega
        · rename_i h hf
          simp at h
          refine Again.mk (i + 1, j + 1, row.set i (row.getD j 0)) (hq.keep (by omega) hf) (by show l.length - (j + 1) < l.length - j; omega) ?_
          rw [wrapN (by have hll : l.length ≤ 2000000000 := (by first | exact hpre | exact hpre.1); omega), wrapN (by have hll : l.length ≤ 2000000000 := (by first | exact hpre | exact hpre.1); omega)]
          (refine ⟨?_, rfl, ?_, ?_, ?_, rfl⟩ <;> repeat' (first | exact trivial | (refine ⟨rfl, ?_⟩) | fail))
        · rename_i h hf
          simp at h
          refine Again.mk (i, j + 1, row) (hq.del (by omega) hf) (by show l.length - (j + 1) < l.length - j; omega) ?_
          rw [wrapN (by have hll : l.length ≤ 2000000000 := (by first | exact hpre | exact hpre.1); omega)]
          (refine ⟨?_, rfl, ?_, ?_, ?_, rfl⟩ <;> repeat' (first | exact trivial | (refine ⟨rfl, ?_⟩) | fail))
        all_goals rename_i h; simp at h
        · show (i : Int) ≤ row.length; omega
        · show i ≤ row.length; omega
        · exact Nat.le_refl _
        all_goals simp only [Int.toNat_natCast, Int.ofNat_eq_natCast, List.length_append, List.length_take, List.length_replicate, List.length_drop, List.take_append, List.take_take]
        · omega
        · omega
        · rw [show i - min i row.length = 0 by omega, show i - (min i row.length + (row.length - i)) = 0 by omega, Nat.min_self, List.take_zero, List.take_zero, List.append_nil, List.append_nil, hq.done (by omega)]
  · cases hcr
theorem okSort (_ : Hyp G) : ConOK Tryz.prog G 69 cSort :=
  con_sort Tryz.func69 rfl rfl (fun blk off cap zs w h1 h2 h3 => Tryz.slices_Sort_int blk off cap zs w h1 h2 h3) (fun p cap w => Tryz.slices_Sort_int_none p cap w)
set_option maxHeartbeats 4000000 in
set_option maxRecDepth 20000 in
theorem okEleL (hS : Hyp G) : ConOK Tryz.prog G 92 cEleL := by
  refine seat_con hS.seat [(121, cFour), (120, cAllow), (1000120, cMark), (60, cDelE), (1000060, cMark)] [] ⟨okFour hS, okAllow hS, okMark, okDelE hS, okMark, trivial⟩ Tryz.func92 rfl rfl rfl ?_
  intro rvs cr hcr hpre
  unfold cEleL at hcr
  split at hcr
  · rename_i p fr pc
    cases hcr
    simp only [List.mem_cons, List.not_mem_nil, or_false, forall_eq_or_imp, forall_eq] at hpre
    refine ⟨⟨rfl, rfl, rfl⟩, fun c hc vs => ?_⟩
    repeat' (first | exact Bool.noConfusion ‹(!true) = true› | exact Bool.noConfusion ‹(!false) = false› | (intro h; exact h) | (intro h; rw [h]; rfl) | (intro h1 h2; rw [h1, h2]; rfl) | (intro _; assumption) | (intro _; exact rfl) | (intro h; exact Bool.noConfusion (h.symm.trans ‹_ = false›)) | refine ⟨fun _ => ?_, fun _ => ?_⟩ | refine ⟨?_⟩ | refine ⟨?_, ?_⟩ | fail)
    all_goals first | exact trivial | (refine (?_ : (_ : Int) ≠ _); decide) | exact rfl | skip
    all_goals first | exact SM.of (by decide) (by decide) | exact hpre.1 | exact hpre.2 | skip
    · simp [spFour, LB]
    · show LB ((spFour fr 2 2).filter (spMay pc))
      have : ((spFour fr 2 2).filter (spMay pc)).length ≤ 4 := List.length_filter_le _ _
      unfold LB; omega
    · show (⟨_, _, _, _⟩ : Row) = ⟨_, _, _, _⟩
      have e : ((spFour fr 2 2).filter (spMay pc)).filter (fun x => !!spEmpty p (IntKind.i64.wrap ((IntKind.i64.wrap (fr + x)).tdiv 2))) = spEleL p fr pc := by
        unfold spEleL
        apply List.filter_congr
        intro x hx
        rw [List.mem_filter] at hx
        have hx := may_sq hx.2
        have h1 := hpre.2.lo
        have h2 := hpre.2.hi
        rw [Bool.not_not, wrap64 (x := fr + x) (by omega) (by omega), Int.tdiv_eq_ediv_of_nonneg (by omega), wrap64 (by omega) (by omega)]
      rw [e]
  · cases hcr
set_option maxHeartbeats 4000000 in
set_option maxRecDepth 20000 in
theorem okIndexI (hS : Hyp G) : ConOK Tryz.prog G 77 cIndexI := by
  refine seat_con hS.seat [] [] trivial Tryz.func77 rfl rfl rfl ?_
  intro rvs cr hcr hpre
  unfold cIndexI at hcr
  split at hcr
  · rename_i x _ l _ v
    cases hcr
    simp only [List.mem_cons, List.not_mem_nil, or_false, forall_eq_or_imp, forall_eq] at hpre
    refine ⟨⟨rfl, rfl, rfl⟩, fun c hc vs => ?_⟩
    repeat' (first | exact Bool.noConfusion ‹(!true) = true› | exact Bool.noConfusion ‹(!false) = false› | (intro h; exact h) | (intro h; rw [h]; rfl) | (intro h1 h2; rw [h1, h2]; rfl) | (intro _; assumption) | (intro _; exact rfl) | (intro h; exact Bool.noConfusion (h.symm.trans ‹_ = false›)) | refine ⟨fun _ => ?_, fun _ => ?_⟩ | refine ⟨?_⟩ | refine ⟨?_, ?_⟩ | fail)
    all_goals first | exact trivial | (refine (?_ : (_ : Int) ≠ _); decide) | exact rfl | skip
    refine Tr_loopH (α := Nat) (fun i => [(8, .i .i64 (.ofNat i))]) (fun _ => []) (fun _ => [])
        (fun i => i ≤ l.length ∧ ∀ x ∈ l.take i, (fun x => v == x) x = false) (fun i => l.length - i) 0 ⟨by omega, by simp⟩ (by (refine ⟨?_, rfl, ?_, ?_, ?_, rfl⟩ <;> repeat' (first | exact trivial | (refine ⟨rfl, ?_⟩) | fail))) ?_
    rintro i ⟨hi, hq⟩
    refine vs.go rfl ?_
    repeat' (first | exact Bool.noConfusion ‹(!true) = true› | exact Bool.noConfusion ‹(!false) = false› | (intro h; exact h) | (intro h; rw [h]; rfl) | (intro h1 h2; rw [h1, h2]; rfl) | (intro _; assumption) | (intro _; exact rfl) | (intro h; exact Bool.noConfusion (h.symm.trans ‹_ = false›)) | refine ⟨fun _ => ?_, fun _ => ?_⟩ | refine ⟨?_⟩ | refine ⟨?_, ?_⟩ | fail)
    all_goals first | exact trivial | (refine (?_ : (_ : Int) ≠ _); decide) | exact rfl | skip
    · rename_i h; simpa using h
    · rename_i h hf; simp at h; exact chk_i (idx_some h hq hf).symm
    · rename_i h hf
      simp at h
      refine Again.mk (i + 1) ⟨by omega, take_next h hq hf⟩ (by omega) ?_
      rw [wrapN (by unfold LB at hpre; omega)]
      (refine ⟨?_, rfl, ?_, ?_, ?_, rfl⟩ <;> repeat' (first | exact trivial | (refine ⟨rfl, ?_⟩) | fail))
    · rename_i h
      simp at h
      have hi' : i = l.length := by omega
      subst hi'
      exact chk_i (idx_none hq).symm
  · cases hcr
set_option maxHeartbeats 4000000 in
set_option maxRecDepth 20000 in
theorem okContainsI (hS : Hyp G) : ConOK Tryz.prog G 52 cContainsI := by
  refine seat_con hS.seat [(77, cIndexI)] [] ⟨okIndexI hS, trivial⟩ Tryz.func52 rfl rfl rfl ?_
  intro rvs cr hcr hpre
  unfold cContainsI at hcr
  split at hcr
  · rename_i x _ l _ v
    cases hcr
    simp only [List.mem_cons, List.not_mem_nil, or_false, forall_eq_or_imp, forall_eq] at hpre
    refine ⟨⟨rfl, rfl, rfl⟩, fun c hc vs => ?_⟩
    repeat' (first | exact Bool.noConfusion ‹(!true) = true› | exact Bool.noConfusion ‹(!false) = false› | (intro h; exact h) | (intro h; rw [h]; rfl) | (intro h1 h2; rw [h1, h2]; rfl) | (intro _; assumption) | (intro _; exact rfl) | (intro h; exact Bool.noConfusion (h.symm.trans ‹_ = false›)) | refine ⟨fun _ => ?_, fun _ => ?_⟩ | refine ⟨?_⟩ | refine ⟨?_, ?_⟩ | fail)
    all_goals first | exact trivial | (refine (?_ : (_ : Int) ≠ _); decide) | exact rfl | skip
    · exact hpre
    · refine chk_b ?_
      rcases idx_spec (fun x => v == x) l with ⟨h1, h2⟩ | ⟨i, hi, h2, h3, h4⟩
      · rw [h1, h2]; rfl
      · rw [h2]
        have : l.any (fun x => v == x) = true := by
          rw [List.any_eq_true]
          refine ⟨l[i], List.getElem_mem hi, ?_⟩
          have e : l.getD i 0 = l[i] := getD_getElem hi
          rw [← e]; exact h4
        rw [this]; simp
  · cases hcr
set_option maxHeartbeats 4000000 in
set_option maxRecDepth 20000 in
theorem okWay (hS : Hyp G) : ConOK Tryz.prog G 66 cWay := by
  refine seat_con hS.seat [(45, cKind), (90, cGen), (91, cAdvL), (92, cEleL), (93, cHorse), (94, cChariot), (95, cCannon), (96, cPawn)] [] ⟨okKind hS, okGen hS, okAdvL hS, okEleL hS, okHorse hS, okChariot hS, okCannon hS, okPawn hS, trivial⟩ Tryz.func66 rfl rfl rfl ?_
  intro rvs cr hcr hpre
  unfold cWay at hcr
  split at hcr
  · rename_i p fr pc
    cases hcr
    simp only [List.mem_cons, List.not_mem_nil, or_false, forall_eq_or_imp, forall_eq] at hpre
    refine ⟨⟨rfl, rfl, rfl⟩, fun c hc vs => ?_⟩
    repeat' (first | exact Bool.noConfusion ‹(!true) = true› | exact Bool.noConfusion ‹(!false) = false› | (intro h; exact h) | (intro h; rw [h]; rfl) | (intro h1 h2; rw [h1, h2]; rfl) | (intro _; assumption) | (intro _; exact rfl) | (intro h; exact Bool.noConfusion (h.symm.trans ‹_ = false›)) | refine ⟨fun _ => ?_, fun _ => ?_⟩ | refine ⟨?_⟩ | refine ⟨?_, ?_⟩ | fail)
    all_goals first | exact trivial | (refine (?_ : (_ : Int) ≠ _); decide) | exact rfl | skip
    all_goals first | exact hpre.s90 ‹_› (by decide) | exact hpre.sq ‹_› (by decide) | skip
    all_goals
      first
        | (show (⟨_, _, _, _⟩ : Row) = ⟨_, _, _, _⟩
           congr 1
           simp only [spWay]
           simp_all
           done)
        | (show spWay p fr pc = []
           simp only [spWay]
           simp_all)
  · cases hcr
set_option maxHeartbeats 4000000 in
set_option maxRecDepth 20000 in
theorem okAll (hS : Hyp G) : ConOK Tryz.prog G 44 cAll := by
  refine seat_con hS.seat [(30, cAt), (66, cWay), (60, cDelL), (1000060, cMark), (69, cSort), (1000069, cMark), (70, cCompact), (1000070, cMark)] [] ⟨okAt hS, okWay hS, okDelL hS, okMark, okSort hS, okMark, okCompact hS, okMark, trivial⟩ Tryz.func44 rfl rfl rfl ?_
  intro rvs cr hcr hpre
  unfold cAll at hcr
  split at hcr
  · rename_i p fr
    cases hcr
    refine ⟨⟨rfl, rfl, rfl⟩, fun c hc vs => ?_⟩
    repeat' (first | exact Bool.noConfusion ‹(!true) = true› | exact Bool.noConfusion ‹(!false) = false› | (intro h; exact h) | (intro h; rw [h]; rfl) | (intro h1 h2; rw [h1, h2]; rfl) | (intro _; assumption) | (intro _; exact rfl) | (intro h; exact Bool.noConfusion (h.symm.trans ‹_ = false›)) | refine ⟨fun _ => ?_, fun _ => ?_⟩ | refine ⟨?_⟩ | refine ⟨?_, ?_⟩ | fail)
    all_goals first | exact trivial | (refine (?_ : (_ : Int) ≠ _); decide) | exact rfl | skip
    · exact way_ok _ _
    · have := way_len' p fr (spAt p fr); unfold LB; omega
    · exact way_ne _ _
    · exact Nat.le_trans (taken_len _ _ _ _) (by decide)
    · unfold LB; rw [sortI_len]; exact Nat.le_trans (taken_len _ _ _ _) (by decide)
  · cases hcr
set_option maxHeartbeats 4000000 in
set_option maxRecDepth 20000 in
theorem okRCan (hS : Hyp G) : ConOK Tryz.prog G 31 cRCan := by
  refine seat_con hS.seat [(44, cAll), (52, cContainsI)] [] ⟨okAll hS, okContainsI hS, trivial⟩ Tryz.func31 rfl rfl rfl ?_
  intro rvs cr hcr hpre
  unfold cRCan at hcr
  split at hcr
  · rename_i p fr to
    cases hcr
    refine ⟨⟨rfl, rfl, rfl⟩, fun c hc vs => ?_⟩
    repeat' (first | exact Bool.noConfusion ‹(!true) = true› | exact Bool.noConfusion ‹(!false) = false› | (intro h; exact h) | (intro h; rw [h]; rfl) | (intro h1 h2; rw [h1, h2]; rfl) | (intro _; assumption) | (intro _; exact rfl) | (intro h; exact Bool.noConfusion (h.symm.trans ‹_ = false›)) | refine ⟨fun _ => ?_, fun _ => ?_⟩ | refine ⟨?_⟩ | refine ⟨?_, ?_⟩ | fail)
    all_goals first | exact trivial | (refine (?_ : (_ : Int) ≠ _); decide) | exact rfl | skip
    exact Nat.le_trans (all_len _ _) (by decide)
  · cases hcr
end
end Go.X

namespace Go.X
open Go Go.Proofs

def cBetween : Con
  | [.a (.s p), .a (.i .i64 a), .a (.i .i64 b)] => some ⟨[], .a (.i .i64 (spBetween p a b)), [], []⟩
  | _ => none
def cIsSide : Con
  | [.a (.i .i64 s)] => some ⟨[], .a (.b (spIsSide s)), [], []⟩
  | _ => none
def cAtt1 : Con
  | [.a (.i .i64 fr), .box _ 0 _ _ [.a (.s p)], .box _ 0 _ _ [.a (.i .i64 n)]] => some ⟨[], .a (.b (!spCan p fr n)), [], []⟩
  | _ => none
def cAttackers : Con
  | [.a (.s p), .a (.i .i64 n), .a (.i .i64 side)] => some ⟨[], .row ⟨3, .int .i64, spAttackers p n side, true⟩, [], []⟩
  | _ => none
def cGeneral : Con
  | [.a (.s p), .a (.i .i64 side)] => some ⟨[], .a (.i .i64 (spGeneral p side)), [], []⟩
  | _ => none
def cFacing : Con
  | [.a (.s p)] => some ⟨[], .a (.b (spFacing p)), [], []⟩
  | _ => none
def cIn : Con
  | [.a (.s p), .a (.i .i64 side)] => some ⟨[], .a (.b (spIn p side)), [], []⟩
  | _ => none
section
variable {G : Nat → World → Prop}
set_option maxHeartbeats 4000000 in
set_option maxRecDepth 20000 in
theorem okIsSide (hS : Hyp G) : ConOK Tryz.prog G 58 cIsSide := by
  refine seat_con hS.seat [] [] trivial Tryz.func58 rfl rfl rfl ?_
  intro rvs cr hcr hpre
  unfold cIsSide at hcr
  split at hcr
  · cases hcr
    refine ⟨⟨rfl, rfl, rfl⟩, fun c hc vs => ?_⟩
    repeat' (first | exact Bool.noConfusion ‹(!true) = true› | exact Bool.noConfusion ‹(!false) = false› | (intro h; exact h) | (intro h; rw [h]; rfl) | (intro h1 h2; rw [h1, h2]; rfl) | (intro _; assumption) | (intro _; exact rfl) | (intro h; exact Bool.noConfusion (h.symm.trans ‹_ = false›)) | refine ⟨fun _ => ?_, fun _ => ?_⟩ | refine ⟨?_⟩ | refine ⟨?_, ?_⟩ | fail)
    all_goals first | exact rfl | (refine chk_i ?_; simp_all [spIsSide]; done) | (refine chk_i ?_; simp only [spIsSide, decide_eq_true_eq, decide_eq_false_iff_not, Bool.not_eq_true', Bool.not_eq_false', Bool.or_eq_true, Bool.or_eq_false_iff, Bool.and_eq_true, Bool.and_eq_false_iff] at *; (repeat' split) <;> first | rfl | omega | (simp_all; done) | (simp_all; omega)) | (refine chk_b ?_; simp_all [spIsSide]; done) | (refine chk_b ?_; simp only [spIsSide, decide_eq_true_eq, decide_eq_false_iff_not, Bool.not_eq_true', Bool.not_eq_false', Bool.or_eq_true, Bool.or_eq_false_iff, Bool.and_eq_true, Bool.and_eq_false_iff] at *; (repeat' split) <;> first | rfl | omega | (simp_all; done) | (simp_all; omega)) | (refine chk_s ?_; simp_all [spIsSide]; done) | (refine chk_s ?_; simp only [spIsSide, decide_eq_true_eq, decide_eq_false_iff_not, Bool.not_eq_true', Bool.not_eq_false', Bool.or_eq_true, Bool.or_eq_false_iff, Bool.and_eq_true, Bool.and_eq_false_iff] at *; (repeat' split) <;> first | rfl | omega | (simp_all; done) | (simp_all; omega)) | (simp_all [spIsSide]; done) | (simp_all [spIsSide]; omega) | skip
  · cases hcr
set_option maxHeartbeats 4000000 in
set_option maxRecDepth 20000 in
theorem okAtt1 (hS : Hyp G) : ConOK Tryz.prog G 61 cAtt1 := by
  refine seat_con hS.seat [(31, cRCan)] [] ⟨okRCan hS, trivial⟩ Tryz.func61 rfl rfl rfl ?_
  intro rvs cr hcr hpre
  unfold cAtt1 at hcr
  split at hcr
  · cases hcr
    refine ⟨⟨rfl, rfl, rfl⟩, fun c hc vs => ?_⟩
    repeat' (first | exact Bool.noConfusion ‹(!true) = true› | exact Bool.noConfusion ‹(!false) = false› | (intro h; exact h) | (intro h; rw [h]; rfl) | (intro h1 h2; rw [h1, h2]; rfl) | (intro _; assumption) | (intro _; exact rfl) | (intro h; exact Bool.noConfusion (h.symm.trans ‹_ = false›)) | refine ⟨fun _ => ?_, fun _ => ?_⟩ | refine ⟨?_⟩ | refine ⟨?_, ?_⟩ | fail)
    all_goals first | exact trivial | (refine (?_ : (_ : Int) ≠ _); decide) | exact rfl | skip
  · cases hcr
def cIdxT : Con
  | [.row _ ⟨3, .int .i64, l, _⟩, .fn 61 [.box _ 0 9 _ [.a (.s p)], .box _ 0 3 _ [.a (.i .i64 n)]]] => some ⟨LB l :: [], .a (.i .i64 (spIdx (fun fr => !spCan p fr n) l)), [], []⟩
  | _ => none
set_option maxHeartbeats 4000000 in
set_option maxRecDepth 20000 in
theorem okIdxT (hS : Hyp G) : ConOK Tryz.prog G 57 cIdxT := by
  refine seat_con hS.seat [(61, cAtt1)] [none] ⟨okAtt1 hS, trivial⟩ Tryz.func57 rfl rfl rfl ?_
  intro rvs cr hcr hpre
  unfold cIdxT at hcr
  split at hcr
  · rename_i x _ l _ _ _ p _ _ n
    cases hcr
    simp only [List.mem_cons, List.not_mem_nil, or_false, forall_eq_or_imp, forall_eq] at hpre
    refine ⟨⟨rfl, rfl, rfl⟩, fun c hc vs => ?_⟩
    repeat' (first | exact Bool.noConfusion ‹(!true) = true› | exact Bool.noConfusion ‹(!false) = false› | (intro h; exact h) | (intro h; rw [h]; rfl) | (intro h1 h2; rw [h1, h2]; rfl) | (intro _; assumption) | (intro _; exact rfl) | (intro h; exact Bool.noConfusion (h.symm.trans ‹_ = false›)) | refine ⟨fun _ => ?_, fun _ => ?_⟩ | refine ⟨?_⟩ | refine ⟨?_, ?_⟩ | fail)
    all_goals first | exact trivial | (refine (?_ : (_ : Int) ≠ _); decide) | exact rfl | skip
    refine Tr_loopH (α := Nat) (fun i => [(8, .i .i64 (.ofNat i))]) (fun _ => []) (fun _ => [])
        (fun i => i ≤ l.length ∧ ∀ x ∈ l.take i, (fun fr => !spCan p fr n) x = false) (fun i => l.length - i) 0 ⟨by omega, by simp⟩ (by (refine ⟨?_, rfl, ?_, ?_, ?_, rfl⟩ <;> repeat' (first | exact trivial | (refine ⟨rfl, ?_⟩) | fail))) ?_
    rintro i ⟨hi, hq⟩
    refine vs.go rfl ?_
    repeat' (first | exact Bool.noConfusion ‹(!true) = true› | exact Bool.noConfusion ‹(!false) = false› | (intro h; exact h) | (intro h; rw [h]; rfl) | (intro h1 h2; rw [h1, h2]; rfl) | (intro _; assumption) | (intro _; exact rfl) | (intro h; exact Bool.noConfusion (h.symm.trans ‹_ = false›)) | refine ⟨fun _ => ?_, fun _ => ?_⟩ | refine ⟨?_⟩ | refine ⟨?_, ?_⟩ | fail)
    all_goals first | exact trivial | (refine (?_ : (_ : Int) ≠ _); decide) | exact rfl | skip
    all_goals first | exact hpre.1 | exact hpre.2 | exact hpre.2.1 | exact hpre.2.2 | exact NE.of' hpre.2 ‹decide _ = true› | skip
    · rename_i h; simpa using h
    · rename_i h hf; simp at h; exact chk_i (idx_some h hq hf).symm
    · rename_i h hf
      simp at h
      refine Again.mk (i + 1) ⟨by omega, take_next h hq hf⟩ (by omega) ?_
      rw [wrapN (by have hll : l.length ≤ 2000000000 := (by first | exact hpre | exact hpre.1); omega)]
      (refine ⟨?_, rfl, ?_, ?_, ?_, rfl⟩ <;> repeat' (first | exact trivial | (refine ⟨rfl, ?_⟩) | fail))
    · rename_i h
      simp at h
      have hi' : i = l.length := by omega
      subst hi'
      exact chk_i (idx_none hq).symm
  · cases hcr
def cDelT : Con
  | [.row id ⟨3, .int .i64, l, true⟩, .fn 61 [.box _ 0 9 _ [.a (.s p)], .box _ 0 3 _ [.a (.i .i64 n)]]] => some ⟨LB l :: [], .row ⟨3, .int .i64, l.filter (fun x => !(fun fr => !spCan p fr n) x), true⟩, [id], []⟩
  | _ => none
set_option maxHeartbeats 4000000 in
set_option maxRecDepth 20000 in
theorem okDelT (hS : Hyp G) : ConOK Tryz.prog G 60 cDelT := by
  refine seat_con hS.seat [(57, cIdxT), (61, cAtt1)] [] ⟨okIdxT hS, okAtt1 hS, trivial⟩ Tryz.func60 rfl rfl rfl ?_
  intro rvs cr hcr hpre
  unfold cDelT at hcr
  split at hcr
  · rename_i id l _ _ p _ _ n
    cases hcr
    simp only [List.mem_cons, List.not_mem_nil, or_false, forall_eq_or_imp, forall_eq] at hpre
    refine ⟨⟨rfl, rfl, by simp [occOk, normL, occL, occ, vwsL, vws]⟩, fun c hc vs => ?_⟩
    simp only [normL, impL, imp, List.contains_cons, beq_self_eq_true, Bool.true_or, Bool.true_and]
    repeat' (first | exact Bool.noConfusion ‹(!true) = true› | exact Bool.noConfusion ‹(!false) = false› | (intro h; exact h) | (intro h; rw [h]; rfl) | (intro h1 h2; rw [h1, h2]; rfl) | (intro _; assumption) | (intro _; exact rfl) | (intro h; exact Bool.noConfusion (h.symm.trans ‹_ = false›)) | refine ⟨fun _ => ?_, fun _ => ?_⟩ | refine ⟨?_⟩ | refine ⟨?_, ?_⟩ | fail)
    all_goals first | exact trivial | (refine (?_ : (_ : Int) ≠ _); decide) | exact rfl | skip
    all_goals first | exact hpre | exact hpre.1 | exact hpre.2 | exact hpre.2.1 | exact hpre.2.2 | skip
    · rename_i h
      rcases idx_spec (fun fr => !spCan p fr n) l with ⟨_, h2⟩ | ⟨i, _, h2, _⟩
      · show (⟨3, .int .i64, l, true⟩ : Row) = ⟨3, .int .i64, _, true⟩
        rw [idx_all h2]
      · rw [h2] at h; simp at h
    · rename_i h
      rcases idx_spec (fun fr => !spCan p fr n) l with ⟨h2, _⟩ | ⟨w, hw, h2, h3, h4⟩
      · rw [h2] at h; simp at h
      · simp only [h2]
        rw [wrapN (by have hll : l.length ≤ 2000000000 := (by first | exact hpre | exact hpre.1); omega)]
        refine Tr_loopH (α := Nat × Nat × List Int) (fun x => [(5, .i .i64 (.ofNat x.1)), (6, .i .i64 (.ofNat x.2.1))]) (fun _ => []) (fun x => [(0, some ⟨3, .int .i64, x.2.2, true⟩)])
          (fun x => DelInv (fun fr => !spCan p fr n) l x.1 x.2.1 x.2.2) (fun x => l.length - x.2.1) (w, w + 1, l) (DelInv.start hw h3 h4) (by (refine ⟨?_, rfl, ?_, ?_, ?_, rfl⟩ <;> repeat' (first | exact trivial | (refine ⟨rfl, ?_⟩) | fail))) ?_
        rintro ⟨i, j, row⟩ hq
        dsimp only at hq ⊢
        refine vs.go rfl ?_
        repeat' (first | exact Bool.noConfusion ‹(!true) = true› | exact Bool.noConfusion ‹(!false) = false› | (intro h; exact h) | (intro h; rw [h]; rfl) | (intro h1 h2; rw [h1, h2]; rfl) | (intro _; assumption) | (intro _; exact rfl) | (intro h; exact Bool.noConfusion (h.symm.trans ‹_ = false›)) | refine ⟨fun _ => ?_, fun _ => ?_⟩ | refine ⟨?_⟩ | refine ⟨?_, ?_⟩ | fail)
        all_goals first | exact trivial | (refine (?_ : (_ : Int) ≠ _); decide) | exact rfl | skip
        all_goals try dsimp only at *
        all_goals first | exact hpre.1 | exact hpre.2 | exact hpre.2.1 | exact hpre.2.2 | exact NE.of hpre.2 hw | skip
        all_goals (have hlt := hq.lt; have hle := hq.le; have hlen := hq.len)
        · rename_i h; simpa using h
        · rename_i h _; simp at h; show (i : Int) < row.length; omega
        · rename_i h hf
          simp at h
          refine Again.mk (i + 1, j + 1, row.set i (row.getD j 0)) (hq.keep (by omega) hf) (by show l.length - (j + 1) < l.length - j; omega) ?_
          rw [wrapN (by have hll : l.length ≤ 2000000000 := (by first | exact hpre | exact hpre.1); omega), wrapN (by have hll : l.length ≤ 2000000000 := (by first | exact hpre | exact hpre.1); omega)]
          (refine ⟨?_, rfl, ?_, ?_, ?_, rfl⟩ <;> repeat' (first | exact trivial | (refine ⟨rfl, ?_⟩) | fail))
        · rename_i h hf
          simp at h
          refine Again.mk (i, j + 1, row) (hq.del (by omega) hf) (by show l.length - (j + 1) < l.length - j; omega) ?_
          rw [wrapN (by have hll : l.length ≤ 2000000000 := (by first | exact hpre | exact hpre.1); omega)]
          (refine ⟨?_, rfl, ?_, ?_, ?_, rfl⟩ <;> repeat' (first | exact trivial | (refine ⟨rfl, ?_⟩) | fail))
        all_goals rename_i h; simp at h
        · show (i : Int) ≤ row.length; omega
        · show i ≤ row.length; omega
        · exact Nat.le_refl _
        all_goals simp only [Int.toNat_natCast, Int.ofNat_eq_natCast, List.length_append, List.length_take, List.length_replicate, List.length_drop, List.take_append, List.take_take]
        · omega
        · omega
        · rw [show i - min i row.length = 0 by omega, show i - (min i row.length + (row.length - i)) = 0 by omega, Nat.min_self, List.take_zero, List.take_zero, List.append_nil, List.append_nil, hq.done (by omega)]
  · cases hcr
set_option maxHeartbeats 4000000 in
set_option maxRecDepth 20000 in
theorem okAttackers (hS : Hyp G) : ConOK Tryz.prog G 37 cAttackers := by
  refine seat_con hS.seat [(58, cIsSide), (59, cFile), (56, cPut), (43, cPieces), (60, cDelT), (1000060, cMark)] [] ⟨okIsSide hS, okFile hS, okPut hS, okPieces hS, okDelT hS, okMark, trivial⟩ Tryz.func37 rfl rfl rfl ?_
  intro rvs cr hcr hpre
  unfold cAttackers at hcr
  split at hcr
  · rename_i p n side
    cases hcr
    refine ⟨⟨rfl, rfl, rfl⟩, fun c hc vs => ?_⟩
    repeat' (first | exact Bool.noConfusion ‹(!true) = true› | exact Bool.noConfusion ‹(!false) = false› | (intro h; exact h) | (intro h; rw [h]; rfl) | (intro h1 h2; rw [h1, h2]; rfl) | (intro _; assumption) | (intro _; exact rfl) | (intro h; exact Bool.noConfusion (h.symm.trans ‹_ = false›)) | refine ⟨fun _ => ?_, fun _ => ?_⟩ | refine ⟨?_⟩ | refine ⟨?_, ?_⟩ | fail)
    all_goals first | exact trivial | (refine (?_ : (_ : Int) ≠ _); decide) | exact rfl | skip
    · rename_i h
      show spAttackers p n side = []
      rw [spAttackers, if_neg]
      simp at h ⊢
      intro h1
      rcases h with h | h
      · rw [h] at h1; cases h1
      · exact h
    all_goals
      rename_i h
      simp only [Bool.or_eq_false_iff, decide_eq_false_iff_not] at h
      have hs := bn h.1
      have hb := side_in hs
    · omega
    · show side < 2; omega
    · exact Nat.le_trans (pieces_len _ _) (by decide)
    · show (⟨_, _, _, _⟩ : Row) = ⟨_, _, _, _⟩
      rw [spAttackers, if_pos (by rw [hs]; simp; omega)]
      simp only [Bool.not_not]
      rfl
  · cases hcr
set_option maxHeartbeats 4000000 in
set_option maxRecDepth 20000 in
theorem okGeneral (hS : Hyp G) : ConOK Tryz.prog G 71 cGeneral := by
  refine seat_con hS.seat [(58, cIsSide), (99, cFind)] [] ⟨okIsSide hS, okFind hS, trivial⟩ Tryz.func71 rfl rfl rfl ?_
  intro rvs cr hcr hpre
  unfold cGeneral at hcr
  split at hcr
  · rename_i p side
    cases hcr
    refine ⟨⟨rfl, rfl, rfl⟩, fun c hc vs => ?_⟩
    repeat' (first | exact Bool.noConfusion ‹(!true) = true› | exact Bool.noConfusion ‹(!false) = false› | (intro h; exact h) | (intro h; rw [h]; rfl) | (intro h1 h2; rw [h1, h2]; rfl) | (intro _; assumption) | (intro _; exact rfl) | (intro h; exact Bool.noConfusion (h.symm.trans ‹_ = false›)) | refine ⟨fun _ => ?_, fun _ => ?_⟩ | refine ⟨?_⟩ | refine ⟨?_, ?_⟩ | fail)
    all_goals first | exact trivial | (refine (?_ : (_ : Int) ≠ _); decide) | exact rfl | skip
    · rename_i h
      exact chk_i (by rw [spGeneral, if_neg (by rw [bt h]; simp)])
    · exact (side_in (bn ‹_›)).1
    · exact (side_in (bn ‹_›)).2
    · rename_i h
      have hs := bn h
      have e : spGeneral p side = (spFind p (kingOf side)).headD (-1) := by rw [spGeneral, if_pos hs]
      refine Tr_loopH (α := Nat) (fun i => [(15, .i .i64 (.ofNat i))]) (fun _ => []) (fun _ => []) (fun i => i = 0) (fun i => 0) 0 rfl (by (refine ⟨?_, rfl, ?_, ?_, ?_, rfl⟩ <;> repeat' (first | exact trivial | (refine ⟨rfl, ?_⟩) | fail))) ?_
      intro i hi
      subst hi
      refine vs.go rfl ?_
      repeat' (first | exact Bool.noConfusion ‹(!true) = true› | exact Bool.noConfusion ‹(!false) = false› | (intro h; exact h) | (intro h; rw [h]; rfl) | (intro h1 h2; rw [h1, h2]; rfl) | (intro _; assumption) | (intro _; exact rfl) | (intro h; exact Bool.noConfusion (h.symm.trans ‹_ = false›)) | refine ⟨fun _ => ?_, fun _ => ?_⟩ | refine ⟨?_⟩ | refine ⟨?_, ?_⟩ | fail)
      all_goals first | exact trivial | (refine (?_ : (_ : Int) ≠ _); decide) | exact rfl | skip
      · rename_i h0; simpa using h0
      · rename_i h0
        refine chk_i ?_
        rw [e]
        show (spFind p (kingOf side)).getD 0 0 = _
        cases hl : spFind p (kingOf side) with
        | nil => change decide (Int.ofNat 0 < ((spFind p (kingOf side)).length : Int)) = true at h0; rw [hl] at h0; simp at h0
        | cons x l => rfl
      · rename_i h0
        refine chk_i ?_
        rw [e]
        cases hl : spFind p (kingOf side) with
        | nil => rfl
        | cons x l => change decide (Int.ofNat 0 < ((spFind p (kingOf side)).length : Int)) = false at h0; rw [hl] at h0; simp at h0
  · cases hcr
set_option maxHeartbeats 4000000 in
set_option maxRecDepth 20000 in
theorem okBetween (hS : Hyp G) : ConOK Tryz.prog G 72 cBetween := by
  refine seat_con hS.seat [(51, cIs), (68, cRIs), (100, cRank), (59, cFile)] [] ⟨okIs hS, okRIs hS, okRank hS, okFile hS, trivial⟩ Tryz.func72 rfl rfl rfl ?_
  intro rvs cr hcr hpre
  unfold cBetween at hcr
  split at hcr
  · rename_i p a b
    cases hcr
    refine ⟨⟨rfl, rfl, rfl⟩, fun c hc vs => ?_⟩
    repeat' (first | exact Bool.noConfusion ‹(!true) = true› | exact Bool.noConfusion ‹(!false) = false› | (intro h; exact h) | (intro h; rw [h]; rfl) | (intro h1 h2; rw [h1, h2]; rfl) | (intro _; assumption) | (intro _; exact rfl) | (intro h; exact Bool.noConfusion (h.symm.trans ‹_ = false›)) | refine ⟨fun _ => ?_, fun _ => ?_⟩ | refine ⟨?_⟩ | refine ⟨?_, ?_⟩ | fail)
    all_goals first | exact trivial | (refine (?_ : (_ : Int) ≠ _); decide) | exact rfl | skip
    · rename_i h; exact chk_i (by rw [spBetween, if_pos h])
    all_goals
      have h := ‹(!spIs p || !spIsSquare a || !spIsSquare b || a == b) = false›
      have h' := h
      simp only [Bool.or_eq_false_iff] at h'
      have ha := isSquare_iff.1 (bn h'.1.1.2)
      have hb := isSquare_iff.1 (bn h'.1.2)
      have h90 := spIs_size (bn h'.1.1.1)
      have hmin : 0 ≤ imin a b ∧ imin a b < 90 := by unfold imin; split <;> omega
      have hmax : 0 ≤ imax a b ∧ imax a b < 90 := by unfold imax; split <;> omega
      have hw1 : IntKind.i64.wrap ((if b < a then b else a) + 1) = imin a b + 1 := wrap64 (x := imin a b + 1) (by omega) (by omega)
      have hw9 : IntKind.i64.wrap ((if b < a then b else a) + 9) = imin a b + 9 := wrap64 (x := imin a b + 9) (by omega) (by omega)
    · have hr := beqT ‹(spRank a == spRank b) = true›
      have e : spBetween p a b = spCnt p a b 1 := by rw [spBetween, if_neg (by rw [h]; simp), if_pos hr]
      rw [hw1]
      refine Tr_loopH (α := Nat × Int × Int) (fun x => [(8, .i .i64 x.2.1), (9, .i .i64 x.2.2)]) (fun _ => []) (fun _ => [])
        (fun x => x.2.1 + cntGo p 1 (imax a b) x.1 x.2.2 = spCnt p a b 1 ∧ 0 ≤ x.2.2 ∧ 0 ≤ x.2.1 ∧ x.2.1 + x.1 ≤ 90 ∧ imax a b ≤ x.2.2 + x.1 ∧ x.2.2 ≤ 200) (fun x => x.1) (90, 0, imin a b + 1) ⟨by show 0 + _ = _; rw [Int.zero_add]; rfl, by show 0 ≤ imin a b + 1; omega, Int.le_refl 0, by show (0 : Int) + 90 ≤ 90; omega, by show imax a b ≤ imin a b + 1 + 90; omega, by show imin a b + 1 ≤ 200; omega⟩ (by (refine ⟨?_, rfl, ?_, ?_, ?_, rfl⟩ <;> repeat' (first | exact trivial | (refine ⟨rfl, ?_⟩) | fail))) ?_
      rintro ⟨k, m, i⟩ ⟨hq, h1, h2, h3, h4, h5⟩
      dsimp only at hq h1 h2 h3 h4 h5 ⊢
      refine vs.go rfl ?_
      repeat' (first | exact Bool.noConfusion ‹(!true) = true› | exact Bool.noConfusion ‹(!false) = false› | (intro h; exact h) | (intro h; rw [h]; rfl) | (intro h1 h2; rw [h1, h2]; rfl) | (intro _; assumption) | (intro _; exact rfl) | (intro h; exact Bool.noConfusion (h.symm.trans ‹_ = false›)) | refine ⟨fun _ => ?_, fun _ => ?_⟩ | refine ⟨?_⟩ | refine ⟨?_, ?_⟩ | fail)
      all_goals first | exact trivial | (refine (?_ : (_ : Int) ≠ _); decide) | exact rfl | skip
      all_goals try dsimp only at *
      · exact h1
      · rename_i h; have h : decide (i < imax a b) = true := h; simp at h; show i < (p.size : Int); omega
      · rename_i h hc
        have h : decide (i < imax a b) = true := h
        simp at h
        obtain ⟨k, rfl⟩ : ∃ k', k = k' + 1 := ⟨k - 1, by omega⟩
        rw [cntGo, if_pos h, if_neg (bneT hc)] at hq
        refine Again.mk (k, m + 1, i + 1) ⟨by dsimp only; omega, by show 0 ≤ i + 1; omega, by dsimp only; omega, by dsimp only; omega, by show imax a b ≤ i + 1 + k; omega, by show i + 1 ≤ 200; omega⟩ (by show k < k + 1; omega) ?_
        dsimp only
        rw [wrap64 (x := m + 1) (by omega) (by omega), wrap64 (x := i + 1) (by omega) (by omega)]
        (refine ⟨?_, rfl, ?_, ?_, ?_, rfl⟩ <;> repeat' (first | exact trivial | (refine ⟨rfl, ?_⟩) | fail))
      · rename_i h hc
        have h : decide (i < imax a b) = true := h
        simp at h
        obtain ⟨k, rfl⟩ : ∃ k', k = k' + 1 := ⟨k - 1, by omega⟩
        rw [cntGo, if_pos h, if_pos (bneF hc)] at hq
        refine Again.mk (k, m, i + 1) ⟨by dsimp only; omega, by show 0 ≤ i + 1; omega, by dsimp only; omega, by dsimp only; omega, by show imax a b ≤ i + 1 + k; omega, by show i + 1 ≤ 200; omega⟩ (by show k < k + 1; omega) ?_
        dsimp only
        rw [wrap64 (x := i + 1) (by omega) (by omega)]
        (refine ⟨?_, rfl, ?_, ?_, ?_, rfl⟩ <;> repeat' (first | exact trivial | (refine ⟨rfl, ?_⟩) | fail))
      · rename_i h
        have h : decide (i < imax a b) = false := h
        simp at h
        refine chk_i ?_
        rw [e, ← hq]
        cases k with
        | zero => rw [cntGo]; omega
        | succ k => rw [cntGo, if_neg (by omega)]; omega
    · have hr := beqF ‹(spRank a == spRank b) = false›
      have hf := beqT ‹(spFile a == spFile b) = true›
      have e : spBetween p a b = spCnt p a b 9 := by rw [spBetween, if_neg (by rw [h]; simp), if_neg hr, if_pos hf]
      rw [hw9]
      refine Tr_loopH (α := Nat × Int × Int) (fun x => [(8, .i .i64 x.2.1), (9, .i .i64 x.2.2)]) (fun _ => []) (fun _ => [])
        (fun x => x.2.1 + cntGo p 9 (imax a b) x.1 x.2.2 = spCnt p a b 9 ∧ 0 ≤ x.2.2 ∧ 0 ≤ x.2.1 ∧ x.2.1 + x.1 ≤ 90 ∧ imax a b ≤ x.2.2 + x.1 ∧ x.2.2 ≤ 200) (fun x => x.1) (90, 0, imin a b + 9) ⟨by show 0 + _ = _; rw [Int.zero_add]; rfl, by show 0 ≤ imin a b + 9; omega, Int.le_refl 0, by show (0 : Int) + 90 ≤ 90; omega, by show imax a b ≤ imin a b + 9 + 90; omega, by show imin a b + 9 ≤ 200; omega⟩ (by (refine ⟨?_, rfl, ?_, ?_, ?_, rfl⟩ <;> repeat' (first | exact trivial | (refine ⟨rfl, ?_⟩) | fail))) ?_
      rintro ⟨k, m, i⟩ ⟨hq, h1, h2, h3, h4, h5⟩
      dsimp only at hq h1 h2 h3 h4 h5 ⊢
      refine vs.go rfl ?_
      repeat' (first | exact Bool.noConfusion ‹(!true) = true› | exact Bool.noConfusion ‹(!false) = false› | (intro h; exact h) | (intro h; rw [h]; rfl) | (intro h1 h2; rw [h1, h2]; rfl) | (intro _; assumption) | (intro _; exact rfl) | (intro h; exact Bool.noConfusion (h.symm.trans ‹_ = false›)) | refine ⟨fun _ => ?_, fun _ => ?_⟩ | refine ⟨?_⟩ | refine ⟨?_, ?_⟩ | fail)
      all_goals first | exact trivial | (refine (?_ : (_ : Int) ≠ _); decide) | exact rfl | skip
      all_goals try dsimp only at *
      · exact h1
      · rename_i h; have h : decide (i < imax a b) = true := h; simp at h; show i < (p.size : Int); omega
      · rename_i h hc
        have h : decide (i < imax a b) = true := h
        simp at h
        obtain ⟨k, rfl⟩ : ∃ k', k = k' + 1 := ⟨k - 1, by omega⟩
        rw [cntGo, if_pos h, if_neg (bneT hc)] at hq
        refine Again.mk (k, m + 1, i + 9) ⟨by dsimp only; omega, by show 0 ≤ i + 9; omega, by dsimp only; omega, by dsimp only; omega, by show imax a b ≤ i + 9 + k; omega, by show i + 9 ≤ 200; omega⟩ (by show k < k + 1; omega) ?_
        dsimp only
        rw [wrap64 (x := m + 1) (by omega) (by omega), wrap64 (x := i + 9) (by omega) (by omega)]
        (refine ⟨?_, rfl, ?_, ?_, ?_, rfl⟩ <;> repeat' (first | exact trivial | (refine ⟨rfl, ?_⟩) | fail))
      · rename_i h hc
        have h : decide (i < imax a b) = true := h
        simp at h
        obtain ⟨k, rfl⟩ : ∃ k', k = k' + 1 := ⟨k - 1, by omega⟩
        rw [cntGo, if_pos h, if_pos (bneF hc)] at hq
        refine Again.mk (k, m, i + 9) ⟨by dsimp only; omega, by show 0 ≤ i + 9; omega, by dsimp only; omega, by dsimp only; omega, by show imax a b ≤ i + 9 + k; omega, by show i + 9 ≤ 200; omega⟩ (by show k < k + 1; omega) ?_
        dsimp only
        rw [wrap64 (x := i + 9) (by omega) (by omega)]
        (refine ⟨?_, rfl, ?_, ?_, ?_, rfl⟩ <;> repeat' (first | exact trivial | (refine ⟨rfl, ?_⟩) | fail))
      · rename_i h
        have h : decide (i < imax a b) = false := h
        simp at h
        refine chk_i ?_
        rw [e, ← hq]
        cases k with
        | zero => rw [cntGo]; omega
        | succ k => rw [cntGo, if_neg (by omega)]; omega
    · have hr := beqF ‹(spRank a == spRank b) = false›
      have hf := beqF ‹(spFile a == spFile b) = false›
      exact chk_i (by rw [spBetween, if_neg (by rw [h]; simp), if_neg hr, if_neg hf])
  · cases hcr
set_option maxHeartbeats 4000000 in
set_option maxRecDepth 20000 in
theorem okFacing (hS : Hyp G) : ConOK Tryz.prog G 46 cFacing := by
  refine seat_con hS.seat [(71, cGeneral), (59, cFile), (72, cBetween)] [] ⟨okGeneral hS, okFile hS, okBetween hS, trivial⟩ Tryz.func46 rfl rfl rfl ?_
  intro rvs cr hcr hpre
  unfold cFacing at hcr
  split at hcr
  · rename_i p
    cases hcr
    refine ⟨⟨rfl, rfl, rfl⟩, fun c hc vs => ?_⟩
    repeat' (first | exact Bool.noConfusion ‹(!true) = true› | exact Bool.noConfusion ‹(!false) = false› | (intro h; exact h) | (intro h; rw [h]; rfl) | (intro h1 h2; rw [h1, h2]; rfl) | (intro _; assumption) | (intro _; exact rfl) | (intro h; exact Bool.noConfusion (h.symm.trans ‹_ = false›)) | refine ⟨fun _ => ?_, fun _ => ?_⟩ | refine ⟨?_⟩ | refine ⟨?_, ?_⟩ | fail)
    all_goals first | exact trivial | (refine (?_ : (_ : Int) ≠ _); decide) | exact rfl | skip
    all_goals rotate_left 100; done
  · cases hcr
set_option maxHeartbeats 4000000 in
set_option maxRecDepth 20000 in
theorem okIn (hS : Hyp G) : ConOK Tryz.prog G 47 cIn := by
  refine seat_con hS.seat [(71, cGeneral), (37, cAttackers)] [] ⟨okGeneral hS, okAttackers hS, trivial⟩ Tryz.func47 rfl rfl rfl ?_
  intro rvs cr hcr hpre
  unfold cIn at hcr
  split at hcr
  · rename_i p side
    cases hcr
    refine ⟨⟨rfl, rfl, rfl⟩, fun c hc vs => ?_⟩
    repeat' (first | exact Bool.noConfusion ‹(!true) = true› | exact Bool.noConfusion ‹(!false) = false› | (intro h; exact h) | (intro h; rw [h]; rfl) | (intro h1 h2; rw [h1, h2]; rfl) | (intro _; assumption) | (intro _; exact rfl) | (intro h; exact Bool.noConfusion (h.symm.trans ‹_ = false›)) | refine ⟨fun _ => ?_, fun _ => ?_⟩ | refine ⟨?_⟩ | refine ⟨?_, ?_⟩ | fail)
    all_goals first | exact trivial | (refine (?_ : (_ : Int) ≠ _); decide) | exact rfl | skip
    · rename_i h
      refine chk_b ?_
      have hs : spIsSide side = true := by
        cases hs : spIsSide side with
        | true => rfl
        | false => rw [spGeneral, hs] at h; simp at h
      have := side_in hs
      rw [wrap64 (x := 1 - side) (by omega) (by omega)]
      simp [spIn]
    · rename_i h
      refine chk_b ?_
      have h : decide (0 ≤ spGeneral p side) = false := h
      rw [spIn, h]; rfl
  · cases hcr
end
end Go.X
