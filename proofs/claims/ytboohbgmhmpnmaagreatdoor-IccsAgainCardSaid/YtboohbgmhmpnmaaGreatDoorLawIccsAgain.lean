/-
  The law IccsAgain holds: it returns true, whatever the input; the input reads as it did. Conditions: none of this proof's own.
-/
import Derived.Test.YtboohbgmhmpnmaaGreatDoorA4
import Derived.Test.YtboohbgmhmpnmaaGreatDoorCards
import Derived.Test.YtboohbgmhmpnmaaGreatDoorTie
import Derived.WalkKit
import Derived.ProofKit
import Derived.OpenShut
import Derived.ShutString
import Derived.Below
import Derived.SevenTiedAt
import Derived.Deep.DeepHandedRow
import Derived.Lib.LaidTab
import Derived.Lib.SmallJoins

set_option linter.unusedSimpArgs false
set_option linter.unusedVariables false

namespace Go.X
open Go Go.Proofs

def cIccsAgain : Con
  | [.agg [.a (.s _), .a (.i .i64 _), .a (.i .i64 _), .a (.i .i64 _)], .a (.s _)] => some ⟨[Lv], .a (.b true), [], []⟩
  | _ => none
theorem text_size (l : List (Int × Int)) : (spText l).size ≤ 5 * l.length := by
  unfold spText
  split
  · have := join_len [32] ((l.map prM).map (·.data.toList)) (fun x hx => by
      simp only [List.map_map, List.mem_map] at hx
      obtain ⟨m, _, rfl⟩ := hx
      exact print_len m.1 m.2)
    simp only [List.length_map] at this
    exact this
  · exact Nat.zero_le _
section
variable {G : Nat → World → Prop}
set_option maxHeartbeats 4000000 in
set_option maxRecDepth 20000 in
theorem okIccsAgain (hS : Hyp G) : ConOK Tryz.prog G 5 cIccsAgain := by
  refine seat_con hS.seat [(8, cLive12), (13, cILine), (14, cIText), (15, cSame)] [] ⟨okLive12 hS, okILine hS, okIText hS, okSame hS, trivial⟩ Tryz.func5 rfl rfl rfl ?_
  intro rvs cr hcr hpre
  unfold cIccsAgain at hcr
  split at hcr
  · rename_i p side clock full s
    cases hcr
    simp only [List.mem_cons, List.not_mem_nil, or_false, forall_eq_or_imp, forall_eq] at hpre
    refine ⟨⟨rfl, rfl, rfl⟩, fun c hc vs => ?_⟩
    repeat' (first | exact Bool.noConfusion ‹(!true) = true› | exact Bool.noConfusion ‹(!false) = false› | (intro h; exact h) | (intro h; rw [h]; rfl) | (intro h1 h2; rw [h1, h2]; rfl) | (intro _; assumption) | (intro _; exact rfl) | (intro h; exact Bool.noConfusion (h.symm.trans ‹_ = false›)) | refine ⟨fun _ => ?_, fun _ => ?_⟩ | refine ⟨?_⟩ | refine ⟨?_, ?_⟩ | fail)
    all_goals first | exact hpre | exact rfl | (intro _; exact hpre) | skip
    all_goals
      have hz := ‹(decide ((p.size : Int) > 200) || decide ((s.size : Int) > 300)) = false›
      simp only [Bool.or_eq_false_iff, decide_eq_false_iff_not] at hz
      have hl := line_len (p, side, clock, full) s
    · exact ⟨by omega, trivial, trivial⟩
    · refine chk_b ?_
      obtain ⟨h1, h2⟩ := line_fail (bneT ‹((spLine (p, side, clock, full) s).2.2 != 0) = true›)
      rw [h1, h2]
      simp [EK.eqb, zeroP, strEq_self]
    all_goals have he := bneF ‹((spLine (p, side, clock, full) s).2.2 != 0) = false›
    · exact ⟨by omega, trivial, trivial⟩
    · exact ⟨by have := text_size (spLine (p, side, clock, full) s).1; omega, trivial, trivial⟩
    · rw [line_again he]
      exact ⟨by omega, by omega, trivial⟩
    · refine chk_b ?_
      rw [line_again he, sameM_self, he]
      simp [EK.eqb, strEq_self]
  · cases hcr
end
end Go.X

namespace Go.Proofs.YtboohbgmhmpnmaaGreatDoor.fnIccsAgain
open Go.ChangeShapes Go.WideShapes Go.ChangeAt Go.RowKit
open Go.ChangeMaps (open_string shut_string)
open Go.Joins (open_agg4 shut_agg4)

theorem own : ownKnob Tryz.prog.godebug = none := by kernel_rfl
theorem gTab : Tryz.prog.globalNamed "math/bits.deBruijn64tab" = some (Tryz.laysT29_ren.g 1) := by kernel_rfl
theorem gTabType : (Tryz.prog.globals[(Tryz.laysT29_ren.g 1)]?).map (·.type) = some 180 := by kernel_rfl
theorem cellsTab : Tryz.prog.cellsOf 180 = 64 := by kernel_rfl
theorem cellsByte : Tryz.prog.cellsOf 5 = 1 := by kernel_rfl
def tabZ : List Int := [0, 1, 56, 2, 57, 49, 28, 3, 61, 58, 42, 50, 38, 29, 17, 4, 62, 47, 59, 36, 45, 43, 51, 22, 53, 39, 33, 30, 24, 18, 12, 5, 63, 55, 48, 27, 60, 41, 37, 16, 46, 35, 44, 21, 52, 32, 23, 11, 54, 26, 40, 15, 34, 20, 31, 10, 25, 14, 19, 9, 13, 8, 7, 6]
theorem table {W : World} (h : laidMetH Tryz.prog Rows.iccsAgainRow.laid W) : TabAt (Tryz.laysT29_ren.g 1) Lib.deBruijn64tab W := by
  have ht : Lib.TabIs Tryz.prog W "math/bits.deBruijn64tab" .u8 tabZ :=
    Lib.tabIs_of_head (rest := _) gTab gTabType Tryz.underlying180 Tryz.underlying5 cellsByte cellsTab h
  intro j hj
  have h64 : j < tabZ.length := hj
  rw [ht.cell gTab j h64]
  have key : ∀ j, j < tabZ.length → tabZ.getD j 0 = ((Lib.deBruijn64tab.getD j 0 : Nat) : Int) := by decide
  rw [key j h64]
set_option maxRecDepth 100000 in
theorem contract (H : Type) (enc : TypeId × Value → H) (W : World) (base : Nat) (args : Array Value) (ds gs : List (DataW H)) (before : List MemPlace)
    (hval : ∀ (j : Nat) t v, Tryz.f5.params[j]? = some t → args[j]? = some v → Value.okWide Tryz.prog W .any base t v)
    (hW : DataW.Whole enc Tryz.prog Tryz.f5.params.toList Rows.iccsAgainSpec.vars false W args.toList ds gs before) (hL : laidMetH Tryz.prog Rows.iccsAgainRow.laid W) :
    Calls Tryz.prog 5 args W fun e W' => ∃ v, e = .returned v ∧ Rows.iccsAgainSpec.post enc Tryz.prog Tryz.f5 false true false false W args v W' := by
  have hW' := hW
  obtain ⟨p, q, hA0, hV, rfl, hfz, hnd⟩ := hW
  have hA : DataW.TrodAll enc Tryz.prog W 0 (fun _ => true) true Tryz.f5.params.toList args.toList ds p := hA0
  rw [Tryz.params5] at hA hval
  obtain ⟨v0, vs0, d0, ds0, p0, q0, hargs, rfl, rfl, h0, r0⟩ := trodAll_cons hA
  obtain ⟨v1, vs1, d1, ds1, p1, q1, rfl, rfl, rfl, h1, r1⟩ := trodAll_cons r0
  obtain ⟨rfl, rfl, rfl⟩ := trodAll_nil r1
  obtain rfl : args = #[v0, v1] := by cases args; simp_all
  obtain ⟨rfl, rfl⟩ := trodVars_none hV
  obtain ⟨c00, c01, c02, c03, x00, x01, x02, x03, n0, rfl, rfl, rfl, t00, t01, t02, t03⟩ := open_agg4 Tryz.underlying32 (by kernel_rfl) (by kernel_rfl) (hval 0 32 v0 rfl rfl) h0
  obtain ⟨b00, z00, e00, w00⟩ := DataW.trod_string Tryz.underlying9 t00
  obtain rfl : c00 = .string b00 := by simpa using z00
  subst e00
  obtain ⟨b01, z01, e01, w01⟩ := DataW.trod_int Tryz.underlying3 t01
  obtain rfl : c01 = .int .i64 b01 := by simpa using z01
  subst e01
  obtain ⟨b02, z02, e02, w02⟩ := DataW.trod_int Tryz.underlying3 t02
  obtain rfl : c02 = .int .i64 b02 := by simpa using z02
  subst e02
  obtain ⟨b03, z03, e03, w03⟩ := DataW.trod_int Tryz.underlying3 t03
  obtain rfl : c03 = .int .i64 b03 := by simpa using z03
  subst e03
  obtain ⟨a1, rfl, rfl, rfl, y1⟩ := open_string Tryz.underlying9 (hval 1 9 v1 rfl rfl) h1
  clear hA0
  refine (Go.X.law_calls (avs := [.agg [.s b00, .i .i64 b01, .i .i64 b02, .i .i64 b03], .s a1]) (vals := [.agg #[.string b00, .int .i64 b01, .int .i64 b02, .int .i64 b03], .string a1]) (Go.X.okIccsAgain Go.X.hyp) (table hL) rfl ?_ rfl (fun _ hp => by rcases List.mem_singleton.1 hp with rfl; exact Go.X.lv)).mono fun e W' ⟨he, bel⟩ => ?_
  · exact ⟨_, _, rfl, ⟨[_, _, _, _], rfl, ⟨_, _, rfl, rfl, ⟨_, _, rfl, rfl, ⟨_, _, rfl, rfl, ⟨_, _, rfl, rfl, rfl⟩⟩⟩⟩⟩, ⟨_, _, rfl, rfl, rfl⟩⟩
  subst he
  exact ⟨_, rfl, _, _, _, [], _, [], hW', trodAll_mk1 (shut_bool Tryz.underlying4 _), (trodAll_cons_mk (shut_agg4 Tryz.underlying32 (by kernel_rfl) (by kernel_rfl) ⟨1, by simp [DataW.trod, Tryz.underlying9, w00]⟩ ⟨1, by simp [DataW.trod, Tryz.underlying3, w01]⟩ ⟨1, by simp [DataW.trod, Tryz.underlying3, w02]⟩ ⟨1, by simp [DataW.trod, Tryz.underlying3, w03]⟩) (trodAll_cons_mk (shut_string Tryz.underlying9 y1) trodAll_mk0)), rfl, bel.frame _, fun h => by cases h⟩
def lay (c : Array Value) : Obj → Obj
  | .cells _ t frozen => .cells c t frozen
  | o => o
noncomputable def laidWorld (os : Os) : World :=
  { World.holding Tryz.prog os ⟨#[], #[], []⟩ with heap := ((((World.holding Tryz.prog os ⟨#[], #[], []⟩).heap.modify 3 (lay #[.int .u8 0, .int .u8 1, .int .u8 56, .int .u8 2, .int .u8 57, .int .u8 49, .int .u8 28, .int .u8 3, .int .u8 61, .int .u8 58, .int .u8 42, .int .u8 50, .int .u8 38, .int .u8 29, .int .u8 17, .int .u8 4, .int .u8 62, .int .u8 47, .int .u8 59, .int .u8 36, .int .u8 45, .int .u8 43, .int .u8 51, .int .u8 22, .int .u8 53, .int .u8 39, .int .u8 33, .int .u8 30, .int .u8 24, .int .u8 18, .int .u8 12, .int .u8 5, .int .u8 63, .int .u8 55, .int .u8 48, .int .u8 27, .int .u8 60, .int .u8 41, .int .u8 37, .int .u8 16, .int .u8 46, .int .u8 35, .int .u8 44, .int .u8 21, .int .u8 52, .int .u8 32, .int .u8 23, .int .u8 11, .int .u8 54, .int .u8 26, .int .u8 40, .int .u8 15, .int .u8 34, .int .u8 20, .int .u8 31, .int .u8 10, .int .u8 25, .int .u8 14, .int .u8 19, .int .u8 9, .int .u8 13, .int .u8 8, .int .u8 7, .int .u8 6])).modify 1 (lay #[.int .u8 128, .int .u8 191, .int .u8 160, .int .u8 191, .int .u8 128, .int .u8 159, .int .u8 144, .int .u8 191, .int .u8 128, .int .u8 143, .int .u8 0, .int .u8 0, .int .u8 0, .int .u8 0, .int .u8 0, .int .u8 0, .int .u8 0, .int .u8 0, .int .u8 0, .int .u8 0, .int .u8 0, .int .u8 0, .int .u8 0, .int .u8 0, .int .u8 0, .int .u8 0, .int .u8 0, .int .u8 0, .int .u8 0, .int .u8 0, .int .u8 0, .int .u8 0])).modify 0 (lay (Go.Pinned.utf8FirstZ.map fun (n : Nat) => Value.int .u8 (n : Int)).toArray)) }
theorem laid_met (os : Os) : laidMet Tryz.prog Rows.iccsAgainRow.laid ((laidWorld os).forCall (fun _ _ => 0) ⟨#[], #[.agg #[.string ByteArray.empty, .int .i64 0, .int .i64 0, .int .i64 0], .string ByteArray.empty], []⟩).memory :=
  laidMet_of_run' 8 (by kernel_rfl) (by kernel_rfl)
theorem reads (os : Os) {H : Type} (enc : TypeId × Value → H) : ∃ places, DataW.whole enc Tryz.prog ((laidWorld os).forCall (fun _ _ => 0) ⟨#[], #[.agg #[.string ByteArray.empty, .int .i64 0, .int .i64 0, .int .i64 0], .string ByteArray.empty], []⟩).memory Tryz.f5.params.toList Rows.iccsAgainSpec.vars false (#[.agg #[.string ByteArray.empty, .int .i64 0, .int .i64 0, .int .i64 0], .string ByteArray.empty] : Array Value).toList 8 = some ([.agg [.lit (.string []), .lit (.int .i64 0), .lit (.int .i64 0), .lit (.int .i64 0)], .lit (.string [])], [], places) :=
  ⟨[], by kernel_rfl⟩
set_option maxRecDepth 100000 in
theorem lifted (os : Os) (started : os.Started) (H : Type) (enc : TypeId × Value → H) (F : Stop.Interp) :
    ReturnsInHanded {} Tryz.checked os 5 .any ((OpenSpec.ofChange Rows.iccsAgainSpec).preRow enc Tryz.prog Tryz.f5 Rows.iccsAgainRow.domain false Rows.iccsAgainRow.laid) (((OpenSpec.ofChange Rows.iccsAgainSpec).at F).post enc Tryz.prog Tryz.f5 false true false false) := by
  obtain ⟨places, hx⟩ := reads os enc
  refine returnsInHanded_of_row (C := Tryz.checked) (s := OpenSpec.ofChange Rows.iccsAgainSpec) own started (by kernel_rfl) Tryz.func5
    (witness_row_at (enc := enc) (C := Tryz.checked) false (laidWorld os) #[.agg #[.string ByteArray.empty, .int .i64 0, .int .i64 0, .int .i64 0], .string ByteArray.empty] rfl (by kernel_rfl) (by kernel_rfl) (by kernel_rfl)
      (OpenSpec.preRow_of_cond 8 hx (by kernel_rfl) (fun k hk => by cases hk) (by kernel_rfl) (laid_met os))) ?_
  intro W base args ds gs before hval hW _ _ _ hL _ _
  exact contract H enc W base args ds gs before hval hW hL
theorem said : Rows.IccsAgainSaid :=
  OpenClaim.holds_of_cond 5 Tryz.f5 rfl rfl rfl rfl rfl rfl rfl ⟨rfl, rfl, rfl, rfl, rfl⟩ rfl rfl rfl rfl rfl (by kernel_rfl) Tryz.func5 (by kernel_rfl)
    (of_decide_eq_true (by kernel_rfl)) (by unfold Func.isWrapper; first | (rw [if_pos (by decide +kernel)]; kernel_rfl) | (rw [if_neg (by decide +kernel)]; exact ⟨rfl, rfl⟩))
    (fun os started H enc _ F => by rw [OpenClaim.pre_eq_preRow]; exact lifted os started H enc F)
theorem plain (f : FuncId) (fn : Func) (hf : Tryz.pinned.checked.prog.funcNamed "riverbank/riverbanklaw12.IccsAgain" = some f) (hfn : Tryz.pinned.checked.prog.funcs[f]? = some fn) :
    true = Tryz.pinned.checked.prog.looks [] ∧ ∀ (j : Nat) t, fn.params[j]? = some t → Tryz.pinned.checked.prog.wantsStandIn t = false := by
  obtain rfl : f = 5 := Option.some.inj ((show Tryz.prog.funcNamed "riverbank/riverbanklaw12.IccsAgain" = some 5 by kernel_rfl).symm.trans hf) |>.symm
  obtain rfl : fn = Tryz.f5 := (Option.some.inj (Tryz.func5.symm.trans hfn)).symm
  refine ⟨by kernel_rfl, fun j t ht => ?_⟩
  rw [Tryz.params5] at ht
  have hm : t ∈ (#[32, 9] : Array TypeId) := Array.mem_of_getElem? ht
  simp only [List.mem_toArray, List.mem_cons, List.not_mem_nil, or_false] at hm
  rcases hm with rfl | rfl
  · exact (show Tryz.prog.wantsStandIn 32 = false by kernel_rfl)
  · exact (show Tryz.prog.wantsStandIn 9 = false by kernel_rfl)
theorem card : Rows.IccsAgainCardSaid :=
  Claim7.holds_tied_plain_at .later [] _ _ _ _ said (fun _ h => by cases h) (by kernel_rfl) (fun _ h => by cases h) iccsAgain_row_tie rfl ⟨rfl, rfl⟩ (by kernel_rfl) rfl plain (by kernel_rfl)
end Go.Proofs.YtboohbgmhmpnmaaGreatDoor.fnIccsAgain
namespace Go.Proofs.YtboohbgmhmpnmaaGreatDoor
theorem iccsAgain_card : Rows.IccsAgainCardSaid := fnIccsAgain.card
end Go.Proofs.YtboohbgmhmpnmaaGreatDoor
