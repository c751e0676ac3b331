/-
  The law GuardAgain holds: it returns true, whatever the input; the input reads as it did. Conditions: none of this proof's own.
-/
import Derived.Test.YtemafoaeoakbbaaGreatDoorA3
import Derived.Test.YtemafoaeoakbbaaGreatDoorA4
import Derived.Test.YtemafoaeoakbbaaGreatDoorCards
import Derived.Test.YtemafoaeoakbbaaGreatDoorTie
import Derived.WalkKit
import Derived.ProofKit
import Derived.OpenShut
import Derived.ShutString
import Derived.Below
import Derived.SevenTiedAt
import Derived.Deep.DeepHandedRow
import Derived.Lib.LaidTab
import Derived.Lib.SmallJoins

set_option linter.unusedSimpArgs false
set_option linter.unusedVariables false

namespace Go.X
open Go Go.Proofs

def cGuardAgain : Con
  | [.agg [.a (.s _), .a (.i .i64 _), .a (.i .i64 _), .a (.i .i64 _)]] => some ⟨[Lv], .a (.b true), [], []⟩
  | _ => none
theorem take_any {α : Type} {f : α → Bool} {l : List α} (d : α) {i : Nat} (h : i < l.length) : (l.take (i + 1)).any f = ((l.take i).any f || f (l.getD i d)) := by
  rw [List.take_succ_eq_append_getElem h, List.any_append, List.getD_eq_getElem?_getD, List.getElem?_eq_getElem h]; simp
theorem again_ok {p : ByteArray} {side clock full : Int} {m : Int × Int} (h : m ∈ rCapt p side clock full) : rMakeE p side clock full m.1 m.2 = 0 ∧ spGCan p side m.1 m.2 = true ∧
    spGuarded p m.1 m.2 = (rMoves (spMoved p m.1 m.2) (1 - side) (nClock (bytesL p) clock m.2) (nFull side full)).any fun k => k.2 == m.2 := by
  have hm := (List.mem_filter.1 h).1
  obtain ⟨hw, hp, hs, hr⟩ := rMoves_mem hm
  have hg := (rOf_mem hp hs).1 hr
  refine ⟨?_, hg, ?_⟩
  · unfold rMakeE; rw [if_neg (by simp [hw]), if_pos hg]
  · obtain ⟨h1, h2, h3, h4⟩ := gcan_ok hg
    have hw' := well_moved hw hg
    have e2 := (moved_canon h1 h2 h3).2
    rw [Bool.eq_iff_iff, guarded_iff hg, List.any_eq_true, show rMoves (spMoved p m.1 m.2) (1 - side) (nClock (bytesL p) clock m.2) (nFull side full) = rOf (spMoved p m.1 m.2) (1 - side) by unfold rMoves; rw [if_pos hw']]
    constructor
    · rintro ⟨n, hn⟩; exact ⟨(n, m.2), (rOf_mem e2 (SD.turn ⟨hs, trivial, trivial⟩).is).2 hn, by simp⟩
    · rintro ⟨k, hk, e⟩
      have := (rOf_mem e2 (SD.turn ⟨hs, trivial, trivial⟩).is).1 hk
      rw [beqT e] at this; exact ⟨k.1, this⟩
section
variable {G : Nat → World → Prop}
set_option maxHeartbeats 4000000 in
set_option maxRecDepth 20000 in
theorem okGuardAgain (hS : Hyp G) : ConOK Tryz.prog G 5 cGuardAgain := by
  refine seat_con hS.seat [(9, cLive), (19, cR8Capt), (20, cR8Make), (17, cR8Moves), (15, cGuarded)] [] ⟨okLive hS, okR8Capt hS, okR8Make hS, okR8Moves hS, okGuarded hS, trivial⟩ Tryz.func5 rfl rfl rfl ?_
  intro rvs cr hcr hpre
  unfold cGuardAgain at hcr
  split at hcr
  · rename_i p side clock full
    cases hcr
    simp only [List.mem_cons, List.not_mem_nil, or_false, forall_eq_or_imp, forall_eq] at hpre
    refine ⟨⟨rfl, rfl, rfl⟩, fun c hc vs => ?_⟩
    repeat' (first | exact Bool.noConfusion ‹(!true) = true› | exact Bool.noConfusion ‹(!false) = false› | (intro h; exact h) | (intro h; rw [h]; rfl) | (intro h1 h2; rw [h1, h2]; rfl) | (intro _; assumption) | (intro _; exact rfl) | (intro h; exact Bool.noConfusion (h.symm.trans ‹_ = false›)) | refine ⟨fun _ => ?_, fun _ => ?_⟩ | refine ⟨?_⟩ | refine ⟨?_, ?_⟩ | fail)
    all_goals first | exact hpre | exact rfl | skip
    refine Tr_loopH (α := Nat) (fun i => [(4, .i .i64 (.ofNat i))]) (fun _ => []) (fun _ => []) (fun i => i ≤ (rCapt p side clock full).length) (fun i => (rCapt p side clock full).length - i) 0 (Nat.zero_le _) (by (refine ⟨?_, rfl, ?_, ?_, ?_, rfl⟩ <;> repeat' (first | exact trivial | (refine ⟨rfl, ?_⟩) | fail))) ?_
    intro i hi
    have hlen := rCapt_len p side clock full
    obtain ⟨m, hmd⟩ : ∃ m, (rCapt p side clock full).getD (Int.ofNat i).toNat ((EK.int .i64).pair (.int .i64)).dflt = m := ⟨_, rfl⟩
    have hm : decide (Int.ofNat i < ((rCapt p side clock full).length : Int)) = true → _ := fun h => again_ok (m := m) (by rw [← hmd]; exact mem_getD (d := (0, 0)) (ltN h))
    refine vs.go rfl ?_
    repeat' (first | exact Bool.noConfusion ‹(!true) = true› | exact Bool.noConfusion ‹(!false) = false› | (intro h; exact h) | (intro h; rw [h]; rfl) | (intro h1 h2; rw [h1, h2]; rfl) | (intro _; assumption) | (intro _; exact rfl) | (intro h; exact Bool.noConfusion (h.symm.trans ‹_ = false›)) | refine ⟨fun _ => ?_, fun _ => ?_⟩ | refine ⟨?_⟩ | refine ⟨?_, ?_⟩ | fail)
    all_goals first | exact trivial | (refine (?_ : (_ : Int) ≠ _); decide) | exact rfl | skip
    all_goals try dsimp only at *
    all_goals first | exact hpre | exact rfl | (rename_i h; have h := ltN h; show (i : Int) < ((rCapt p side clock full).length : Int); omega) | skip
    rename_i h1
    obtain ⟨he, hg, hK⟩ := hm h1
    simp only [hmd, he, if_true]
    have hkl := rMoves_len (spMoved p m.1 m.2) (1 - side) (nClock (bytesL p) clock m.2) (nFull side full)
    generalize rMoves (spMoved p m.1 m.2) (1 - side) (nClock (bytesL p) clock m.2) (nFull side full) = K at hK hkl ⊢
    refine Tr_loopH (α := Nat) (fun j => [(8, .b ((K.take j).any fun k => k.2 == m.2)), (10, .i .i64 (.ofNat j))]) (fun _ => []) (fun _ => []) (fun j => j ≤ K.length) (fun j => K.length - j) 0 (Nat.zero_le _) (by (refine ⟨?_, rfl, ?_, ?_, ?_, rfl⟩ <;> repeat' (first | exact trivial | (refine ⟨rfl, ?_⟩) | fail))) ?_
    intro j hj
    refine vs.go rfl ?_
    repeat' (first | exact Bool.noConfusion ‹(!true) = true› | exact Bool.noConfusion ‹(!false) = false› | (intro h; exact h) | (intro h; rw [h]; rfl) | (intro h1 h2; rw [h1, h2]; rfl) | (intro _; assumption) | (intro _; exact rfl) | (intro h; exact Bool.noConfusion (h.symm.trans ‹_ = false›)) | refine ⟨fun _ => ?_, fun _ => ?_⟩ | refine ⟨?_⟩ | refine ⟨?_, ?_⟩ | fail)
    all_goals first | exact trivial | (refine (?_ : (_ : Int) ≠ _); decide) | exact rfl | skip
    all_goals try dsimp only at *
    all_goals first | (rename_i h; have h := ltN h; intro _; exact ⟨by simp, Int.ofNat_lt.2 h⟩) | (intro _; exact ⟨by simp, Int.ofNat_lt.2 (ltN h1)⟩) | exact Int.ofNat_lt.2 (ltN h1) | skip
    · rename_i h2
      have := ltN h2
      refine Again.mk (j + 1) (by omega) (by omega) ?_
      rw [take_any (0, 0) (ltN h2), wrapN (by omega)]
      simp only [hmd]
      (refine ⟨?_, rfl, ?_, ?_, ?_, rfl⟩ <;> repeat' (first | exact trivial | (refine ⟨rfl, ?_⟩) | fail))
    all_goals
      have hjk : K.length ≤ j := geN ‹decide (Int.ofNat j < (K.length : Int)) = false›
      simp only [hmd, List.take_of_length_le hjk, hK, beq_self_eq_true, Bool.not_true] at *
    · exact Bool.noConfusion ‹false = true›
    · have := ltN h1
      refine Again.mk (i + 1) (by omega) (by omega) ?_
      rw [wrapN (by omega)]
      (refine ⟨?_, rfl, ?_, ?_, ?_, rfl⟩ <;> repeat' (first | exact trivial | (refine ⟨rfl, ?_⟩) | fail))
  · cases hcr
end
end Go.X

namespace Go.Proofs.YtemafoaeoakbbaaGreatDoor.fnGuardAgain
open Go.ChangeShapes Go.WideShapes Go.ChangeAt Go.RowKit
open Go.ChangeMaps (open_string shut_string)
open Go.Joins (open_agg4 shut_agg4)

theorem own : ownKnob Tryz.prog.godebug = none := by kernel_rfl
theorem gTab : Tryz.prog.globalNamed "math/bits.deBruijn64tab" = some (Tryz.laysT29_ren.g 1) := by kernel_rfl
theorem gTabType : (Tryz.prog.globals[(Tryz.laysT29_ren.g 1)]?).map (·.type) = some 127 := by kernel_rfl
theorem cellsTab : Tryz.prog.cellsOf 127 = 64 := by kernel_rfl
theorem cellsByte : Tryz.prog.cellsOf 5 = 1 := by kernel_rfl
def tabZ : List Int := [0, 1, 56, 2, 57, 49, 28, 3, 61, 58, 42, 50, 38, 29, 17, 4, 62, 47, 59, 36, 45, 43, 51, 22, 53, 39, 33, 30, 24, 18, 12, 5, 63, 55, 48, 27, 60, 41, 37, 16, 46, 35, 44, 21, 52, 32, 23, 11, 54, 26, 40, 15, 34, 20, 31, 10, 25, 14, 19, 9, 13, 8, 7, 6]
theorem table {W : World} (h : laidMetH Tryz.prog Rows.guardAgainRow.laid W) : TabAt (Tryz.laysT29_ren.g 1) Lib.deBruijn64tab W := by
  have ht : Lib.TabIs Tryz.prog W "math/bits.deBruijn64tab" .u8 tabZ :=
    Lib.tabIs_of_head (rest := []) gTab gTabType Tryz.underlying127 Tryz.underlying5 cellsByte cellsTab h
  intro j hj
  have h64 : j < tabZ.length := hj
  rw [ht.cell gTab j h64]
  have key : ∀ j, j < tabZ.length → tabZ.getD j 0 = ((Lib.deBruijn64tab.getD j 0 : Nat) : Int) := by decide
  rw [key j h64]
set_option maxRecDepth 100000 in
theorem contract (H : Type) (enc : TypeId × Value → H) (W : World) (base : Nat) (args : Array Value) (ds gs : List (DataW H)) (before : List MemPlace)
    (hval : ∀ (j : Nat) t v, Tryz.f5.params[j]? = some t → args[j]? = some v → Value.okWide Tryz.prog W .any base t v)
    (hW : DataW.Whole enc Tryz.prog Tryz.f5.params.toList Rows.guardAgainSpec.vars false W args.toList ds gs before) (hL : laidMetH Tryz.prog Rows.guardAgainRow.laid W) :
    Calls Tryz.prog 5 args W fun e W' => ∃ v, e = .returned v ∧ Rows.guardAgainSpec.post enc Tryz.prog Tryz.f5 false true false false W args v W' := by
  have hW' := hW
  obtain ⟨p, q, hA0, hV, rfl, hfz, hnd⟩ := hW
  have hA : DataW.TrodAll enc Tryz.prog W 0 (fun _ => true) true Tryz.f5.params.toList args.toList ds p := hA0
  rw [Tryz.params5] at hA hval
  obtain ⟨v0, vs0, d0, ds0, p0, q0, hargs, rfl, rfl, h0, r0⟩ := trodAll_cons hA
  obtain ⟨rfl, rfl, rfl⟩ := trodAll_nil r0
  obtain rfl : args = #[v0] := by cases args; simp_all
  obtain ⟨rfl, rfl⟩ := trodVars_none hV
  obtain ⟨c00, c01, c02, c03, x00, x01, x02, x03, n0, rfl, rfl, rfl, t00, t01, t02, t03⟩ := open_agg4 Tryz.underlying31 (by kernel_rfl) (by kernel_rfl) (hval 0 31 v0 rfl rfl) h0
  obtain ⟨b00, z00, e00, w00⟩ := DataW.trod_string Tryz.underlying9 t00
  obtain rfl : c00 = .string b00 := by simpa using z00
  subst e00
  obtain ⟨b01, z01, e01, w01⟩ := DataW.trod_int Tryz.underlying3 t01
  obtain rfl : c01 = .int .i64 b01 := by simpa using z01
  subst e01
  obtain ⟨b02, z02, e02, w02⟩ := DataW.trod_int Tryz.underlying3 t02
  obtain rfl : c02 = .int .i64 b02 := by simpa using z02
  subst e02
  obtain ⟨b03, z03, e03, w03⟩ := DataW.trod_int Tryz.underlying3 t03
  obtain rfl : c03 = .int .i64 b03 := by simpa using z03
  subst e03
  clear hA0
  refine (Go.X.law_calls (avs := [.agg [.s b00, .i .i64 b01, .i .i64 b02, .i .i64 b03]]) (vals := [.agg #[.string b00, .int .i64 b01, .int .i64 b02, .int .i64 b03]]) (Go.X.okGuardAgain Go.X.hyp) (table hL) rfl ?_ rfl (fun _ hp => by rcases List.mem_singleton.1 hp with rfl; exact Go.X.lv)).mono fun e W' ⟨he, bel⟩ => ?_
  · exact ⟨_, _, rfl, ⟨[_, _, _, _], rfl, ⟨_, _, rfl, rfl, ⟨_, _, rfl, rfl, ⟨_, _, rfl, rfl, ⟨_, _, rfl, rfl, rfl⟩⟩⟩⟩⟩, rfl⟩
  subst he
  exact ⟨_, rfl, _, _, _, [], _, [], hW', trodAll_mk1 (shut_bool Tryz.underlying4 _), (trodAll_cons_mk (shut_agg4 Tryz.underlying31 (by kernel_rfl) (by kernel_rfl) ⟨1, by simp [DataW.trod, Tryz.underlying9, w00]⟩ ⟨1, by simp [DataW.trod, Tryz.underlying3, w01]⟩ ⟨1, by simp [DataW.trod, Tryz.underlying3, w02]⟩ ⟨1, by simp [DataW.trod, Tryz.underlying3, w03]⟩) trodAll_mk0), rfl, bel.frame _, fun h => by cases h⟩
noncomputable def laidWorld (os : Os) : World :=
  { World.holding Tryz.prog os ⟨#[], #[], []⟩ with heap := (World.holding Tryz.prog os ⟨#[], #[], []⟩).heap.modify (Tryz.laysT29_ren.g 1) fun
      | .cells _ t frozen => .cells #[.int .u8 0, .int .u8 1, .int .u8 56, .int .u8 2, .int .u8 57, .int .u8 49, .int .u8 28, .int .u8 3, .int .u8 61, .int .u8 58, .int .u8 42, .int .u8 50, .int .u8 38, .int .u8 29, .int .u8 17, .int .u8 4, .int .u8 62, .int .u8 47, .int .u8 59, .int .u8 36, .int .u8 45, .int .u8 43, .int .u8 51, .int .u8 22, .int .u8 53, .int .u8 39, .int .u8 33, .int .u8 30, .int .u8 24, .int .u8 18, .int .u8 12, .int .u8 5, .int .u8 63, .int .u8 55, .int .u8 48, .int .u8 27, .int .u8 60, .int .u8 41, .int .u8 37, .int .u8 16, .int .u8 46, .int .u8 35, .int .u8 44, .int .u8 21, .int .u8 52, .int .u8 32, .int .u8 23, .int .u8 11, .int .u8 54, .int .u8 26, .int .u8 40, .int .u8 15, .int .u8 34, .int .u8 20, .int .u8 31, .int .u8 10, .int .u8 25, .int .u8 14, .int .u8 19, .int .u8 9, .int .u8 13, .int .u8 8, .int .u8 7, .int .u8 6] t frozen
      | o => o }
theorem laid_met (os : Os) : laidMet Tryz.prog Rows.guardAgainRow.laid ((laidWorld os).forCall (fun _ _ => 0) ⟨#[], #[.agg #[.string ByteArray.empty, .int .i64 0, .int .i64 0, .int .i64 0]], []⟩).memory :=
  laidMet_of_run' 8 (by kernel_rfl) (by kernel_rfl)
theorem reads (os : Os) {H : Type} (enc : TypeId × Value → H) : ∃ places, DataW.whole enc Tryz.prog ((laidWorld os).forCall (fun _ _ => 0) ⟨#[], #[.agg #[.string ByteArray.empty, .int .i64 0, .int .i64 0, .int .i64 0]], []⟩).memory Tryz.f5.params.toList Rows.guardAgainSpec.vars false (#[.agg #[.string ByteArray.empty, .int .i64 0, .int .i64 0, .int .i64 0]] : Array Value).toList 8 = some ([.agg [.lit (.string []), .lit (.int .i64 0), .lit (.int .i64 0), .lit (.int .i64 0)]], [], places) :=
  ⟨[], by kernel_rfl⟩
set_option maxRecDepth 100000 in
theorem lifted (os : Os) (started : os.Started) (H : Type) (enc : TypeId × Value → H) (F : Stop.Interp) :
    ReturnsInHanded {} Tryz.checked os 5 .any ((OpenSpec.ofChange Rows.guardAgainSpec).preRow enc Tryz.prog Tryz.f5 Rows.guardAgainRow.domain false Rows.guardAgainRow.laid) (((OpenSpec.ofChange Rows.guardAgainSpec).at F).post enc Tryz.prog Tryz.f5 false true false false) := by
  obtain ⟨places, hx⟩ := reads os enc
  refine returnsInHanded_of_row (C := Tryz.checked) (s := OpenSpec.ofChange Rows.guardAgainSpec) own started (by kernel_rfl) Tryz.func5
    (witness_row_at (enc := enc) (C := Tryz.checked) false (laidWorld os) #[.agg #[.string ByteArray.empty, .int .i64 0, .int .i64 0, .int .i64 0]] rfl (by kernel_rfl) (by kernel_rfl) (by kernel_rfl)
      (OpenSpec.preRow_of_cond 8 hx (by kernel_rfl) (fun k hk => by cases hk) (by kernel_rfl) (laid_met os))) ?_
  intro W base args ds gs before hval hW _ _ _ hL _ _
  exact contract H enc W base args ds gs before hval hW hL
theorem said : Rows.GuardAgainSaid :=
  OpenClaim.holds_of_cond 5 Tryz.f5 rfl rfl rfl rfl rfl rfl rfl ⟨rfl, rfl, rfl, rfl, rfl⟩ rfl rfl rfl rfl rfl (by kernel_rfl) Tryz.func5 (by kernel_rfl)
    (of_decide_eq_true (by kernel_rfl)) (by unfold Func.isWrapper; first | (rw [if_pos (by decide +kernel)]; kernel_rfl) | (rw [if_neg (by decide +kernel)]; exact ⟨rfl, rfl⟩))
    (fun os started H enc _ F => by rw [OpenClaim.pre_eq_preRow]; exact lifted os started H enc F)
theorem plain (f : FuncId) (fn : Func) (hf : Tryz.pinned.checked.prog.funcNamed "riverbank/riverbanklaw15.GuardAgain" = some f) (hfn : Tryz.pinned.checked.prog.funcs[f]? = some fn) :
    false = Tryz.pinned.checked.prog.looks [] ∧ ∀ (j : Nat) t, fn.params[j]? = some t → Tryz.pinned.checked.prog.wantsStandIn t = false := by
  obtain rfl : f = 5 := Option.some.inj ((show Tryz.prog.funcNamed "riverbank/riverbanklaw15.GuardAgain" = some 5 by kernel_rfl).symm.trans hf) |>.symm
  obtain rfl : fn = Tryz.f5 := (Option.some.inj (Tryz.func5.symm.trans hfn)).symm
  refine ⟨by kernel_rfl, fun j t ht => ?_⟩
  rw [Tryz.params5] at ht
  have hm : t ∈ (#[31] : Array TypeId) := Array.mem_of_getElem? ht
  simp only [List.mem_toArray, List.mem_cons, List.not_mem_nil, or_false] at hm
  subst hm
  exact (show Tryz.prog.wantsStandIn 31 = false by kernel_rfl)
theorem card : Rows.GuardAgainCardSaid :=
  Claim7.holds_tied_plain_at .later [] _ _ _ _ said (fun _ h => by cases h) (by kernel_rfl) (fun _ h => by cases h) guardAgain_row_tie rfl ⟨rfl, rfl⟩ (by kernel_rfl) rfl plain (by kernel_rfl)
end Go.Proofs.YtemafoaeoakbbaaGreatDoor.fnGuardAgain
namespace Go.Proofs.YtemafoaeoakbbaaGreatDoor
theorem guardAgain_card : Rows.GuardAgainCardSaid := fnGuardAgain.card
end Go.Proofs.YtemafoaeoakbbaaGreatDoor
