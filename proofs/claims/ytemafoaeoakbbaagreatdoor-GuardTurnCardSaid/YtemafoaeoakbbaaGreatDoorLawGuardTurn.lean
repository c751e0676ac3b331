/-
  The law GuardTurn holds: it returns true, whatever the input; the input reads as it did. Conditions: none of this proof's own.
-/
import Derived.Test.YtemafoaeoakbbaaGreatDoorA3
import Derived.Test.YtemafoaeoakbbaaGreatDoorA4
import Derived.Test.YtemafoaeoakbbaaGreatDoorCards
import Derived.Test.YtemafoaeoakbbaaGreatDoorTie
import Derived.WalkKit
import Derived.ProofKit
import Derived.OpenShut
import Derived.ShutString
import Derived.Below
import Derived.SevenTiedAt
import Derived.Deep.DeepHandedRow
import Derived.Lib.LaidTab
import Derived.Lib.SmallJoins

set_option linter.unusedSimpArgs false
set_option linter.unusedVariables false

namespace Go.X
open Go Go.Proofs

def cGuardTurn : Con
  | [.a (.s _)] => some ⟨[Lv], .a (.b true), [], []⟩
  | _ => none
theorem oneG_find {p : ByteArray} (h1 : ¬ ((spFind p 75).length : Int) > 1) (h2 : ¬ ((spFind p 107).length : Int) > 1) (hp : spIs p = true) : OneG (bytesL p) := by
  rw [find_cnt hp] at h1 h2
  exact ⟨by omega, by omega⟩
theorem turned_at {p : ByteArray} (hu : spIs p = true → OneG (bytesL p)) {i : Nat} (h : i < (spTakes p 0).length) : (spTakes (rTurn p) 1).getD ((spTakes (rTurn p) 1).length - 1 - i) (0, 0) = mvT ((spTakes p 0).getD i (0, 0)) := by
  rw [takes_turn0 hu]
  have hl : (((spTakes p 0).reverse).map mvT).length = (spTakes p 0).length := by rw [List.length_map, List.length_reverse]
  rw [List.getD_eq_getElem?_getD, List.getD_eq_getElem?_getD, List.getElem?_eq_getElem h, List.getElem?_eq_getElem (by rw [hl]; omega)]
  show (((spTakes p 0).reverse).map mvT)[_] = mvT _
  rw [List.getElem_map, List.getElem_reverse]
  congr 2
  rw [hl]; omega
structure TurnedOk (p : ByteArray) (w : Int) (n : Nat) (m k : Int × Int) : Prop where
  lo : 0 ≤ w
  hi : w < n
  eq : k = mvT m
  gd : spGuarded (rTurn p) k.1 k.2 = spGuarded p m.1 m.2
  fr : Sqr m.1
  to : Sqr m.2
section
variable {G : Nat → World → Prop}
set_option maxHeartbeats 4000000 in
set_option maxRecDepth 20000 in
theorem okGuardTurn (hS : Hyp G) : ConOK Tryz.prog G 6 cGuardTurn := by
  refine seat_con hS.seat [(9, cLive), (21, cRFind), (22, cR2Turn), (11, cTakes), (15, cGuarded)] [] ⟨okLive hS, okRFind hS, okR2Turn hS, okTakes hS, okGuarded hS, trivial⟩ Tryz.func6 rfl rfl rfl ?_
  intro rvs cr hcr hpre
  unfold cGuardTurn at hcr
  split at hcr
  · rename_i p
    cases hcr
    simp only [List.mem_cons, List.not_mem_nil, or_false, forall_eq_or_imp, forall_eq] at hpre
    refine ⟨⟨rfl, rfl, rfl⟩, fun c hc vs => ?_⟩
    repeat' (first | exact Bool.noConfusion ‹(!true) = true› | exact Bool.noConfusion ‹(!false) = false› | (intro h; exact h) | (intro h; rw [h]; rfl) | (intro h1 h2; rw [h1, h2]; rfl) | (intro _; assumption) | (intro _; exact rfl) | (intro h; exact Bool.noConfusion (h.symm.trans ‹_ = false›)) | refine ⟨fun _ => ?_, fun _ => ?_⟩ | refine ⟨?_⟩ | refine ⟨?_, ?_⟩ | fail)
    all_goals first | exact hpre | exact rfl | (intro h; exact Bool.noConfusion h) | (intro h; exact Bool.noConfusion (h.symm.trans (bn ‹(!_) = false›))) | skip
    all_goals
      have hor := ‹(decide ((p.size : Int) > 200) || decide (((spFind p 75).length : Int) > 1) || decide (((spFind p 107).length : Int) > 1)) = false›
      simp only [Bool.or_eq_false_iff, decide_eq_false_iff_not] at hor
      have hu : spIs p = true → OneG (bytesL p) := oneG_find hor.1.2 hor.2
      have hlen : (spTakes (rTurn p) 1).length = (spTakes p 0).length := by rw [takes_turn0 hu, List.length_map, List.length_reverse]
      have hl9 := takes_len p 0
    · rename_i h
      exact absurd (congrArg Int.ofNat hlen.symm) (bneT ‹(((spTakes p 0).length : Int) != ((spTakes (rTurn p) 1).length : Int)) = true›)
    refine Tr_loopH (α := Nat) (fun i => [(6, .i .i64 (.ofNat i))]) (fun _ => []) (fun _ => []) (fun i => i ≤ (spTakes p 0).length) (fun i => (spTakes p 0).length - i) 0 (Nat.zero_le _) (by (refine ⟨?_, rfl, ?_, ?_, ?_, rfl⟩ <;> repeat' (first | exact trivial | (refine ⟨rfl, ?_⟩) | fail))) ?_
    intro i hi
    obtain ⟨w, hw⟩ : ∃ w, IntKind.i64.wrap (IntKind.i64.wrap (((spTakes (rTurn p) 1).length : Int) - 1) - Int.ofNat i) = w := ⟨_, rfl⟩
    obtain ⟨m, hmd⟩ : ∃ m, (spTakes p 0).getD (Int.ofNat i).toNat ((EK.int .i64).pair (.int .i64)).dflt = m := ⟨_, rfl⟩
    obtain ⟨k, hkd⟩ : ∃ k, (spTakes (rTurn p) 1).getD w.toNat ((EK.int .i64).pair (.int .i64)).dflt = k := ⟨_, rfl⟩
    have hk : i < (spTakes p 0).length → TurnedOk p w (spTakes (rTurn p) 1).length m k := fun h => by
      have h1 := hw
      rw [wrap64 (x := ((spTakes (rTurn p) 1).length : Int) - 1) (by omega) (by omega), wrap64 (by simp; omega) (by simp; omega)] at h1
      have h2 : w = (((spTakes (rTurn p) 1).length - 1 - i : Nat) : Int) := by rw [← h1]; simp; omega
      have hm := takes_at h
      have hmm : (spTakes p 0).getD i (0, 0) = m := hmd
      rw [hmm] at hm
      have e : k = mvT m := by
        rw [← hkd, h2, Int.toNat_natCast, ← hmm]; exact turned_at hu h
      refine ⟨by omega, by omega, e, ?_, hm.fr, hm.to⟩
      rw [e]; exact spGuarded_turn hm.is (hu hm.is) hm.fr hm.to
    refine vs.go rfl ?_
    repeat' (first | exact Bool.noConfusion ‹(!true) = true› | exact Bool.noConfusion ‹(!false) = false› | (intro h; exact h) | (intro h; rw [h]; rfl) | (intro h1 h2; rw [h1, h2]; rfl) | (intro _; assumption) | (intro _; exact rfl) | (intro h; exact Bool.noConfusion (h.symm.trans ‹_ = false›)) | refine ⟨fun _ => ?_, fun _ => ?_⟩ | refine ⟨?_⟩ | refine ⟨?_, ?_⟩ | fail)
    all_goals first | exact trivial | (refine (?_ : (_ : Int) ≠ _); decide) | exact rfl | skip
    all_goals try dsimp only at *
    all_goals simp only [hw, hmd, hkd] at *
    all_goals first | exact hpre | (rename_i h; exact (hk (ltN h)).lo) | (rename_i h; exact (hk (ltN h)).hi) | (rename_i h; exact Int.ofNat_lt.2 (ltN h)) | (rename_i h; intro _; exact ⟨by simp, Int.ofNat_lt.2 (ltN h)⟩) | skip
    · rename_i h1 h2
      obtain ⟨_, _, e, hg, q1, q2⟩ := hk (ltN h1)
      have r1 := q1.lo; have r2 := q1.hi; have r3 := q2.lo; have r4 := q2.hi
      rw [hg, e, wrap64 (x := 89 - m.1) (by omega) (by omega), wrap64 (x := 89 - m.2) (by omega) (by omega)] at h2
      simp [mvT, EK.eqb] at h2
    · rename_i h1 h2
      have := ltN h1
      refine Again.mk (i + 1) (by omega) (by omega) ?_
      rw [wrapN (by omega)]
      (refine ⟨?_, rfl, ?_, ?_, ?_, rfl⟩ <;> repeat' (first | exact trivial | (refine ⟨rfl, ?_⟩) | fail))
  · cases hcr
end
end Go.X

namespace Go.Proofs.YtemafoaeoakbbaaGreatDoor.fnGuardTurn
open Go.ChangeShapes Go.WideShapes Go.ChangeAt Go.RowKit
open Go.ChangeMaps (open_string shut_string)
open Go.Joins (open_agg2)

theorem own : ownKnob Tryz.prog.godebug = none := by kernel_rfl
theorem gTab : Tryz.prog.globalNamed "math/bits.deBruijn64tab" = some (Tryz.laysT29_ren.g 1) := by kernel_rfl
theorem gTabType : (Tryz.prog.globals[(Tryz.laysT29_ren.g 1)]?).map (·.type) = some 127 := by kernel_rfl
theorem cellsTab : Tryz.prog.cellsOf 127 = 64 := by kernel_rfl
theorem cellsByte : Tryz.prog.cellsOf 5 = 1 := by kernel_rfl
def tabZ : List Int := [0, 1, 56, 2, 57, 49, 28, 3, 61, 58, 42, 50, 38, 29, 17, 4, 62, 47, 59, 36, 45, 43, 51, 22, 53, 39, 33, 30, 24, 18, 12, 5, 63, 55, 48, 27, 60, 41, 37, 16, 46, 35, 44, 21, 52, 32, 23, 11, 54, 26, 40, 15, 34, 20, 31, 10, 25, 14, 19, 9, 13, 8, 7, 6]
theorem table {W : World} (h : laidMetH Tryz.prog Rows.guardTurnRow.laid W) : TabAt (Tryz.laysT29_ren.g 1) Lib.deBruijn64tab W := by
  have ht : Lib.TabIs Tryz.prog W "math/bits.deBruijn64tab" .u8 tabZ :=
    Lib.tabIs_of_head (rest := []) gTab gTabType Tryz.underlying127 Tryz.underlying5 cellsByte cellsTab h
  intro j hj
  have h64 : j < tabZ.length := hj
  rw [ht.cell gTab j h64]
  have key : ∀ j, j < tabZ.length → tabZ.getD j 0 = ((Lib.deBruijn64tab.getD j 0 : Nat) : Int) := by decide
  rw [key j h64]
set_option maxRecDepth 100000 in
theorem contract (H : Type) (enc : TypeId × Value → H) (W : World) (base : Nat) (args : Array Value) (ds gs : List (DataW H)) (before : List MemPlace)
    (hval : ∀ (j : Nat) t v, Tryz.f6.params[j]? = some t → args[j]? = some v → Value.okWide Tryz.prog W .any base t v)
    (hW : DataW.Whole enc Tryz.prog Tryz.f6.params.toList Rows.guardTurnSpec.vars false W args.toList ds gs before) (hL : laidMetH Tryz.prog Rows.guardTurnRow.laid W) :
    Calls Tryz.prog 6 args W fun e W' => ∃ v, e = .returned v ∧ Rows.guardTurnSpec.post enc Tryz.prog Tryz.f6 false true false false W args v W' := by
  have hW' := hW
  obtain ⟨p, q, hA0, hV, rfl, hfz, hnd⟩ := hW
  have hA : DataW.TrodAll enc Tryz.prog W 0 (fun _ => true) true Tryz.f6.params.toList args.toList ds p := hA0
  rw [Tryz.params6] at hA hval
  obtain ⟨v0, vs0, d0, ds0, p0, q0, hargs, rfl, rfl, h0, r0⟩ := trodAll_cons hA
  obtain ⟨rfl, rfl, rfl⟩ := trodAll_nil r0
  obtain rfl : args = #[v0] := by cases args; simp_all
  obtain ⟨rfl, rfl⟩ := trodVars_none hV
  obtain ⟨a0, rfl, rfl, rfl, y0⟩ := open_string Tryz.underlying9 (hval 0 9 v0 rfl rfl) h0
  clear hA0
  refine (Go.X.law_calls (avs := [.s a0]) (vals := [.string a0]) (Go.X.okGuardTurn Go.X.hyp) (table hL) rfl ?_ rfl (fun _ hp => by rcases List.mem_singleton.1 hp with rfl; exact Go.X.lv)).mono fun e W' ⟨he, bel⟩ => ?_
  · exact ⟨_, _, rfl, rfl, rfl⟩
  subst he
  exact ⟨_, rfl, _, _, _, [], _, [], hW', trodAll_mk1 (shut_bool Tryz.underlying4 _), (trodAll_cons_mk (shut_string Tryz.underlying9 y0) trodAll_mk0), rfl, bel.frame _, fun h => by cases h⟩
noncomputable def laidWorld (os : Os) : World :=
  { World.holding Tryz.prog os ⟨#[], #[], []⟩ with heap := (World.holding Tryz.prog os ⟨#[], #[], []⟩).heap.modify (Tryz.laysT29_ren.g 1) fun
      | .cells _ t frozen => .cells #[.int .u8 0, .int .u8 1, .int .u8 56, .int .u8 2, .int .u8 57, .int .u8 49, .int .u8 28, .int .u8 3, .int .u8 61, .int .u8 58, .int .u8 42, .int .u8 50, .int .u8 38, .int .u8 29, .int .u8 17, .int .u8 4, .int .u8 62, .int .u8 47, .int .u8 59, .int .u8 36, .int .u8 45, .int .u8 43, .int .u8 51, .int .u8 22, .int .u8 53, .int .u8 39, .int .u8 33, .int .u8 30, .int .u8 24, .int .u8 18, .int .u8 12, .int .u8 5, .int .u8 63, .int .u8 55, .int .u8 48, .int .u8 27, .int .u8 60, .int .u8 41, .int .u8 37, .int .u8 16, .int .u8 46, .int .u8 35, .int .u8 44, .int .u8 21, .int .u8 52, .int .u8 32, .int .u8 23, .int .u8 11, .int .u8 54, .int .u8 26, .int .u8 40, .int .u8 15, .int .u8 34, .int .u8 20, .int .u8 31, .int .u8 10, .int .u8 25, .int .u8 14, .int .u8 19, .int .u8 9, .int .u8 13, .int .u8 8, .int .u8 7, .int .u8 6] t frozen
      | o => o }
theorem laid_met (os : Os) : laidMet Tryz.prog Rows.guardTurnRow.laid ((laidWorld os).forCall (fun _ _ => 0) ⟨#[], #[.string ByteArray.empty], []⟩).memory :=
  laidMet_of_run' 8 (by kernel_rfl) (by kernel_rfl)
theorem reads (os : Os) {H : Type} (enc : TypeId × Value → H) : ∃ places, DataW.whole enc Tryz.prog ((laidWorld os).forCall (fun _ _ => 0) ⟨#[], #[.string ByteArray.empty], []⟩).memory Tryz.f6.params.toList Rows.guardTurnSpec.vars false (#[.string ByteArray.empty] : Array Value).toList 8 = some ([.lit (.string [])], [], places) :=
  ⟨[], by kernel_rfl⟩
set_option maxRecDepth 100000 in
theorem lifted (os : Os) (started : os.Started) (H : Type) (enc : TypeId × Value → H) (F : Stop.Interp) :
    ReturnsInHanded {} Tryz.checked os 6 .any ((OpenSpec.ofChange Rows.guardTurnSpec).preRow enc Tryz.prog Tryz.f6 Rows.guardTurnRow.domain false Rows.guardTurnRow.laid) (((OpenSpec.ofChange Rows.guardTurnSpec).at F).post enc Tryz.prog Tryz.f6 false true false false) := by
  obtain ⟨places, hx⟩ := reads os enc
  refine returnsInHanded_of_row (C := Tryz.checked) (s := OpenSpec.ofChange Rows.guardTurnSpec) own started (by kernel_rfl) Tryz.func6
    (witness_row_at (enc := enc) (C := Tryz.checked) false (laidWorld os) #[.string ByteArray.empty] rfl (by kernel_rfl) (by kernel_rfl) (by kernel_rfl)
      (OpenSpec.preRow_of_cond 8 hx (by kernel_rfl) (fun k hk => by cases hk) (by kernel_rfl) (laid_met os))) ?_
  intro W base args ds gs before hval hW _ _ _ hL _ _
  exact contract H enc W base args ds gs before hval hW hL
theorem said : Rows.GuardTurnSaid :=
  OpenClaim.holds_of_cond 6 Tryz.f6 rfl rfl rfl rfl rfl rfl rfl ⟨rfl, rfl, rfl, rfl, rfl⟩ rfl rfl rfl rfl rfl (by kernel_rfl) Tryz.func6 (by kernel_rfl)
    (of_decide_eq_true (by kernel_rfl)) (by unfold Func.isWrapper; first | (rw [if_pos (by decide +kernel)]; kernel_rfl) | (rw [if_neg (by decide +kernel)]; exact ⟨rfl, rfl⟩))
    (fun os started H enc _ F => by rw [OpenClaim.pre_eq_preRow]; exact lifted os started H enc F)
theorem plain (f : FuncId) (fn : Func) (hf : Tryz.pinned.checked.prog.funcNamed "riverbank/riverbanklaw15.GuardTurn" = some f) (hfn : Tryz.pinned.checked.prog.funcs[f]? = some fn) :
    false = Tryz.pinned.checked.prog.looks [] ∧ ∀ (j : Nat) t, fn.params[j]? = some t → Tryz.pinned.checked.prog.wantsStandIn t = false := by
  obtain rfl : f = 6 := Option.some.inj ((show Tryz.prog.funcNamed "riverbank/riverbanklaw15.GuardTurn" = some 6 by kernel_rfl).symm.trans hf) |>.symm
  obtain rfl : fn = Tryz.f6 := (Option.some.inj (Tryz.func6.symm.trans hfn)).symm
  refine ⟨by kernel_rfl, fun j t ht => ?_⟩
  rw [Tryz.params6] at ht
  have hm : t ∈ (#[9] : Array TypeId) := Array.mem_of_getElem? ht
  simp only [List.mem_toArray, List.mem_cons, List.not_mem_nil, or_false] at hm
  subst hm
  exact (show Tryz.prog.wantsStandIn 9 = false by kernel_rfl)
theorem card : Rows.GuardTurnCardSaid :=
  Claim7.holds_tied_plain_at .later [] _ _ _ _ said (fun _ h => by cases h) (by kernel_rfl) (fun _ h => by cases h) guardTurn_row_tie rfl ⟨rfl, rfl⟩ (by kernel_rfl) rfl plain (by kernel_rfl)
end Go.Proofs.YtemafoaeoakbbaaGreatDoor.fnGuardTurn
namespace Go.Proofs.YtemafoaeoakbbaaGreatDoor
theorem guardTurn_card : Rows.GuardTurnCardSaid := fnGuardTurn.card
end Go.Proofs.YtemafoaeoakbbaaGreatDoor
