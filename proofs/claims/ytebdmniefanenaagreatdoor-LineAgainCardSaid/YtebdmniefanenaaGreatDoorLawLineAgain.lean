/-
  The law LineAgain holds: it returns true, whatever the input; the input reads as it did. Conditions: none of this proof's own.
-/
import Derived.Test.YtebdmniefanenaaGreatDoorA0
import Derived.Test.YtebdmniefanenaaGreatDoorA1
import Derived.Test.YtebdmniefanenaaGreatDoorA2
import Derived.Test.YtebdmniefanenaaGreatDoorA3
import Derived.Test.YtebdmniefanenaaGreatDoorA4
import Derived.Test.YtebdmniefanenaaGreatDoorA5
import Derived.Test.YtebdmniefanenaaGreatDoorCards
import Derived.Test.YtebdmniefanenaaGreatDoorTie
import Derived.WalkKit
import Derived.ProofKit
import Derived.LaidHandle
import Derived.Stop.LaidErr
import Derived.Lib.LaidIn
import Derived.Lib.LaidTab
import Derived.Deep.DeepHandedRow
import Derived.Deep.DeepWitnessRowRef
import Derived.OpenShut
import Derived.ShutString
import Derived.Below
import Derived.SevenTiedAt
import Derived.Lib.SmallJoins

set_option linter.unusedSimpArgs false
set_option linter.unusedVariables false

namespace Go.X
open Go Go.Proofs Go.RowKit

def cLineAgain : Con
  | [.a (.s _)] => some ⟨[Lv], .a (.b true), [], []⟩
  | _ => none
section
variable {G : Nat → World → Prop}
set_option maxHeartbeats 4000000 in
set_option maxRecDepth 20000 in
theorem okLineAgain (hS : Hyp G) : ConOK Tryz.prog G 7 cLineAgain := by
  refine seat_con hS.seat [(8, cLive23), (12, cParse23V), (9, cPrint23V), (14, cTold), (13, cSame23V)] [] ⟨okLive23 hS, okParse23V hS, okPrint23V hS, okTold hS, okSame23V hS, trivial⟩ Tryz.func7 rfl rfl rfl ?_
  intro rvs cr hcr hpre
  unfold cLineAgain at hcr
  split at hcr
  · rename_i s
    cases hcr
    simp only [List.mem_cons, List.not_mem_nil, or_false, forall_eq_or_imp, forall_eq] at hpre
    refine ⟨⟨rfl, rfl, rfl⟩, fun c hc vs => ?_⟩
    repeat' (first | exact Bool.noConfusion ‹(!true) = true› | exact Bool.noConfusion ‹(!false) = false› | (intro h; exact h) | (intro h; rw [h]; rfl) | (intro h1 h2; rw [h1, h2]; rfl) | (intro _; assumption) | (intro _; exact rfl) | (intro h; exact Bool.noConfusion (h.symm.trans ‹_ = false›)) | refine ⟨fun _ => ?_, fun _ => ?_⟩ | refine ⟨?_⟩ | refine ⟨?_, ?_⟩ | fail)
    · exact hpre
    · exact rfl
    · exact rfl
    all_goals
      have hs : s.size ≤ 600 := by have : ¬ (s.size : Int) > 600 := of_decide_eq_false ‹_›; omega
    · exact ⟨by omega, trivial, trivial⟩
    · have h2 : ((veil (parseC s)).2 != 0) = true := ‹_›
      rw [veil_eq] at h2
      have hc := again_fail hs (bneT h2)
      refine chk_b ?_
      show (((((veil (parseC s)).1.1 == 0 && (((veil (parseC s)).1.2.2.1.length : Int) == 0)) && (veil (parseC s)).1.2.2.2 == 0) && EK.eqb posK (veil (parseC s)).1.2.1 pos0) && true) = true
      rw [veil_eq, hc, (pos_eqb _ _).2 (show cmd0.2.1 = pos0 from rfl)]; rfl
    · exact rfl
    all_goals
      have h2 : ((veil (parseC s)).2 != 0) = false := ‹_›
      rw [veil_eq] at h2
      obtain ⟨hn, hp⟩ := again_ok hs (bneF h2)
      have hm := parse_ms s
    · exact ⟨by rw [veil_eq]; omega, trivial, trivial⟩
    · show PZ1 (veil (printC (veil (parseC s)).1))
      rw [veil_eq, veil_eq]
      exact ⟨printC_size (by omega), trivial, trivial⟩
    · intro _
      refine ⟨?_, ?_, trivial⟩
      · rw [veil_eq]; omega
      · show (veil (parseC (veil (printC (veil (parseC s)).1)))).1.2.2.1.length ≤ _
        simp only [veil_eq, hp]; omega
    · intro _
      refine ⟨?_, trivial, trivial⟩
      show (veil (parseC (veil (printC (veil (parseC s)).1)))).1.2.2.1.length ≤ _
      simp only [veil_eq, hp]; omega
    · refine chk_b ?_
      show ((((!strEq (veil (printC (veil (parseC s)).1)) ⟨#[]⟩ && ((veil (parseC (veil (printC (veil (parseC s)).1)))).2 == 0)) && veil (sameC (veil (parseC s)).1 (veil (parseC (veil (printC (veil (parseC s)).1)))).1)) && strEq (veil (printC (veil (parseC (veil (printC (veil (parseC s)).1)))).1)) (veil (printC (veil (parseC s)).1))) && true) = true
      simp only [veil_eq, hp, sameC_self]
      rw [sne (x := printC (parseC s).1) (y := ⟨#[]⟩) hn, seq]; rfl
    · exact rfl
    all_goals
      exfalso
      have h9 : (!strEq (veil (printC (veil (parseC s)).1)) ⟨#[]⟩ && ((veil (parseC (veil (printC (veil (parseC s)).1)))).2 == 0)) = false := by assumption
      simp only [veil_eq, hp] at h9
      rw [sne (x := printC (parseC s).1) (y := ⟨#[]⟩) hn] at h9
      exact absurd h9 (by decide)
  · cases hcr
end
end Go.X

namespace Go.Proofs.YtebdmniefanenaaGreatDoor.laidb
open Go.RowKit

abbrev laidL : List (String × DataW Unit) := Rows.lineWordsRow.laid
theorem own : ownKnob Tryz.prog.godebug = none := by kernel_rfl
theorem gTab : Tryz.prog.globalNamed "math/bits.deBruijn64tab" = some (Tryz.laysT29_ren.g 1) := by kernel_rfl
theorem gTabType : (Tryz.prog.globals[(Tryz.laysT29_ren.g 1)]?).map (·.type) = some 213 := by kernel_rfl
theorem cellsTab : Tryz.prog.cellsOf 213 = 64 := by kernel_rfl
theorem cellsByte : Tryz.prog.cellsOf 5 = 1 := by kernel_rfl
theorem gPowType : (Tryz.prog.globals[3]?).map (·.type) = some 180 := by kernel_rfl
theorem cellsPow : Tryz.prog.cellsOf 180 = 20 := by kernel_rfl
theorem cellsU64 : Tryz.prog.cellsOf 131 = 1 := by kernel_rfl
def tabZ : List Int := [0, 1, 56, 2, 57, 49, 28, 3, 61, 58, 42, 50, 38, 29, 17, 4, 62, 47, 59, 36, 45, 43, 51, 22, 53, 39, 33, 30, 24, 18, 12, 5, 63, 55, 48, 27, 60, 41, 37, 16, 46, 35, 44, 21, 52, 32, 23, 11, 54, 26, 40, 15, 34, 20, 31, 10, 25, 14, 19, 9, 13, 8, 7, 6]
def powZ : List Int := [1, 10, 100, 1000, 10000, 100000, 1000000, 10000000, 100000000, 1000000000, 10000000000, 100000000000, 1000000000000, 10000000000000, 100000000000000, 1000000000000000, 10000000000000000, 100000000000000000, 1000000000000000000, 10000000000000000000]
theorem pow_eq : powZ = Lib.pow10Tab := by decide
theorem et : Tryz.prog.globalNamed "errors.errorType" = some 2 := by kernel_rfl
theorem rt : (Tryz.prog.cutTypes.find? (·.1 == "internal/reflectlite.rtype")).map (·.2) = some 189 := by kernel_rfl
theorem oneRow : ((List.range 245).filter fun t => Tryz.prog.rowNamed t [101, 114, 114, 111, 114]) = [55] := by kernel_rfl
theorem size : Tryz.prog.types.size = 245 := by kernel_rfl
theorem star : "*" ++ "errors.errorString" = "*errors.errorString" := by decide
theorem rowTP (u : TypeId) (h : Tryz.prog.typeName? 3 u = some "*errors.errorString") : u = 185 :=
  typeName_ptr_named (nm := "errors.errorString") (by rw [star]; kernel_rfl) (by kernel_rfl) (by decide) u (by rw [star]; exact h)
theorem s1Type : (Tryz.prog.globals[1]?).map (·.type) = some 55 := by kernel_rfl
theorem s0Type : (Tryz.prog.globals[0]?).map (·.type) = some 55 := by kernel_rfl
theorem cellsTE : Tryz.prog.cellsOf 187 = 1 := by kernel_rfl
theorem cellsSTR : Tryz.prog.cellsOf 9 = 1 := by kernel_rfl
theorem parts {W : World} (h : laidMetH Tryz.prog laidL W) : laidMet Tryz.prog [("math/bits.deBruijn32tab", Rows.laid_math_bits_deBruijn32tab), ("math/bits.deBruijn64tab", Rows.laid_math_bits_deBruijn64tab), ("internal/strconv.uint64pow10", Rows.laid_internal_strconv_uint64pow10), ("unicode/utf8.acceptRanges", Rows.laid_unicode_utf8_acceptRanges), ("strconv.ErrRange", Rows.laid_strconv_ErrRange), ("strconv.ErrSyntax", Rows.laid_strconv_ErrSyntax), ("unicode/utf8.first", Rows.laid_unicode_utf8_first)] W ∧ handlesMet Tryz.prog [("errors.errorType", Rows.laid_errors_errorType)] W := h
theorem table {W : World} (h : laidMetH Tryz.prog laidL W) : TabAt (Tryz.laysT29_ren.g 1) Lib.deBruijn64tab W := by
  have h1 := (parts h).1
  have ht : Lib.TabIs Tryz.prog W "math/bits.deBruijn64tab" .u8 tabZ :=
    Lib.tabIs_of_head (rest := _) gTab gTabType Tryz.underlying213 Tryz.underlying5 cellsByte cellsTab h1.tail
  intro j hj
  have h64 : j < tabZ.length := hj
  rw [ht.cell gTab j h64]
  have key : ∀ j, j < tabZ.length → tabZ.getD j 0 = ((Lib.deBruijn64tab.getD j 0 : Nat) : Int) := by decide
  rw [key j h64]
theorem big {W : World} (h : laidMetH Tryz.prog laidL W) : 9 ≤ W.heap.size := by
  have h1 := table h 0 (by decide)
  have hg : (Tryz.laysT29_ren.g 1) = 8 := by decide +kernel
  rw [hg] at h1
  refine Classical.byContradiction fun hlt => ?_
  have hn : W.heap[8]? = none := Array.getElem?_eq_none (by omega)
  unfold World.cell? at h1
  simp [hn] at h1
theorem mlen {W : World} (hs : W.ShapedOpen Tryz.prog) : ∃ m, W.cell? ⟨4, 0, none⟩ = some (.int .i64 m) :=
  Go.Proofs.cell_of_shapedOpen_int (zero := #[.int .i64 0]) (t := 3) hs (of_decide_eq_true (by kernel_rfl)) (by kernel_rfl) rfl (by kernel_rfl) (by kernel_rfl) Tryz.underlying3
theorem globs {W : World} (h : laidMetH Tryz.prog laidL W) (hs : W.ShapedOpen Tryz.prog) : Go.X.Globs W := by
  obtain ⟨h1, h2⟩ := parts h
  have hp : Lib.TabIs Tryz.prog W "internal/strconv.uint64pow10" .u64 powZ :=
    Lib.tabIs_of_head (rest := _) Go.X.gn_pow gPowType Tryz.underlying180 Tryz.underlying131 cellsU64 cellsPow h1.tail.tail
  obtain ⟨a_rng, t_rng, v_rng, _, _, _⟩ := laid_sentinel (r := _) h1.tail.tail.tail.tail Go.X.gn_rng s1Type Tryz.underlying55 rowTP Tryz.underlying185 Tryz.underlying187 rfl rfl Tryz.underlying9 cellsTE cellsSTR
  obtain ⟨a_syn, t_syn, v_syn, _, _, _⟩ := laid_sentinel (r := _) h1.tail.tail.tail.tail.tail Go.X.gn_syn s0Type Tryz.underlying55 rowTP Tryz.underlying185 Tryz.underlying187 rfl rfl Tryz.underlying9 cellsTE cellsSTR
  obtain ⟨name, u, ty, e1, e2, e3, e4, e5⟩ := h2 _ (List.mem_singleton.2 rfl)
  have en : name = [101, 114, 114, 111, 114] := (Option.some.inj e1).symm
  subst en
  obtain rfl := Option.some.inj (rt.symm.trans e2)
  have hm : ty ∈ (List.range 245).filter fun t => Tryz.prog.rowNamed t [101, 114, 114, 111, 114] := List.mem_filter.2 ⟨List.mem_range.2 (by rw [← size]; exact e3), e4⟩
  rw [oneRow] at hm
  obtain rfl := List.mem_singleton.1 hm
  have hh : typeHandle Tryz.prog 55 = .pointer (some ⟨9, 55, none⟩) := by kernel_rfl
  rw [hh] at e5
  refine ⟨mlen hs, pow_eq ▸ hp, ⟨_, _, v_syn⟩, ⟨_, _, v_rng⟩, ?_⟩
  simpa using World.var?_cell et e5 0
def lay (c : Array Value) : Obj → Obj
  | .cells _ t frozen => .cells c t frozen
  | o => o
noncomputable abbrev N0 : Nat := (World.settled Tryz.prog default).heap.size
noncomputable def laidWorld (os : Os) : World :=
  let N := (World.settled Tryz.prog os).heap.size
  let w0 := World.holding Tryz.prog os ⟨#[.cells #[.string ⟨#[118, 97, 108, 117, 101, 32, 111, 117, 116, 32, 111, 102, 32, 114, 97, 110, 103, 101]⟩] 187, .cells #[.string ⟨#[105, 110, 118, 97, 108, 105, 100, 32, 115, 121, 110, 116, 97, 120]⟩] 187], #[], []⟩
  { w0 with heap := ((((((((w0.heap.modify 7 (lay #[.int .u8 0, .int .u8 1, .int .u8 28, .int .u8 2, .int .u8 29, .int .u8 14, .int .u8 24, .int .u8 3, .int .u8 30, .int .u8 22, .int .u8 20, .int .u8 15, .int .u8 25, .int .u8 17, .int .u8 4, .int .u8 8, .int .u8 31, .int .u8 27, .int .u8 13, .int .u8 23, .int .u8 21, .int .u8 19, .int .u8 16, .int .u8 7, .int .u8 26, .int .u8 12, .int .u8 18, .int .u8 6, .int .u8 11, .int .u8 5, .int .u8 10, .int .u8 9])).modify 8 (lay #[.int .u8 0, .int .u8 1, .int .u8 56, .int .u8 2, .int .u8 57, .int .u8 49, .int .u8 28, .int .u8 3, .int .u8 61, .int .u8 58, .int .u8 42, .int .u8 50, .int .u8 38, .int .u8 29, .int .u8 17, .int .u8 4, .int .u8 62, .int .u8 47, .int .u8 59, .int .u8 36, .int .u8 45, .int .u8 43, .int .u8 51, .int .u8 22, .int .u8 53, .int .u8 39, .int .u8 33, .int .u8 30, .int .u8 24, .int .u8 18, .int .u8 12, .int .u8 5, .int .u8 63, .int .u8 55, .int .u8 48, .int .u8 27, .int .u8 60, .int .u8 41, .int .u8 37, .int .u8 16, .int .u8 46, .int .u8 35, .int .u8 44, .int .u8 21, .int .u8 52, .int .u8 32, .int .u8 23, .int .u8 11, .int .u8 54, .int .u8 26, .int .u8 40, .int .u8 15, .int .u8 34, .int .u8 20, .int .u8 31, .int .u8 10, .int .u8 25, .int .u8 14, .int .u8 19, .int .u8 9, .int .u8 13, .int .u8 8, .int .u8 7, .int .u8 6])).modify 3 (lay #[.int .u64 1, .int .u64 10, .int .u64 100, .int .u64 1000, .int .u64 10000, .int .u64 100000, .int .u64 1000000, .int .u64 10000000, .int .u64 100000000, .int .u64 1000000000, .int .u64 10000000000, .int .u64 100000000000, .int .u64 1000000000000, .int .u64 10000000000000, .int .u64 100000000000000, .int .u64 1000000000000000, .int .u64 10000000000000000, .int .u64 100000000000000000, .int .u64 1000000000000000000, .int .u64 10000000000000000000])).modify 6 (lay #[.int .u8 128, .int .u8 191, .int .u8 160, .int .u8 191, .int .u8 128, .int .u8 159, .int .u8 144, .int .u8 191, .int .u8 128, .int .u8 143, .int .u8 0, .int .u8 0, .int .u8 0, .int .u8 0, .int .u8 0, .int .u8 0, .int .u8 0, .int .u8 0, .int .u8 0, .int .u8 0, .int .u8 0, .int .u8 0, .int .u8 0, .int .u8 0, .int .u8 0, .int .u8 0, .int .u8 0, .int .u8 0, .int .u8 0, .int .u8 0, .int .u8 0, .int .u8 0])).modify 2 (lay #[.iface 189 (.agg #[.pointer (some ⟨9, 55, none⟩)])])).modify 1 (lay #[.iface 185 (.pointer (some ⟨N + 0, 0, none⟩))])).modify 0 (lay #[.iface 185 (.pointer (some ⟨N + 1, 0, none⟩))])).modify 5 (lay (Go.Pinned.utf8FirstZ.map fun (n : Nat) => Value.int .u8 (n : Int)).toArray)) }
theorem laid_in (os : Os) (args : Array Value) : LaidIn Tryz.prog ((laidWorld os).forCall (fun _ _ => 0) ⟨#[], args, []⟩).memory (laidL.filter fun x => x.2.handleName?.isNone) [7, 8, 3, 6, 1, N0 + 0, 0, N0 + 1, 5] :=
  LaidIn.of_run [7, 8, 3, 6, 1, N0 + 0, 0, N0 + 1, 5] 8 (by kernel_rfl) (by kernel_rfl) (by kernel_rfl) (by kernel_rfl)
theorem laid_met (os : Os) (args : Array Value) : laidMetH Tryz.prog laidL ((laidWorld os).forCall (fun _ _ => 0) ⟨#[], args, []⟩).memory :=
  laidMetH_of_parts (laid_in os args).met (by kernel_rfl)
end Go.Proofs.YtebdmniefanenaaGreatDoor.laidb

namespace Go.Proofs.YtebdmniefanenaaGreatDoor.fnLineAgain
open Go.ChangeShapes Go.WideShapes Go.ChangeAt Go.RowKit
open Go.ChangeMaps (open_string shut_string)
open Go.Joins (open_agg2)

open laidb (own)
set_option maxRecDepth 100000 in
theorem contract (H : Type) (enc : TypeId × Value → H) (W : World) (base : Nat) (args : Array Value) (ds gs : List (DataW H)) (before : List MemPlace)
    (hval : ∀ (j : Nat) t v, Tryz.f7.params[j]? = some t → args[j]? = some v → Value.okWide Tryz.prog W .any base t v)
    (hW : DataW.Whole enc Tryz.prog Tryz.f7.params.toList Rows.lineAgainSpec.vars false W args.toList ds gs before) (hL : laidMetH Tryz.prog Rows.lineAgainRow.laid W) (hSh : W.ShapedOpen Tryz.prog) :
    Calls Tryz.prog 7 args W fun e W' => ∃ v, e = .returned v ∧ Rows.lineAgainSpec.post enc Tryz.prog Tryz.f7 false true false false W args v W' := by
  have hW' := hW
  obtain ⟨p, q, hA0, hV, rfl, hfz, hnd⟩ := hW
  have hA : DataW.TrodAll enc Tryz.prog W 0 (fun _ => true) true Tryz.f7.params.toList args.toList ds p := hA0
  rw [Tryz.params7] at hA hval
  obtain ⟨v0, vs0, d0, ds0, p0, q0, hargs, rfl, rfl, h0, r0⟩ := trodAll_cons hA
  obtain ⟨rfl, rfl, rfl⟩ := trodAll_nil r0
  obtain rfl : args = #[v0] := by cases args; simp_all
  obtain ⟨rfl, rfl⟩ := trodVars_none hV
  obtain ⟨a0, rfl, rfl, rfl, y0⟩ := open_string Tryz.underlying9 (hval 0 9 v0 rfl rfl) h0
  clear hA0
  refine (Go.X.law_calls (avs := [.s a0]) (vals := [.string a0]) (Go.X.okLineAgain Go.X.hyp) (laidb.big hL) (laidb.table hL) (laidb.globs hL hSh) rfl ?_ rfl (fun _ hp => by rcases List.mem_singleton.1 hp with rfl; exact Go.X.lv)).mono fun e W' ⟨he, bel⟩ => ?_
  · exact ⟨_, _, rfl, rfl, rfl⟩
  subst he
  exact ⟨_, rfl, _, _, _, [], _, [], hW', trodAll_mk1 (shut_bool Tryz.underlying4 _), (trodAll_cons_mk (shut_string Tryz.underlying9 y0) trodAll_mk0), rfl, bel.frame _, fun h => by cases h⟩
theorem reads (os : Os) {H : Type} (enc : TypeId × Value → H) : ∃ places, DataW.whole enc Tryz.prog ((laidb.laidWorld os).forCall (fun _ _ => 0) ⟨#[], #[.string ByteArray.empty], []⟩).memory Tryz.f7.params.toList Rows.lineAgainSpec.vars false (#[.string ByteArray.empty] : Array Value).toList 8 = some ([.lit (.string [])], [], places) :=
  ⟨[], by kernel_rfl⟩
set_option maxRecDepth 100000 in
theorem lifted (os : Os) (started : os.Started) (H : Type) (enc : TypeId × Value → H) (F : Stop.Interp) :
    ReturnsInHanded {} Tryz.checked os 7 .any ((OpenSpec.ofChange Rows.lineAgainSpec).preRow enc Tryz.prog Tryz.f7 Rows.lineAgainRow.domain false Rows.lineAgainRow.laid) (((OpenSpec.ofChange Rows.lineAgainSpec).at F).post enc Tryz.prog Tryz.f7 false true false false) := by
  obtain ⟨places, hx⟩ := reads os enc
  refine returnsInHanded_of_row (C := Tryz.checked) (s := OpenSpec.ofChange Rows.lineAgainSpec) own started (by kernel_rfl) Tryz.func7
    (witness_row_atRef (enc := enc) (C := Tryz.checked) false (laidb.laidWorld os) #[.string ByteArray.empty] rfl (by kernel_rfl) (by kernel_rfl) (by kernel_rfl)
      (OpenSpec.preRow_of_cond 8 hx (by kernel_rfl) (fun k hk => by cases hk) (by kernel_rfl) (laidb.laid_met os _))) ?_
  intro W base args ds gs before hval hW _ hcond _ hL hSh _
  exact contract H enc W base args ds gs before hval hW hL hSh
theorem said : Rows.LineAgainSaid :=
  OpenClaim.holds_of_cond 7 Tryz.f7 rfl rfl rfl rfl rfl rfl rfl ⟨rfl, rfl, rfl, rfl, rfl⟩ rfl rfl rfl rfl rfl (by kernel_rfl) Tryz.func7 (by kernel_rfl)
    (of_decide_eq_true (by kernel_rfl)) (by unfold Func.isWrapper; first | (rw [if_pos (by decide +kernel)]; kernel_rfl) | (rw [if_neg (by decide +kernel)]; exact ⟨rfl, rfl⟩))
    (fun os started H enc _ F => by rw [OpenClaim.pre_eq_preRow]; exact lifted os started H enc F)
theorem plain (f : FuncId) (fn : Func) (hf : Tryz.pinned.checked.prog.funcNamed "riverbank/riverbanklaw23.LineAgain" = some f) (hfn : Tryz.pinned.checked.prog.funcs[f]? = some fn) :
    true = Tryz.pinned.checked.prog.looks [] ∧ ∀ (j : Nat) t, fn.params[j]? = some t → Tryz.pinned.checked.prog.wantsStandIn t = false := by
  obtain rfl : f = 7 := Option.some.inj ((show Tryz.prog.funcNamed "riverbank/riverbanklaw23.LineAgain" = some 7 by kernel_rfl).symm.trans hf) |>.symm
  obtain rfl : fn = Tryz.f7 := (Option.some.inj (Tryz.func7.symm.trans hfn)).symm
  refine ⟨by kernel_rfl, fun j t ht => ?_⟩
  rw [Tryz.params7] at ht
  have hm : t ∈ (#[9] : Array TypeId) := Array.mem_of_getElem? ht
  simp only [List.mem_toArray, List.mem_cons, List.not_mem_nil, or_false] at hm
  subst hm
  exact (show Tryz.prog.wantsStandIn 9 = false by kernel_rfl)
theorem card : Rows.LineAgainCardSaid :=
  Claim7.holds_tied_plain_at .later [] _ _ _ _ said (fun _ h => by cases h) (by kernel_rfl) (fun _ h => by cases h) lineAgain_row_tie rfl ⟨rfl, rfl⟩ (by kernel_rfl) rfl plain (by kernel_rfl)
end Go.Proofs.YtebdmniefanenaaGreatDoor.fnLineAgain
namespace Go.Proofs.YtebdmniefanenaaGreatDoor
theorem lineAgain_card : Rows.LineAgainCardSaid := fnLineAgain.card
end Go.Proofs.YtebdmniefanenaaGreatDoor
