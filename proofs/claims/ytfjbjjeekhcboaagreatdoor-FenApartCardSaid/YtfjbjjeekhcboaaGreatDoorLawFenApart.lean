/-
  The law FenApart holds: it returns true, whatever the input; the input reads as it did. Conditions: none of this proof's own.
-/
import Derived.Test.YtfjbjjeekhcboaaGreatDoorA5
import Derived.Test.YtfjbjjeekhcboaaGreatDoorCards
import Derived.Test.YtfjbjjeekhcboaaGreatDoorTie
import Derived.WalkKit
import Derived.ProofKit
import Derived.LaidHandle
import Derived.Stop.LaidErr
import Derived.Lib.LaidIn
import Derived.Lib.LaidTab
import Derived.Deep.DeepHandedRow
import Derived.Deep.DeepWitnessRowRef
import Derived.OpenShut
import Derived.ShutString
import Derived.Below
import Derived.SevenTiedAt
import Derived.Lib.SmallJoins

set_option linter.unusedSimpArgs false
set_option linter.unusedVariables false

namespace Go.X
open Go Go.Proofs

def cFenApart : Con
  | [.agg [.a (.s _), .a (.i .i64 _), .a (.i .i64 _), .a (.i .i64 _)], .agg [.a (.s _), .a (.i .i64 _), .a (.i .i64 _), .a (.i .i64 _)]] => some ⟨[Lv], .a (.b true), [], []⟩
  | _ => none
section
variable {G : Nat → World → Prop}
set_option maxHeartbeats 4000000 in
set_option maxRecDepth 20000 in
theorem okFenApart (hS : Hyp G) : ConOK Tryz.prog G 9 cFenApart := by
  refine seat_con hS.seat [(10, cLive04), (13, cPrintV)] [] ⟨okLive04 hS, okPrintV hS, trivial⟩ Tryz.func9 rfl rfl rfl ?_
  intro rvs cr hcr hpre
  unfold cFenApart at hcr
  split at hcr
  · rename_i p side clock full p2 side2 clock2 full2
    cases hcr
    simp only [List.mem_cons, List.not_mem_nil, or_false, forall_eq_or_imp, forall_eq] at hpre
    refine ⟨⟨rfl, rfl, rfl⟩, fun c hc vs => ?_⟩
    repeat' (first | exact Bool.noConfusion ‹(!true) = true› | exact Bool.noConfusion ‹(!false) = false› | (intro h; exact h) | (intro h; rw [h]; rfl) | (intro h1 h2; rw [h1, h2]; rfl) | (intro _; assumption) | (intro _; exact rfl) | (intro h; exact Bool.noConfusion (h.symm.trans ‹_ = false›)) | refine ⟨fun _ => ?_, fun _ => ?_⟩ | refine ⟨?_⟩ | refine ⟨?_, ?_⟩ | fail)
    all_goals first | exact hpre | exact trivial | exact rfl | skip
    · refine chk_b ?_
      have hne := ‹((veil (printP (p, side, clock, full))).2 != 0 || (veil (printP (p2, side2, clock2, full2))).2 != 0) = false›
      simp only [veil_eq, print_snd, Bool.or_eq_false_iff, bne_eq_false_iff_eq] at hne ⊢
      obtain ⟨hk1, hk2⟩ := hne
      rw [print_fst_ok hk1, print_fst_ok hk2]
      have h := print_apart hk1 hk2
      have e : strEq (prB (p, side, clock, full)) (prB (p2, side2, clock2, full2)) = EK.eqb posK (p, side, clock, full) (p2, side2, clock2, full2) := by
        rw [Bool.eq_iff_iff, strEq_iff, pos_eqb]; exact h
      show ((strEq (prB (p, side, clock, full)) (prB (p2, side2, clock2, full2)) == EK.eqb posK (p, side, clock, full) (p2, side2, clock2, full2)) && true) = true
      rw [e]; simp
  · cases hcr
end
end Go.X

namespace Go.Proofs.YtfjbjjeekhcboaaGreatDoor.laidb
open Go.RowKit

abbrev laidL : List (String × DataW Unit) := Rows.fenReadsRow.laid
theorem own : ownKnob Tryz.prog.godebug = none := by kernel_rfl
theorem gTab : Tryz.prog.globalNamed "math/bits.deBruijn64tab" = some (Tryz.laysT29_ren.g 1) := by kernel_rfl
theorem gTabType : (Tryz.prog.globals[(Tryz.laysT29_ren.g 1)]?).map (·.type) = some 168 := by kernel_rfl
theorem cellsTab : Tryz.prog.cellsOf 168 = 64 := by kernel_rfl
theorem cellsByte : Tryz.prog.cellsOf 5 = 1 := by kernel_rfl
theorem gPowType : (Tryz.prog.globals[2]?).map (·.type) = some 146 := by kernel_rfl
theorem cellsPow : Tryz.prog.cellsOf 146 = 20 := by kernel_rfl
theorem cellsU64 : Tryz.prog.cellsOf 125 = 1 := by kernel_rfl
def tabZ : List Int := [0, 1, 56, 2, 57, 49, 28, 3, 61, 58, 42, 50, 38, 29, 17, 4, 62, 47, 59, 36, 45, 43, 51, 22, 53, 39, 33, 30, 24, 18, 12, 5, 63, 55, 48, 27, 60, 41, 37, 16, 46, 35, 44, 21, 52, 32, 23, 11, 54, 26, 40, 15, 34, 20, 31, 10, 25, 14, 19, 9, 13, 8, 7, 6]
def powZ : List Int := [1, 10, 100, 1000, 10000, 100000, 1000000, 10000000, 100000000, 1000000000, 10000000000, 100000000000, 1000000000000, 10000000000000, 100000000000000, 1000000000000000, 10000000000000000, 100000000000000000, 1000000000000000000, 10000000000000000000]
theorem pow_eq : powZ = Lib.pow10Tab := by decide
theorem et : Tryz.prog.globalNamed "errors.errorType" = some 0 := by kernel_rfl
theorem rt : (Tryz.prog.cutTypes.find? (·.1 == "internal/reflectlite.rtype")).map (·.2) = some 95 := by kernel_rfl
theorem oneRow : ((List.range 195).filter fun t => Tryz.prog.rowNamed t [101, 114, 114, 111, 114]) = [37] := by kernel_rfl
theorem size : Tryz.prog.types.size = 195 := by kernel_rfl
theorem star : "*" ++ "errors.errorString" = "*errors.errorString" := by decide
theorem rowTP (u : TypeId) (h : Tryz.prog.typeName? 3 u = some "*errors.errorString") : u = 164 :=
  typeName_ptr_named (nm := "errors.errorString") (by rw [star]; kernel_rfl) (by kernel_rfl) (by decide) u (by rw [star]; exact h)
theorem s4Type : (Tryz.prog.globals[4]?).map (·.type) = some 37 := by kernel_rfl
theorem s3Type : (Tryz.prog.globals[3]?).map (·.type) = some 37 := by kernel_rfl
theorem cellsTE : Tryz.prog.cellsOf 166 = 1 := by kernel_rfl
theorem cellsSTR : Tryz.prog.cellsOf 9 = 1 := by kernel_rfl
theorem parts {W : World} (h : laidMetH Tryz.prog laidL W) : laidMet Tryz.prog [("math/bits.deBruijn32tab", Rows.laid_math_bits_deBruijn32tab), ("math/bits.deBruijn64tab", Rows.laid_math_bits_deBruijn64tab), ("internal/strconv.uint64pow10", Rows.laid_internal_strconv_uint64pow10), ("unicode/utf8.acceptRanges", Rows.laid_unicode_utf8_acceptRanges), ("strconv.ErrRange", Rows.laid_strconv_ErrRange), ("strconv.ErrSyntax", Rows.laid_strconv_ErrSyntax), ("unicode/utf8.first", Rows.laid_unicode_utf8_first)] W ∧ handlesMet Tryz.prog [("errors.errorType", Rows.laid_errors_errorType)] W := h
theorem table {W : World} (h : laidMetH Tryz.prog laidL W) : TabAt (Tryz.laysT29_ren.g 1) Lib.deBruijn64tab W := by
  have h1 := (parts h).1
  have ht : Lib.TabIs Tryz.prog W "math/bits.deBruijn64tab" .u8 tabZ :=
    Lib.tabIs_of_head (rest := _) gTab gTabType Tryz.underlying168 Tryz.underlying5 cellsByte cellsTab h1.tail
  intro j hj
  have h64 : j < tabZ.length := hj
  rw [ht.cell gTab j h64]
  have key : ∀ j, j < tabZ.length → tabZ.getD j 0 = ((Lib.deBruijn64tab.getD j 0 : Nat) : Int) := by decide
  rw [key j h64]
theorem big {W : World} (h : laidMetH Tryz.prog laidL W) : 9 ≤ W.heap.size := by
  have h1 := table h 0 (by decide)
  have hg : (Tryz.laysT29_ren.g 1) = 8 := by decide +kernel
  rw [hg] at h1
  refine Classical.byContradiction fun hlt => ?_
  have hn : W.heap[8]? = none := Array.getElem?_eq_none (by omega)
  unfold World.cell? at h1
  simp [hn] at h1
theorem mlen {W : World} (hs : W.ShapedOpen Tryz.prog) : ∃ m, W.cell? ⟨1, 0, none⟩ = some (.int .i64 m) :=
  Go.Proofs.cell_of_shapedOpen_int (zero := #[.int .i64 0]) (t := 3) hs (of_decide_eq_true (by kernel_rfl)) (by kernel_rfl) rfl (by kernel_rfl) (by kernel_rfl) Tryz.underlying3
theorem globs {W : World} (h : laidMetH Tryz.prog laidL W) (hs : W.ShapedOpen Tryz.prog) : Go.X.Globs W := by
  obtain ⟨h1, h2⟩ := parts h
  have hp : Lib.TabIs Tryz.prog W "internal/strconv.uint64pow10" .u64 powZ :=
    Lib.tabIs_of_head (rest := _) Go.X.gn_pow gPowType Tryz.underlying146 Tryz.underlying125 cellsU64 cellsPow h1.tail.tail
  obtain ⟨a_rng, t_rng, v_rng, _, _, _⟩ := laid_sentinel (r := _) h1.tail.tail.tail.tail Go.X.gn_rng s4Type Tryz.underlying37 rowTP Tryz.underlying164 Tryz.underlying166 rfl rfl Tryz.underlying9 cellsTE cellsSTR
  obtain ⟨a_syn, t_syn, v_syn, _, _, _⟩ := laid_sentinel (r := _) h1.tail.tail.tail.tail.tail Go.X.gn_syn s3Type Tryz.underlying37 rowTP Tryz.underlying164 Tryz.underlying166 rfl rfl Tryz.underlying9 cellsTE cellsSTR
  obtain ⟨name, u, ty, e1, e2, e3, e4, e5⟩ := h2 _ (List.mem_singleton.2 rfl)
  have en : name = [101, 114, 114, 111, 114] := (Option.some.inj e1).symm
  subst en
  obtain rfl := Option.some.inj (rt.symm.trans e2)
  have hm : ty ∈ (List.range 195).filter fun t => Tryz.prog.rowNamed t [101, 114, 114, 111, 114] := List.mem_filter.2 ⟨List.mem_range.2 (by rw [← size]; exact e3), e4⟩
  rw [oneRow] at hm
  obtain rfl := List.mem_singleton.1 hm
  have hh : typeHandle Tryz.prog 37 = .pointer (some ⟨9, 37, none⟩) := by kernel_rfl
  rw [hh] at e5
  refine ⟨mlen hs, pow_eq ▸ hp, ⟨_, _, v_syn⟩, ⟨_, _, v_rng⟩, ?_⟩
  simpa using World.var?_cell et e5 0
def lay (c : Array Value) : Obj → Obj
  | .cells _ t frozen => .cells c t frozen
  | o => o
noncomputable abbrev N0 : Nat := (World.settled Tryz.prog default).heap.size
noncomputable def laidWorld (os : Os) : World :=
  let N := (World.settled Tryz.prog os).heap.size
  let w0 := World.holding Tryz.prog os ⟨#[.cells #[.string ⟨#[118, 97, 108, 117, 101, 32, 111, 117, 116, 32, 111, 102, 32, 114, 97, 110, 103, 101]⟩] 166, .cells #[.string ⟨#[105, 110, 118, 97, 108, 105, 100, 32, 115, 121, 110, 116, 97, 120]⟩] 166], #[], []⟩
  { w0 with heap := ((((((((w0.heap.modify 7 (lay #[.int .u8 0, .int .u8 1, .int .u8 28, .int .u8 2, .int .u8 29, .int .u8 14, .int .u8 24, .int .u8 3, .int .u8 30, .int .u8 22, .int .u8 20, .int .u8 15, .int .u8 25, .int .u8 17, .int .u8 4, .int .u8 8, .int .u8 31, .int .u8 27, .int .u8 13, .int .u8 23, .int .u8 21, .int .u8 19, .int .u8 16, .int .u8 7, .int .u8 26, .int .u8 12, .int .u8 18, .int .u8 6, .int .u8 11, .int .u8 5, .int .u8 10, .int .u8 9])).modify 8 (lay #[.int .u8 0, .int .u8 1, .int .u8 56, .int .u8 2, .int .u8 57, .int .u8 49, .int .u8 28, .int .u8 3, .int .u8 61, .int .u8 58, .int .u8 42, .int .u8 50, .int .u8 38, .int .u8 29, .int .u8 17, .int .u8 4, .int .u8 62, .int .u8 47, .int .u8 59, .int .u8 36, .int .u8 45, .int .u8 43, .int .u8 51, .int .u8 22, .int .u8 53, .int .u8 39, .int .u8 33, .int .u8 30, .int .u8 24, .int .u8 18, .int .u8 12, .int .u8 5, .int .u8 63, .int .u8 55, .int .u8 48, .int .u8 27, .int .u8 60, .int .u8 41, .int .u8 37, .int .u8 16, .int .u8 46, .int .u8 35, .int .u8 44, .int .u8 21, .int .u8 52, .int .u8 32, .int .u8 23, .int .u8 11, .int .u8 54, .int .u8 26, .int .u8 40, .int .u8 15, .int .u8 34, .int .u8 20, .int .u8 31, .int .u8 10, .int .u8 25, .int .u8 14, .int .u8 19, .int .u8 9, .int .u8 13, .int .u8 8, .int .u8 7, .int .u8 6])).modify 2 (lay #[.int .u64 1, .int .u64 10, .int .u64 100, .int .u64 1000, .int .u64 10000, .int .u64 100000, .int .u64 1000000, .int .u64 10000000, .int .u64 100000000, .int .u64 1000000000, .int .u64 10000000000, .int .u64 100000000000, .int .u64 1000000000000, .int .u64 10000000000000, .int .u64 100000000000000, .int .u64 1000000000000000, .int .u64 10000000000000000, .int .u64 100000000000000000, .int .u64 1000000000000000000, .int .u64 10000000000000000000])).modify 6 (lay #[.int .u8 128, .int .u8 191, .int .u8 160, .int .u8 191, .int .u8 128, .int .u8 159, .int .u8 144, .int .u8 191, .int .u8 128, .int .u8 143, .int .u8 0, .int .u8 0, .int .u8 0, .int .u8 0, .int .u8 0, .int .u8 0, .int .u8 0, .int .u8 0, .int .u8 0, .int .u8 0, .int .u8 0, .int .u8 0, .int .u8 0, .int .u8 0, .int .u8 0, .int .u8 0, .int .u8 0, .int .u8 0, .int .u8 0, .int .u8 0, .int .u8 0, .int .u8 0])).modify 0 (lay #[.iface 95 (.agg #[.pointer (some ⟨9, 37, none⟩)])])).modify 4 (lay #[.iface 164 (.pointer (some ⟨N + 0, 0, none⟩))])).modify 3 (lay #[.iface 164 (.pointer (some ⟨N + 1, 0, none⟩))])).modify 5 (lay (Go.Pinned.utf8FirstZ.map fun (n : Nat) => Value.int .u8 (n : Int)).toArray)) }
theorem laid_in (os : Os) (args : Array Value) : LaidIn Tryz.prog ((laidWorld os).forCall (fun _ _ => 0) ⟨#[], args, []⟩).memory (laidL.filter fun x => x.2.handleName?.isNone) [7, 8, 2, 6, 4, N0 + 0, 3, N0 + 1, 5] :=
  LaidIn.of_run [7, 8, 2, 6, 4, N0 + 0, 3, N0 + 1, 5] 8 (by kernel_rfl) (by kernel_rfl) (by kernel_rfl) (by kernel_rfl)
theorem laid_met (os : Os) (args : Array Value) : laidMetH Tryz.prog laidL ((laidWorld os).forCall (fun _ _ => 0) ⟨#[], args, []⟩).memory :=
  laidMetH_of_parts (laid_in os args).met (by kernel_rfl)
end Go.Proofs.YtfjbjjeekhcboaaGreatDoor.laidb

namespace Go.Proofs.YtfjbjjeekhcboaaGreatDoor.fnFenApart
open Go.ChangeShapes Go.WideShapes Go.ChangeAt Go.RowKit
open Go.ChangeMaps (open_string shut_string)
open Go.Joins (open_agg4 shut_agg4)

open laidb (own)
set_option maxRecDepth 100000 in
theorem contract (H : Type) (enc : TypeId × Value → H) (W : World) (base : Nat) (args : Array Value) (ds gs : List (DataW H)) (before : List MemPlace)
    (hval : ∀ (j : Nat) t v, Tryz.f9.params[j]? = some t → args[j]? = some v → Value.okWide Tryz.prog W .any base t v)
    (hW : DataW.Whole enc Tryz.prog Tryz.f9.params.toList Rows.fenApartSpec.vars false W args.toList ds gs before) (hL : laidMetH Tryz.prog Rows.fenApartRow.laid W) (hSh : W.ShapedOpen Tryz.prog) :
    Calls Tryz.prog 9 args W fun e W' => ∃ v, e = .returned v ∧ Rows.fenApartSpec.post enc Tryz.prog Tryz.f9 false true false false W args v W' := by
  have hW' := hW
  obtain ⟨p, q, hA0, hV, rfl, hfz, hnd⟩ := hW
  have hA : DataW.TrodAll enc Tryz.prog W 0 (fun _ => true) true Tryz.f9.params.toList args.toList ds p := hA0
  rw [Tryz.params9] at hA hval
  obtain ⟨v0, vs0, d0, ds0, p0, q0, hargs, rfl, rfl, h0, r0⟩ := trodAll_cons hA
  obtain ⟨v1, vs1, d1, ds1, p1, q1, rfl, rfl, rfl, h1, r1⟩ := trodAll_cons r0
  obtain ⟨rfl, rfl, rfl⟩ := trodAll_nil r1
  obtain rfl : args = #[v0, v1] := by cases args; simp_all
  obtain ⟨rfl, rfl⟩ := trodVars_none hV
  obtain ⟨c00, c01, c02, c03, x00, x01, x02, x03, n0, rfl, rfl, rfl, t00, t01, t02, t03⟩ := open_agg4 Tryz.underlying24 (by kernel_rfl) (by kernel_rfl) (hval 0 24 v0 rfl rfl) h0
  obtain ⟨b00, z00, e00, w00⟩ := DataW.trod_string Tryz.underlying9 t00
  obtain rfl : c00 = .string b00 := by simpa using z00
  subst e00
  obtain ⟨b01, z01, e01, w01⟩ := DataW.trod_int Tryz.underlying3 t01
  obtain rfl : c01 = .int .i64 b01 := by simpa using z01
  subst e01
  obtain ⟨b02, z02, e02, w02⟩ := DataW.trod_int Tryz.underlying3 t02
  obtain rfl : c02 = .int .i64 b02 := by simpa using z02
  subst e02
  obtain ⟨b03, z03, e03, w03⟩ := DataW.trod_int Tryz.underlying3 t03
  obtain rfl : c03 = .int .i64 b03 := by simpa using z03
  subst e03
  obtain ⟨c10, c11, c12, c13, x10, x11, x12, x13, n1, rfl, rfl, rfl, t10, t11, t12, t13⟩ := open_agg4 Tryz.underlying24 (by kernel_rfl) (by kernel_rfl) (hval 1 24 v1 rfl rfl) h1
  obtain ⟨b10, z10, e10, w10⟩ := DataW.trod_string Tryz.underlying9 t10
  obtain rfl : c10 = .string b10 := by simpa using z10
  subst e10
  obtain ⟨b11, z11, e11, w11⟩ := DataW.trod_int Tryz.underlying3 t11
  obtain rfl : c11 = .int .i64 b11 := by simpa using z11
  subst e11
  obtain ⟨b12, z12, e12, w12⟩ := DataW.trod_int Tryz.underlying3 t12
  obtain rfl : c12 = .int .i64 b12 := by simpa using z12
  subst e12
  obtain ⟨b13, z13, e13, w13⟩ := DataW.trod_int Tryz.underlying3 t13
  obtain rfl : c13 = .int .i64 b13 := by simpa using z13
  subst e13
  clear hA0
  refine (Go.X.law_calls (avs := [.agg [.s b00, .i .i64 b01, .i .i64 b02, .i .i64 b03], .agg [.s b10, .i .i64 b11, .i .i64 b12, .i .i64 b13]]) (vals := [.agg #[.string b00, .int .i64 b01, .int .i64 b02, .int .i64 b03], .agg #[.string b10, .int .i64 b11, .int .i64 b12, .int .i64 b13]]) (Go.X.okFenApart Go.X.hyp) (laidb.big hL) (laidb.table hL) (laidb.globs hL hSh) rfl ?_ rfl (fun _ hp => by rcases List.mem_singleton.1 hp with rfl; exact Go.X.lv)).mono fun e W' ⟨he, bel⟩ => ?_
  · exact ⟨_, _, rfl, ⟨[_, _, _, _], rfl, ⟨_, _, rfl, rfl, ⟨_, _, rfl, rfl, ⟨_, _, rfl, rfl, ⟨_, _, rfl, rfl, rfl⟩⟩⟩⟩⟩, ⟨_, _, rfl, ⟨[_, _, _, _], rfl, ⟨_, _, rfl, rfl, ⟨_, _, rfl, rfl, ⟨_, _, rfl, rfl, ⟨_, _, rfl, rfl, rfl⟩⟩⟩⟩⟩, rfl⟩⟩
  subst he
  exact ⟨_, rfl, _, _, _, [], _, [], hW', trodAll_mk1 (shut_bool Tryz.underlying4 _), (trodAll_cons_mk (shut_agg4 Tryz.underlying24 (by kernel_rfl) (by kernel_rfl) ⟨1, by simp [DataW.trod, Tryz.underlying9, w00]⟩ ⟨1, by simp [DataW.trod, Tryz.underlying3, w01]⟩ ⟨1, by simp [DataW.trod, Tryz.underlying3, w02]⟩ ⟨1, by simp [DataW.trod, Tryz.underlying3, w03]⟩) (trodAll_cons_mk (shut_agg4 Tryz.underlying24 (by kernel_rfl) (by kernel_rfl) ⟨1, by simp [DataW.trod, Tryz.underlying9, w10]⟩ ⟨1, by simp [DataW.trod, Tryz.underlying3, w11]⟩ ⟨1, by simp [DataW.trod, Tryz.underlying3, w12]⟩ ⟨1, by simp [DataW.trod, Tryz.underlying3, w13]⟩) trodAll_mk0)), rfl, bel.frame _, fun h => by cases h⟩
theorem reads (os : Os) {H : Type} (enc : TypeId × Value → H) : ∃ places, DataW.whole enc Tryz.prog ((laidb.laidWorld os).forCall (fun _ _ => 0) ⟨#[], #[.agg #[.string ByteArray.empty, .int .i64 0, .int .i64 0, .int .i64 0], .agg #[.string ByteArray.empty, .int .i64 0, .int .i64 0, .int .i64 0]], []⟩).memory Tryz.f9.params.toList Rows.fenApartSpec.vars false (#[.agg #[.string ByteArray.empty, .int .i64 0, .int .i64 0, .int .i64 0], .agg #[.string ByteArray.empty, .int .i64 0, .int .i64 0, .int .i64 0]] : Array Value).toList 8 = some ([.agg [.lit (.string []), .lit (.int .i64 0), .lit (.int .i64 0), .lit (.int .i64 0)], .agg [.lit (.string []), .lit (.int .i64 0), .lit (.int .i64 0), .lit (.int .i64 0)]], [], places) :=
  ⟨[], by kernel_rfl⟩
set_option maxRecDepth 100000 in
theorem lifted (os : Os) (started : os.Started) (H : Type) (enc : TypeId × Value → H) (F : Stop.Interp) :
    ReturnsInHanded {} Tryz.checked os 9 .any ((OpenSpec.ofChange Rows.fenApartSpec).preRow enc Tryz.prog Tryz.f9 Rows.fenApartRow.domain false Rows.fenApartRow.laid) (((OpenSpec.ofChange Rows.fenApartSpec).at F).post enc Tryz.prog Tryz.f9 false true false false) := by
  obtain ⟨places, hx⟩ := reads os enc
  refine returnsInHanded_of_row (C := Tryz.checked) (s := OpenSpec.ofChange Rows.fenApartSpec) own started (by kernel_rfl) Tryz.func9
    (witness_row_atRef (enc := enc) (C := Tryz.checked) false (laidb.laidWorld os) #[.agg #[.string ByteArray.empty, .int .i64 0, .int .i64 0, .int .i64 0], .agg #[.string ByteArray.empty, .int .i64 0, .int .i64 0, .int .i64 0]] rfl (by kernel_rfl) (by kernel_rfl) (by kernel_rfl)
      (OpenSpec.preRow_of_cond 8 hx (by kernel_rfl) (fun k hk => by cases hk) (by kernel_rfl) (laidb.laid_met os _))) ?_
  intro W base args ds gs before hval hW _ _ _ hL hSh _
  exact contract H enc W base args ds gs before hval hW hL hSh
theorem said : Rows.FenApartSaid :=
  OpenClaim.holds_of_cond 9 Tryz.f9 rfl rfl rfl rfl rfl rfl rfl ⟨rfl, rfl, rfl, rfl, rfl⟩ rfl rfl rfl rfl rfl (by kernel_rfl) Tryz.func9 (by kernel_rfl)
    (of_decide_eq_true (by kernel_rfl)) (by unfold Func.isWrapper; first | (rw [if_pos (by decide +kernel)]; kernel_rfl) | (rw [if_neg (by decide +kernel)]; exact ⟨rfl, rfl⟩))
    (fun os started H enc _ F => by rw [OpenClaim.pre_eq_preRow]; exact lifted os started H enc F)
theorem plain (f : FuncId) (fn : Func) (hf : Tryz.pinned.checked.prog.funcNamed "riverbank/riverbanklaw04.FenApart" = some f) (hfn : Tryz.pinned.checked.prog.funcs[f]? = some fn) :
    true = Tryz.pinned.checked.prog.looks [] ∧ ∀ (j : Nat) t, fn.params[j]? = some t → Tryz.pinned.checked.prog.wantsStandIn t = false := by
  obtain rfl : f = 9 := Option.some.inj ((show Tryz.prog.funcNamed "riverbank/riverbanklaw04.FenApart" = some 9 by kernel_rfl).symm.trans hf) |>.symm
  obtain rfl : fn = Tryz.f9 := (Option.some.inj (Tryz.func9.symm.trans hfn)).symm
  refine ⟨by kernel_rfl, fun j t ht => ?_⟩
  rw [Tryz.params9] at ht
  have hm : t ∈ (#[24, 24] : Array TypeId) := Array.mem_of_getElem? ht
  simp only [List.mem_toArray, List.mem_cons, List.not_mem_nil, or_false] at hm
  rcases hm with rfl | rfl
  · exact (show Tryz.prog.wantsStandIn 24 = false by kernel_rfl)
  · exact (show Tryz.prog.wantsStandIn 24 = false by kernel_rfl)
theorem card : Rows.FenApartCardSaid :=
  Claim7.holds_tied_plain_at .later [] _ _ _ _ said (fun _ h => by cases h) (by kernel_rfl) (fun _ h => by cases h) fenApart_row_tie rfl ⟨rfl, rfl⟩ (by kernel_rfl) rfl plain (by kernel_rfl)
end Go.Proofs.YtfjbjjeekhcboaaGreatDoor.fnFenApart
namespace Go.Proofs.YtfjbjjeekhcboaaGreatDoor
theorem fenApart_card : Rows.FenApartCardSaid := fnFenApart.card
end Go.Proofs.YtfjbjjeekhcboaaGreatDoor
