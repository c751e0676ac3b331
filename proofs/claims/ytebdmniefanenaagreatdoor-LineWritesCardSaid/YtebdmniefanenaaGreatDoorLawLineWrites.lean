/-
  The law LineWrites holds: it returns true, whatever the input; the input reads as it did. Conditions: none of this proof's own.
-/
import Derived.Test.YtebdmniefanenaaGreatDoorA0
import Derived.Test.YtebdmniefanenaaGreatDoorA1
import Derived.Test.YtebdmniefanenaaGreatDoorA2
import Derived.Test.YtebdmniefanenaaGreatDoorA3
import Derived.Test.YtebdmniefanenaaGreatDoorA4
import Derived.Test.YtebdmniefanenaaGreatDoorA5
import Derived.Test.YtebdmniefanenaaGreatDoorCards
import Derived.Test.YtebdmniefanenaaGreatDoorTie
import Derived.WalkKit
import Derived.ProofKit
import Derived.LaidHandle
import Derived.Stop.LaidErr
import Derived.Lib.LaidIn
import Derived.Lib.LaidTab
import Derived.Deep.DeepHandedRow
import Derived.Deep.DeepWitnessRowRef
import Derived.Deep.SlicePairs
import Derived.Lib.SmallJoins
import Derived.ReadAgain
import Derived.OpenShut
import Derived.ShutString
import Derived.Below
import Derived.SevenTiedAt

set_option linter.unusedSimpArgs false
set_option linter.unusedVariables false

namespace Go.X
open Go Go.Proofs Go.RowKit

set_option maxHeartbeats 1000000 in
theorem own_idW (v0 : Int) (v1 : ByteArray) (v2 v3 v4 v6 : Int) (a : Option Addr) (n cap : Nat) (w : World) : Calls Tryz.prog 10 #[.agg #[.int .i64 v0, .string v1, .int .i64 v2, .int .i64 v3, .int .i64 v4, .slice a n cap, .int .i64 v6]] w fun e w' => e = .returned (.agg #[.int .i64 v0, .string v1, .int .i64 v2, .int .i64 v3, .int .i64 v4, .slice a n cap, .int .i64 v6]) ∧ Below w.heap.size w w' := by
  go_enter Tryz.func10, Tryz.ntmps10
  go_wp2
  refine bodyPost_ret (results_cell_row (P := Tryz.prog) rfl _ _ _ _ _ _ _ rfl (heap_alloc2_new _ _ _) Tryz.underlying29 rfl (by kernel_rfl)) rfl ?_
  exact ⟨rfl, ((Below.refl _ _).alloc (Nat.le_refl _) _).alloc (by simp) _⟩
abbrev cOwnW : Con := cIdC
section
variable {G : Nat → World → Prop}
theorem okOwnW (_ : Hyp G) : ConOK Tryz.prog G 10 cOwnW := con_id Tryz.func10 rfl rfl own_idW
end
theorem want3 {k d : Int} {p : Pos4} {l : List (Int × Int)} (h : k = 3) : wantC (k, p, l, d) = (k, p, l, 0) := by subst h; rfl
theorem want4 {k d : Int} {p : Pos4} {l : List (Int × Int)} (h : k = 4) : wantC (k, p, l, d) = (k, pos0, l, 0) := by subst h; rfl
theorem want5 {k d : Int} {p : Pos4} {l : List (Int × Int)} (h : k = 5) : wantC (k, p, l, d) = (k, pos0, [], d) := by subst h; rfl
theorem wantN {k d : Int} {p : Pos4} {l : List (Int × Int)} (h3 : k ≠ 3) (h4 : k ≠ 4) (h5 : k ≠ 5) : wantC (k, p, l, d) = (k, pos0, [], 0) := by
  unfold wantC
  dsimp only
  rw [if_neg h3, if_neg (fun h => h.elim h3 h4), if_neg h5]
end Go.X

namespace Go.X
open Go Go.Proofs Go.RowKit
structure RWriteC (k : Int) (p : Pos4) (ms : List (Int × Int)) (d : Int) (f : ByteArray) (e : Int) (x : ByteArray × Bool) (n S : ByteArray) : Prop where
  p1 : k = 1 → S = tUcci
  p2 : k = 2 → S = tReady
  p6 : k = 6 → S = tProbe
  p7 : k = 7 → S = tStop
  p8 : k = 8 → S = tQuit
  g1 : k = 5 → (decide (d < 1) || decide (d > 64)) = true → S = ByteArray.empty
  g2 : k = 5 → (decide (d < 1) || decide (d > 64)) = false → S = goLit ++ n
  b1 : k = 4 → (!x.2) = true → S = ByteArray.empty
  b2 : k = 4 → (!x.2) = false → S = tBan ++ x.1
  z : k ≠ 1 → k ≠ 2 → k ≠ 6 → k ≠ 7 → k ≠ 8 → k ≠ 5 → k ≠ 4 → (((k != 3) || (e != 0)) || !x.2) = true → S = ByteArray.empty
  s1 : (((k != 3) || (e != 0)) || !x.2) = false → p = startC → decide ((ms.length : Int) > 0) = true → S = stLit ++ mvLit ++ x.1
  s2 : (((k != 3) || (e != 0)) || !x.2) = false → p = startC → decide ((ms.length : Int) > 0) = false → S = stLit
  s3 : (((k != 3) || (e != 0)) || !x.2) = false → p ≠ startC → decide ((ms.length : Int) > 0) = true → S = feLit ++ f ++ mvLit ++ x.1
  s4 : (((k != 3) || (e != 0)) || !x.2) = false → p ≠ startC → decide ((ms.length : Int) > 0) = false → S = feLit ++ f
theorem app_emp (a : ByteArray) : a ++ ByteArray.empty = a := bA (by rw [aD]; simp)
theorem rwriteC_of {k : Int} {p : Pos4} {ms : List (Int × Int)} {d : Int} {f : ByteArray} {e : Int} {x : ByteArray × Bool} {n S : ByteArray} (hf : printP p = (f, e)) (hx : txL ms = x) (hn : bytesOf (digL d) = n) (hS : printC (k, p, ms, d) = S) : RWriteC k p ms d f e x n S := by
  subst hS
  have he : ck p = 0 ↔ e = 0 := by
    unfold printP at hf
    by_cases h : ck p = 0
    · rw [if_pos h] at hf
      cases hf
      exact ⟨fun _ => rfl, fun _ => h⟩
    · rw [if_neg h] at hf
      cases hf
      exact Iff.rfl
  have hfe : e = 0 → f = prB p := fun h0 => by
    unfold printP at hf
    rw [if_pos (he.2 h0)] at hf
    cases hf; rfl
  have hx2 : x.2 = okT ms := by
    rw [← hx]; unfold txL
    cases h : okT ms <;> simp
  have hx1 : okT ms = true → x.1 = spT ms := fun h => by rw [← hx]; unfold txL; rw [if_pos h]
  have hl1 : decide ((ms.length : Int) > 0) = true → ms ≠ [] := fun h e => by subst e; exact absurd h (by decide)
  have hl0 : decide ((ms.length : Int) > 0) = false → ms = [] := fun h => by
    cases ms with
    | nil => rfl
    | cons x l => rw [len_emp] at h; cases h
  have hs : (((k != 3) || (e != 0)) || !x.2) = false → k = 3 ∧ e = 0 ∧ okT ms = true := fun h => by
    rw [Bool.or_eq_false_iff, Bool.or_eq_false_iff, Bool.not_eq_false'] at h
    exact ⟨bneF h.1.1, bneF h.1.2, hx2 ▸ h.2⟩
  have hset : (((k != 3) || (e != 0)) || !x.2) = false → printC (k, p, ms, d) = (if p = startC then stLit else feLit ++ f) ++ (if ms = [] then ByteArray.empty else mvLit ++ x.1) := fun h => by
    obtain ⟨rfl, h0, ho⟩ := hs h
    rw [set23 (he.2 h0) ho, hfe h0, hx1 ho]
  refine ⟨?_, ?_, ?_, ?_, ?_, ?_, ?_, ?_, ?_, ?_, ?_, ?_, ?_, ?_⟩
  · rintro rfl; exact (one23 (by decide) (by decide) (by decide)).symm
  · rintro rfl; exact (one23 (by decide) (by decide) (by decide)).symm
  · rintro rfl; exact (one23 (by decide) (by decide) (by decide)).symm
  · rintro rfl; exact (one23 (by decide) (by decide) (by decide)).symm
  · rintro rfl; exact (one23 (by decide) (by decide) (by decide)).symm
  · rintro rfl h
    rw [Bool.or_eq_true, decide_eq_true_eq, decide_eq_true_eq] at h
    exact (go23n h).symm
  · rintro rfl h
    rw [Bool.or_eq_false_iff, decide_eq_false_iff_not, decide_eq_false_iff_not] at h
    rw [← hn]
    exact (go23 (by omega) (by omega)).symm
  · rintro rfl h
    rw [hx2, Bool.not_eq_true'] at h
    exact (ban23n h).symm
  · rintro rfl h
    rw [hx2, Bool.not_eq_false'] at h
    rw [hx1 h]
    exact (ban23 h).symm
  · intro h1 h2 h6 h7 h8 h5 h4 h
    by_cases h3 : k = 3
    · subst h3
      refine (set23n ?_).symm
      rw [Bool.or_eq_true, Bool.or_eq_true, hx2, Bool.not_eq_true'] at h
      rcases h with (h | h) | h
      · exact absurd rfl (bneT h)
      · exact .inl fun h0 => bneT h (he.1 h0)
      · exact .inr h
    · rw [← one23 h5 h3 h4]
      exact plainW_no (Ne.symm h1) (Ne.symm h2) (Ne.symm h6) (Ne.symm h7) (Ne.symm h8)
  · intro h hp hm
    rw [hset h, if_pos hp, if_neg (hl1 hm), bAss]
  · intro h hp hm
    rw [hset h, if_pos hp, if_pos (hl0 hm), app_emp]
  · intro h hp hm
    rw [hset h, if_neg hp, if_neg (hl1 hm)]; simp only [bAss]
  · intro h hp hm
    rw [hset h, if_neg hp, if_pos (hl0 hm), app_emp]
noncomputable def cText23V : Con
  | [.row _ ⟨66, .pair (.int .i64) (.int .i64), l, _⟩] => some ⟨[LB l], .tup [.a (.s (veil (txL l)).1), .a (.b (veil (txL l)).2)], [], []⟩
  | _ => none
theorem text23V : cText23V = cText23 := by
  funext l; unfold cText23V cText23; split <;> simp only [veil_eq]
noncomputable def cRPrintV : Con
  | [.agg [.a (.s p), .a (.i .i64 side), .a (.i .i64 clock), .a (.i .i64 full)]] => some ⟨[], .tup [.a (.s (veil (printP (p, side, clock, full))).1), .a (.i .i64 (veil (printP (p, side, clock, full))).2)], [], []⟩
  | _ => none
theorem rprintV : cRPrintV = cRPrint4 := by
  funext l; unfold cRPrintV cRPrint4; split <;> simp only [veil_eq]
noncomputable def cDigV : Con
  | [.a (.i .i64 n)] => some ⟨[DG 4 n], .a (.s (veil (bytesOf (digL n)))), [], []⟩
  | _ => none
theorem digV : cDigV = cDig4 := by
  funext l; unfold cDigV cDig4 cDigK; split <;> simp only [veil_eq]
noncomputable def cRPrint23 : Con
  | [.agg [.a (.i .i64 k), .a (.s p), .a (.i .i64 sd), .a (.i .i64 cl), .a (.i .i64 fu), .row _ ⟨66, .pair (.int .i64) (.int .i64), l, o⟩, .a (.i .i64 d)]] =>
    some ⟨[PW l o], .a (.s (veil (printC (k, (p, sd, cl, fu), l, d)))), [], []⟩
  | _ => none
section
variable {G : Nat → World → Prop}
theorem okText23V (hS : Hyp G) : ConOK Tryz.prog G 23 cText23V := by rw [text23V]; exact okText23 hS
theorem okRPrintV (hS : Hyp G) : ConOK Tryz.prog G 25 cRPrintV := by rw [rprintV]; exact okRPrint4 hS
theorem okDigV (hS : Hyp G) : ConOK Tryz.prog G 24 cDigV := by rw [digV]; exact okDig4 hS
set_option maxHeartbeats 4000000 in
set_option maxRecDepth 20000 in
theorem okRPrint23 (hS : Hyp G) : ConOK Tryz.prog G 11 cRPrint23 := by
  refine seat_con hS.seat [(23, cText23V), (25, cRPrintV), (24, cDigV)] [] ⟨okText23V hS, okRPrintV hS, okDigV hS, trivial⟩ Tryz.func11 rfl rfl rfl ?_
  intro rvs cr hcr hpre
  unfold cRPrint23 at hcr
  split at hcr
  · rename_i k p sd cl fu id l ow d
    cases hcr
    simp only [List.mem_cons, List.not_mem_nil, or_false, forall_eq_or_imp, forall_eq] at hpre
    refine ⟨⟨rfl, rfl, rfl⟩, fun c hc vs => ?_⟩
    have hl := hpre.ln
    obtain ⟨S, hS'⟩ : ∃ x, printC (k, (p, sd, cl, fu), l, d) = x := ⟨_, rfl⟩
    obtain ⟨F, hF⟩ : ∃ x, printP (p, sd, cl, fu) = x := ⟨_, rfl⟩
    obtain ⟨x, hx⟩ : ∃ x, txL l = x := ⟨_, rfl⟩
    obtain ⟨n, hn⟩ : ∃ x, bytesOf (digL d) = x := ⟨_, rfl⟩
    have hW : RWriteC k (p, sd, cl, fu) l d F.1 F.2 x n S := rwriteC_of hF hx hn hS'
    have hxz : x.1.size ≤ 20480 := by
      rw [← hx]; unfold txL
      have := spT_size l
      split
      · show (spT l).size ≤ _; omega
      · exact Nat.zero_le _
    have hFz : F.1.size ≤ 606 := by have := printP_size (p, sd, cl, fu); rw [hF] at this; exact this
    have hdd : (decide (d < 1) || decide (d > 64)) = false → DG 4 d ∧ n.size ≤ 4 := fun h => by
      rw [Bool.or_eq_false_iff, decide_eq_false_iff_not, decide_eq_false_iff_not] at h
      refine ⟨DG.of (by omega) (by omega), ?_⟩
      rw [← hn, size_bytesOf]
      exact dig_len (by omega) (by omega)
    have z1 : goLit.size = 9 := rfl
    have z2 : tBan.size = 8 := rfl
    have z3 : feLit.size = 13 := rfl
    have z4 : stLit.size = 17 := rfl
    have z5 : mvLit.size = 6 := rfl
    unfold goLit at z1
    unfold tBan at z2
    unfold feLit at z3
    unfold stLit at z4
    unfold mvLit at z5
    have hp1 : EK.eqb (.pair .str (.pair (.int .i64) (.pair (.int .i64) (.int .i64)))) (p, sd, cl, fu) startC = true → (p, sd, cl, fu) = startC := fun h => (pos_eqb _ _).1 h
    have hp0 : EK.eqb (.pair .str (.pair (.int .i64) (.pair (.int .i64) (.int .i64)))) (p, sd, cl, fu) startC = false → (p, sd, cl, fu) ≠ startC := fun h e => by
      rw [(pos_eqb _ _).2 e] at h; exact Bool.noConfusion h
    rw [veil_eq, hS']
    clear hS'
    repeat' (first | exact Bool.noConfusion ‹(!true) = true› | exact Bool.noConfusion ‹(!false) = false› | (intro h; exact h) | (intro h; rw [h]; rfl) | (intro h1 h2; rw [h1, h2]; rfl) | (intro _; assumption) | (intro _; exact rfl) | (intro h; exact Bool.noConfusion (h.symm.trans ‹_ = false›)) | refine ⟨fun _ => ?_, fun _ => ?_⟩ | refine ⟨?_⟩ | refine ⟨?_, ?_⟩ | fail)
    all_goals (try simp only [veil_eq, hF, hx, hn] at *)
    all_goals first
      | exact trivial
      | exact rfl
      | exact (hdd ‹_›).1
      | (show l.length ≤ _; omega)
      | (have hz5 := (hdd ‹_›).2; simp only [ByteArray.size_append, z1, z2, z3, z4, z5]; omega)
      | (simp only [ByteArray.size_append, z1, z2, z3, z4, z5]; omega)
      | (first
          | (have e := hW.p1 (beqT ‹(k == 1) = true›); subst e)
          | (have e := hW.p2 (beqT ‹(k == 2) = true›); subst e)
          | (have e := hW.p6 (beqT ‹(k == 6) = true›); subst e)
          | (have e := hW.p7 (beqT ‹(k == 7) = true›); subst e)
          | (have e := hW.p8 (beqT ‹(k == 8) = true›); subst e)
          | (have e := hW.g1 (beqT ‹(k == 5) = true›) ‹_›; subst e)
          | (have e := hW.g2 (beqT ‹(k == 5) = true›) ‹_›; subst e)
          | (have e := hW.b1 (beqT ‹(k == 4) = true›) ‹_›; subst e)
          | (have e := hW.b2 (beqT ‹(k == 4) = true›) ‹_›; subst e)
          | (have e := hW.z (beqF ‹(k == 1) = false›) (beqF ‹(k == 2) = false›) (beqF ‹(k == 6) = false›) (beqF ‹(k == 7) = false›) (beqF ‹(k == 8) = false›) (beqF ‹(k == 5) = false›) (beqF ‹(k == 4) = false›) ‹_›; subst e)
          | (have e := hW.s1 ‹_› (hp1 ‹_›) ‹_›; subst e)
          | (have e := hW.s2 ‹_› (hp1 ‹_›) ‹_›; subst e)
          | (have e := hW.s3 ‹_› (hp0 ‹_›) ‹_›; subst e)
          | (have e := hW.s4 ‹_› (hp0 ‹_›) ‹_›; subst e)
         first | exact chk_s rfl | exact rfl)
      | skip
  · cases hcr
end
end Go.X

namespace Go.X
open Go Go.Proofs Go.RowKit

def cLineWrites : Con
  | [.agg [.a (.i .i64 _), .a (.s _), .a (.i .i64 _), .a (.i .i64 _), .a (.i .i64 _), .row _ ⟨66, .pair (.int .i64) (.int .i64), _, _⟩, .a (.i .i64 _)]] => some ⟨[Lv], .a (.b true), [], []⟩
  | _ => none
section
variable {G : Nat → World → Prop}
set_option maxHeartbeats 4000000 in
set_option maxRecDepth 20000 in
theorem okLineWrites (hS : Hyp G) : ConOK Tryz.prog G 3 cLineWrites := by
  refine seat_con hS.seat [(8, cLive23), (9, cPrint23V), (10, cOwnW), (11, cRPrint23)] [] ⟨okLive23 hS, okPrint23V hS, okOwnW hS, okRPrint23 hS, trivial⟩ Tryz.func3 rfl rfl rfl ?_
  intro rvs cr hcr hpre
  unfold cLineWrites at hcr
  split at hcr
  · rename_i k p sd cl fu id l ow d
    cases hcr
    simp only [List.mem_cons, List.not_mem_nil, or_false, forall_eq_or_imp, forall_eq] at hpre
    refine ⟨⟨rfl, rfl, rfl⟩, fun c hc vs => ?_⟩
    repeat' (first | exact Bool.noConfusion ‹(!true) = true› | exact Bool.noConfusion ‹(!false) = false› | (intro h; exact h) | (intro h; rw [h]; rfl) | (intro h1 h2; rw [h1, h2]; rfl) | (intro _; assumption) | (intro _; exact rfl) | (intro h; exact Bool.noConfusion (h.symm.trans ‹_ = false›)) | refine ⟨fun _ => ?_, fun _ => ?_⟩ | refine ⟨?_⟩ | refine ⟨?_, ?_⟩ | fail)
    · exact hpre
    · exact rfl
    · exact rfl
    all_goals
      have hl : l.length ≤ 60 := by
        have h := ‹(decide ((l.length : Int) > 60) || decide ((p.size : Int) > 200)) = false›
        rw [Bool.or_eq_false_iff, decide_eq_false_iff_not] at h
        omega
    · exact ⟨by omega, trivial, trivial⟩
    · exact ⟨by omega, trivial, trivial⟩
    · refine chk_b ?_
      rw [seq]; rfl
    · exact rfl
  · cases hcr
end
end Go.X

namespace Go.Proofs.YtebdmniefanenaaGreatDoor.laidb
open Go.RowKit

abbrev laidL : List (String × DataW Unit) := Rows.lineWordsRow.laid
theorem own : ownKnob Tryz.prog.godebug = none := by kernel_rfl
theorem gTab : Tryz.prog.globalNamed "math/bits.deBruijn64tab" = some (Tryz.laysT29_ren.g 1) := by kernel_rfl
theorem gTabType : (Tryz.prog.globals[(Tryz.laysT29_ren.g 1)]?).map (·.type) = some 213 := by kernel_rfl
theorem cellsTab : Tryz.prog.cellsOf 213 = 64 := by kernel_rfl
theorem cellsByte : Tryz.prog.cellsOf 5 = 1 := by kernel_rfl
theorem gPowType : (Tryz.prog.globals[3]?).map (·.type) = some 180 := by kernel_rfl
theorem cellsPow : Tryz.prog.cellsOf 180 = 20 := by kernel_rfl
theorem cellsU64 : Tryz.prog.cellsOf 131 = 1 := by kernel_rfl
def tabZ : List Int := [0, 1, 56, 2, 57, 49, 28, 3, 61, 58, 42, 50, 38, 29, 17, 4, 62, 47, 59, 36, 45, 43, 51, 22, 53, 39, 33, 30, 24, 18, 12, 5, 63, 55, 48, 27, 60, 41, 37, 16, 46, 35, 44, 21, 52, 32, 23, 11, 54, 26, 40, 15, 34, 20, 31, 10, 25, 14, 19, 9, 13, 8, 7, 6]
def powZ : List Int := [1, 10, 100, 1000, 10000, 100000, 1000000, 10000000, 100000000, 1000000000, 10000000000, 100000000000, 1000000000000, 10000000000000, 100000000000000, 1000000000000000, 10000000000000000, 100000000000000000, 1000000000000000000, 10000000000000000000]
theorem pow_eq : powZ = Lib.pow10Tab := by decide
theorem et : Tryz.prog.globalNamed "errors.errorType" = some 2 := by kernel_rfl
theorem rt : (Tryz.prog.cutTypes.find? (·.1 == "internal/reflectlite.rtype")).map (·.2) = some 189 := by kernel_rfl
theorem oneRow : ((List.range 245).filter fun t => Tryz.prog.rowNamed t [101, 114, 114, 111, 114]) = [55] := by kernel_rfl
theorem size : Tryz.prog.types.size = 245 := by kernel_rfl
theorem star : "*" ++ "errors.errorString" = "*errors.errorString" := by decide
theorem rowTP (u : TypeId) (h : Tryz.prog.typeName? 3 u = some "*errors.errorString") : u = 185 :=
  typeName_ptr_named (nm := "errors.errorString") (by rw [star]; kernel_rfl) (by kernel_rfl) (by decide) u (by rw [star]; exact h)
theorem s1Type : (Tryz.prog.globals[1]?).map (·.type) = some 55 := by kernel_rfl
theorem s0Type : (Tryz.prog.globals[0]?).map (·.type) = some 55 := by kernel_rfl
theorem cellsTE : Tryz.prog.cellsOf 187 = 1 := by kernel_rfl
theorem cellsSTR : Tryz.prog.cellsOf 9 = 1 := by kernel_rfl
theorem parts {W : World} (h : laidMetH Tryz.prog laidL W) : laidMet Tryz.prog [("math/bits.deBruijn32tab", Rows.laid_math_bits_deBruijn32tab), ("math/bits.deBruijn64tab", Rows.laid_math_bits_deBruijn64tab), ("internal/strconv.uint64pow10", Rows.laid_internal_strconv_uint64pow10), ("unicode/utf8.acceptRanges", Rows.laid_unicode_utf8_acceptRanges), ("strconv.ErrRange", Rows.laid_strconv_ErrRange), ("strconv.ErrSyntax", Rows.laid_strconv_ErrSyntax), ("unicode/utf8.first", Rows.laid_unicode_utf8_first)] W ∧ handlesMet Tryz.prog [("errors.errorType", Rows.laid_errors_errorType)] W := h
theorem table {W : World} (h : laidMetH Tryz.prog laidL W) : TabAt (Tryz.laysT29_ren.g 1) Lib.deBruijn64tab W := by
  have h1 := (parts h).1
  have ht : Lib.TabIs Tryz.prog W "math/bits.deBruijn64tab" .u8 tabZ :=
    Lib.tabIs_of_head (rest := _) gTab gTabType Tryz.underlying213 Tryz.underlying5 cellsByte cellsTab h1.tail
  intro j hj
  have h64 : j < tabZ.length := hj
  rw [ht.cell gTab j h64]
  have key : ∀ j, j < tabZ.length → tabZ.getD j 0 = ((Lib.deBruijn64tab.getD j 0 : Nat) : Int) := by decide
  rw [key j h64]
theorem big {W : World} (h : laidMetH Tryz.prog laidL W) : 9 ≤ W.heap.size := by
  have h1 := table h 0 (by decide)
  have hg : (Tryz.laysT29_ren.g 1) = 8 := by decide +kernel
  rw [hg] at h1
  refine Classical.byContradiction fun hlt => ?_
  have hn : W.heap[8]? = none := Array.getElem?_eq_none (by omega)
  unfold World.cell? at h1
  simp [hn] at h1
theorem mlen {W : World} (hs : W.ShapedOpen Tryz.prog) : ∃ m, W.cell? ⟨4, 0, none⟩ = some (.int .i64 m) :=
  Go.Proofs.cell_of_shapedOpen_int (zero := #[.int .i64 0]) (t := 3) hs (of_decide_eq_true (by kernel_rfl)) (by kernel_rfl) rfl (by kernel_rfl) (by kernel_rfl) Tryz.underlying3
theorem globs {W : World} (h : laidMetH Tryz.prog laidL W) (hs : W.ShapedOpen Tryz.prog) : Go.X.Globs W := by
  obtain ⟨h1, h2⟩ := parts h
  have hp : Lib.TabIs Tryz.prog W "internal/strconv.uint64pow10" .u64 powZ :=
    Lib.tabIs_of_head (rest := _) Go.X.gn_pow gPowType Tryz.underlying180 Tryz.underlying131 cellsU64 cellsPow h1.tail.tail
  obtain ⟨a_rng, t_rng, v_rng, _, _, _⟩ := laid_sentinel (r := _) h1.tail.tail.tail.tail Go.X.gn_rng s1Type Tryz.underlying55 rowTP Tryz.underlying185 Tryz.underlying187 rfl rfl Tryz.underlying9 cellsTE cellsSTR
  obtain ⟨a_syn, t_syn, v_syn, _, _, _⟩ := laid_sentinel (r := _) h1.tail.tail.tail.tail.tail Go.X.gn_syn s0Type Tryz.underlying55 rowTP Tryz.underlying185 Tryz.underlying187 rfl rfl Tryz.underlying9 cellsTE cellsSTR
  obtain ⟨name, u, ty, e1, e2, e3, e4, e5⟩ := h2 _ (List.mem_singleton.2 rfl)
  have en : name = [101, 114, 114, 111, 114] := (Option.some.inj e1).symm
  subst en
  obtain rfl := Option.some.inj (rt.symm.trans e2)
  have hm : ty ∈ (List.range 245).filter fun t => Tryz.prog.rowNamed t [101, 114, 114, 111, 114] := List.mem_filter.2 ⟨List.mem_range.2 (by rw [← size]; exact e3), e4⟩
  rw [oneRow] at hm
  obtain rfl := List.mem_singleton.1 hm
  have hh : typeHandle Tryz.prog 55 = .pointer (some ⟨9, 55, none⟩) := by kernel_rfl
  rw [hh] at e5
  refine ⟨mlen hs, pow_eq ▸ hp, ⟨_, _, v_syn⟩, ⟨_, _, v_rng⟩, ?_⟩
  simpa using World.var?_cell et e5 0
def lay (c : Array Value) : Obj → Obj
  | .cells _ t frozen => .cells c t frozen
  | o => o
noncomputable abbrev N0 : Nat := (World.settled Tryz.prog default).heap.size
noncomputable def laidWorld (os : Os) : World :=
  let N := (World.settled Tryz.prog os).heap.size
  let w0 := World.holding Tryz.prog os ⟨#[.cells #[.string ⟨#[118, 97, 108, 117, 101, 32, 111, 117, 116, 32, 111, 102, 32, 114, 97, 110, 103, 101]⟩] 187, .cells #[.string ⟨#[105, 110, 118, 97, 108, 105, 100, 32, 115, 121, 110, 116, 97, 120]⟩] 187], #[], []⟩
  { w0 with heap := ((((((((w0.heap.modify 7 (lay #[.int .u8 0, .int .u8 1, .int .u8 28, .int .u8 2, .int .u8 29, .int .u8 14, .int .u8 24, .int .u8 3, .int .u8 30, .int .u8 22, .int .u8 20, .int .u8 15, .int .u8 25, .int .u8 17, .int .u8 4, .int .u8 8, .int .u8 31, .int .u8 27, .int .u8 13, .int .u8 23, .int .u8 21, .int .u8 19, .int .u8 16, .int .u8 7, .int .u8 26, .int .u8 12, .int .u8 18, .int .u8 6, .int .u8 11, .int .u8 5, .int .u8 10, .int .u8 9])).modify 8 (lay #[.int .u8 0, .int .u8 1, .int .u8 56, .int .u8 2, .int .u8 57, .int .u8 49, .int .u8 28, .int .u8 3, .int .u8 61, .int .u8 58, .int .u8 42, .int .u8 50, .int .u8 38, .int .u8 29, .int .u8 17, .int .u8 4, .int .u8 62, .int .u8 47, .int .u8 59, .int .u8 36, .int .u8 45, .int .u8 43, .int .u8 51, .int .u8 22, .int .u8 53, .int .u8 39, .int .u8 33, .int .u8 30, .int .u8 24, .int .u8 18, .int .u8 12, .int .u8 5, .int .u8 63, .int .u8 55, .int .u8 48, .int .u8 27, .int .u8 60, .int .u8 41, .int .u8 37, .int .u8 16, .int .u8 46, .int .u8 35, .int .u8 44, .int .u8 21, .int .u8 52, .int .u8 32, .int .u8 23, .int .u8 11, .int .u8 54, .int .u8 26, .int .u8 40, .int .u8 15, .int .u8 34, .int .u8 20, .int .u8 31, .int .u8 10, .int .u8 25, .int .u8 14, .int .u8 19, .int .u8 9, .int .u8 13, .int .u8 8, .int .u8 7, .int .u8 6])).modify 3 (lay #[.int .u64 1, .int .u64 10, .int .u64 100, .int .u64 1000, .int .u64 10000, .int .u64 100000, .int .u64 1000000, .int .u64 10000000, .int .u64 100000000, .int .u64 1000000000, .int .u64 10000000000, .int .u64 100000000000, .int .u64 1000000000000, .int .u64 10000000000000, .int .u64 100000000000000, .int .u64 1000000000000000, .int .u64 10000000000000000, .int .u64 100000000000000000, .int .u64 1000000000000000000, .int .u64 10000000000000000000])).modify 6 (lay #[.int .u8 128, .int .u8 191, .int .u8 160, .int .u8 191, .int .u8 128, .int .u8 159, .int .u8 144, .int .u8 191, .int .u8 128, .int .u8 143, .int .u8 0, .int .u8 0, .int .u8 0, .int .u8 0, .int .u8 0, .int .u8 0, .int .u8 0, .int .u8 0, .int .u8 0, .int .u8 0, .int .u8 0, .int .u8 0, .int .u8 0, .int .u8 0, .int .u8 0, .int .u8 0, .int .u8 0, .int .u8 0, .int .u8 0, .int .u8 0, .int .u8 0, .int .u8 0])).modify 2 (lay #[.iface 189 (.agg #[.pointer (some ⟨9, 55, none⟩)])])).modify 1 (lay #[.iface 185 (.pointer (some ⟨N + 0, 0, none⟩))])).modify 0 (lay #[.iface 185 (.pointer (some ⟨N + 1, 0, none⟩))])).modify 5 (lay (Go.Pinned.utf8FirstZ.map fun (n : Nat) => Value.int .u8 (n : Int)).toArray)) }
theorem laid_in (os : Os) (args : Array Value) : LaidIn Tryz.prog ((laidWorld os).forCall (fun _ _ => 0) ⟨#[], args, []⟩).memory (laidL.filter fun x => x.2.handleName?.isNone) [7, 8, 3, 6, 1, N0 + 0, 0, N0 + 1, 5] :=
  LaidIn.of_run [7, 8, 3, 6, 1, N0 + 0, 0, N0 + 1, 5] 8 (by kernel_rfl) (by kernel_rfl) (by kernel_rfl) (by kernel_rfl)
theorem laid_met (os : Os) (args : Array Value) : laidMetH Tryz.prog laidL ((laidWorld os).forCall (fun _ _ => 0) ⟨#[], args, []⟩).memory :=
  laidMetH_of_parts (laid_in os args).met (by kernel_rfl)
end Go.Proofs.YtebdmniefanenaaGreatDoor.laidb

namespace Go.X
open Go Go.Proofs Go.RowKit

abbrev PK : EK := .pair (.int .i64) (.int .i64)
structure Rd (w : World) (a : Option Addr) (cap : Nat) (l : List (Int × Int)) : Prop where
  le : l.length ≤ cap
  nil : a = none → cap = 0
  cell : ∀ j v, (valsOf PK l)[j]? = some v → ∃ b, a = some b ∧ w.cell? (b.add j) = some v
theorem pk_get {l : List (Int × Int)} {j : Nat} {v : Value} (h : (valsOf PK l)[j]? = some v) : ∃ i, i < l.length ∧ ((j = i * 2 ∧ v = .int .i64 (l.getD i (0, 0)).1) ∨ (j = i * 2 + 1 ∧ v = .int .i64 (l.getD i (0, 0)).2)) := by
  have hlen := valsOf_length PK l
  have hj : j < (valsOf PK l).length := (List.getElem?_eq_some_iff.1 h).1
  have hs : PK.size = 2 := rfl
  rw [hlen, hs] at hj
  have hi : j / 2 < l.length := by omega
  have hg := valsOf_get PK l (j / 2) (j % 2) (by rw [hs]; omega)
  rw [hs, show j / 2 * 2 + j % 2 = j by omega, h, List.getElem?_eq_getElem hi] at hg
  have hd : l.getD (j / 2) (0, 0) = l[j / 2] := by rw [List.getD_eq_getElem?_getD, List.getElem?_eq_getElem hi]; rfl
  refine ⟨j / 2, hi, ?_⟩
  rw [hd]
  obtain h0 | h1 : j % 2 = 0 ∨ j % 2 = 1 := by omega
  · left
    rw [h0] at hg
    exact ⟨by omega, by simpa [EK.vals] using hg⟩
  · right
    rw [h1] at hg
    exact ⟨by omega, by simpa [EK.vals] using hg⟩
section
variable {H : Type} {enc : TypeId × Value → H} {W : World}
theorem open_moves {sp : Nat → Bool} {held : Bool} {fuel : Nat} {cs : List Value} {x : DataW H × List MemPlace} (h : DataW.trod enc Tryz.prog W 0 sp held fuel 24 cs = some x) : ∃ a cap l, cs = [.slice a (l : List (Int × Int)).length cap] ∧ Rd W a cap l := by
  rcases Go.Deep.open_slice_pairs Tryz.underlying24 Tryz.underlying66 (by kernel_rfl) rfl rfl (by kernel_rfl) (by kernel_rfl) h with ⟨rfl, _⟩ | ⟨a, len, cap, m, n, V0, V1, D0, D1, P0, P1, rfl, hb, hl, _, hm, _, hx⟩
  · exact ⟨none, 0, [], rfl, Nat.le_refl _, fun _ => rfl, fun j v h => by simp [valsOf] at h⟩
  · have hlm : len ≤ m := by rw [hm]; split <;> omega
    have hi : ∀ i, i < len → (∃ n0, V0 i = .int .i64 n0) ∧ ∃ n1, V1 i = .int .i64 n1 := fun i hi => by
      obtain ⟨_, _, h3, h4⟩ := hx i (by omega)
      obtain ⟨n0, e0, _⟩ := DataW.trod_int Tryz.underlying3 h3
      obtain ⟨n1, e1, _⟩ := DataW.trod_int Tryz.underlying3 h4
      exact ⟨⟨n0, by simpa using e0⟩, ⟨n1, by simpa using e1⟩⟩
    let g : Value → Int := fun v => match v with | .int _ n => n | _ => 0
    have hg0 : ∀ i, i < len → V0 i = .int .i64 (g (V0 i)) ∧ V1 i = .int .i64 (g (V1 i)) := fun i h => by
      obtain ⟨⟨n0, e0⟩, n1, e1⟩ := hi i h
      rw [e0, e1]; exact ⟨rfl, rfl⟩
    refine ⟨some a, cap, (List.range len).map fun i => (g (V0 i), g (V1 i)), by rw [List.length_map, List.length_range], by rw [List.length_map, List.length_range]; exact hl, (fun h => by cases h), fun j v hj => ⟨a, rfl, ?_⟩⟩
    obtain ⟨i, hil, hc⟩ := pk_get hj
    rw [List.length_map, List.length_range] at hil
    have hd : ((List.range len).map fun i => (g (V0 i), g (V1 i))).getD i (0, 0) = (g (V0 i), g (V1 i)) := by
      rw [List.getD_eq_getElem?_getD, List.getElem?_map, List.getElem?_range hil]; rfl
    rw [hd] at hc
    obtain ⟨c0, c1, _, _⟩ := hx i (by omega)
    obtain ⟨e0, e1⟩ := hg0 i hil
    rcases hc with ⟨rfl, rfl⟩ | ⟨rfl, rfl⟩
    · rw [c0, ← e0]
    · rw [c1, ← e1]
set_option maxRecDepth 100000 in
theorem open_cmd {r : Reach} {b0 : Nat} {sp : Nat → Bool} {held : Bool} {v : Value} {d : DataW H} {p : List MemPlace} (hv : Value.okWide Tryz.prog W r b0 26 v) (h : DataW.Trod enc Tryz.prog W 0 sp held 26 v d p) :
    ∃ (k sd cl fu dd : Int) (s : ByteArray) (a : Option Addr) (cap : Nat) (l : List (Int × Int)), v = .agg #[.int .i64 k, .string s, .int .i64 sd, .int .i64 cl, .int .i64 fu, .slice a l.length cap, .int .i64 dd] ∧ Rd W a cap l := by
  obtain ⟨cs, rfl, hsz⟩ := Go.WideShapes.okWide_struct Tryz.underlying26 hv
  have hsz7 : cs.size = 7 := hsz.trans (by kernel_rfl)
  obtain ⟨l, rfl⟩ : ∃ l : List Value, cs = l.toArray := ⟨cs.toList, by simp⟩
  match l, (show l.length = 7 by simpa using hsz7) with
  | [c0, c1, c2, c3, c4, c5, c6], _ =>
    obtain ⟨fuel, hf⟩ := h
    obtain ⟨y0, y1, y2, y3, n, _, _, h0, h1, h2, h3⟩ := Go.Joins.trod_struct4 Tryz.underlying26 hf
    have z3 : Tryz.prog.cellsOf 3 = 1 := by kernel_rfl
    have z23 : Tryz.prog.cellsOf 23 = 4 := by kernel_rfl
    have z24 : Tryz.prog.cellsOf 24 = 1 := by kernel_rfl
    have z9 : Tryz.prog.cellsOf 9 = 1 := by kernel_rfl
    have g0 : DataW.trod enc Tryz.prog W 0 sp held n 3 [c0] = some y0 := by simpa [Value.cells, z3] using h0
    have g1 : DataW.trod enc Tryz.prog W 0 sp held n 23 [c1, c2, c3, c4] = some y1 := by simpa [Value.cells, z23] using h1
    have g2 : DataW.trod enc Tryz.prog W 0 sp held n 24 [c5] = some y2 := by simpa [Value.cells, z24] using h2
    have g3 : DataW.trod enc Tryz.prog W 0 sp held n 3 [c6] = some y3 := by simpa [Value.cells, z3] using h3
    obtain ⟨k, e0, _⟩ := DataW.trod_int Tryz.underlying3 g0
    obtain ⟨dd, e6, _⟩ := DataW.trod_int Tryz.underlying3 g3
    obtain ⟨q0, q1, q2, q3, n', _, _, p0, p1, p2, p3⟩ := Go.Joins.trod_struct4 Tryz.underlying23 g1
    have k0 : DataW.trod enc Tryz.prog W 0 sp held n' 9 [c1] = some q0 := by simpa [z9] using p0
    have k1 : DataW.trod enc Tryz.prog W 0 sp held n' 3 [c2] = some q1 := by simpa [z3] using p1
    have k2 : DataW.trod enc Tryz.prog W 0 sp held n' 3 [c3] = some q2 := by simpa [z3] using p2
    have k3 : DataW.trod enc Tryz.prog W 0 sp held n' 3 [c4] = some q3 := by simpa [z3] using p3
    obtain ⟨s, e1, _⟩ := DataW.trod_string Tryz.underlying9 k0
    obtain ⟨sd, e2, _⟩ := DataW.trod_int Tryz.underlying3 k1
    obtain ⟨cl, e3, _⟩ := DataW.trod_int Tryz.underlying3 k2
    obtain ⟨fu, e4, _⟩ := DataW.trod_int Tryz.underlying3 k3
    obtain ⟨a, cap, l, e5, hr⟩ := open_moves g2
    simp only [List.cons.injEq, and_true] at e0 e1 e2 e3 e4 e5 e6
    subst e0 e1 e2 e3 e4 e5 e6
    exact ⟨k, sd, cl, fu, dd, s, a, cap, l, rfl, hr⟩
end
def st1 (l : List (Int × Int)) : St := ⟨[], [], [some ⟨66, PK, l, false⟩], [], []⟩
def e1 (v : Value) : Env := ⟨fun _ => 0, fun _ => v, fun _ => False, [], 0⟩
theorem top1_ok {g0 : Nat} {w : World} (h : g0 ≤ w.heap.size) {a : Option Addr} {cap : Nat} {l : List (Int × Int)} (hr : Rd w a cap l) (hb : ∀ b, a = some b → l ≠ [] → b.block < w.heap.size) : HeapOK (topCtx g0 w h) (e1 (.slice a l.length cap)) (st1 l) w := by
  refine ⟨⟨rfl, rfl, rfl, Nat.le_refl _, fun _ _ _ => rfl⟩, fun i b hi => by simp [st1, getK] at hi, fun i r hi => ?_, fun i j g hi => by simp [blkB, st1, getK] at hi, fun i j g hi => ?_, fun i j g hi => by simp [blkB, st1, getK] at hi,
    fun k h => h, fun D hD => by simp [e1] at hD, fun D hD => by simp [e1] at hD, fun k h => h.elim, rfl, by simp [e1], rfl⟩
  · cases i with
    | zero =>
      have hi : some (⟨66, PK, l, false⟩ : Row) = some r := hi
      cases hi
      refine ⟨(by decide : 0 < PK.size), a, cap, rfl, hr.le, hr.nil, fun j v hj => ?_⟩
      obtain ⟨b, rfl, hc⟩ := hr.cell j v hj
      refine ⟨b, rfl, ⟨hb b rfl (fun e => ?_), fun h => h, fun h => h⟩, hc⟩
      subst e
      simp [valsOf] at hj
    | succ i => simp [st1, getK] at hi
  · cases i with
    | zero => simp [blkR, st1, getK] at hi
    | succ i => simp [blkR, st1, getK] at hi
theorem rd_block {w : World} {a : Option Addr} {cap : Nat} {l : List (Int × Int)} (hr : Rd w a cap l) : ∀ b, a = some b → l ≠ [] → b.block < w.heap.size := by
  intro b hb hl
  subst hb
  obtain ⟨x, m, rfl⟩ : ∃ x m, l = x :: m := by cases l with | nil => exact absurd rfl hl | cons x m => exact ⟨x, m, rfl⟩
  obtain ⟨b', e, hc⟩ := hr.cell 0 (.int .i64 x.1) (by simp [valsOf, EK.vals])
  cases e
  have e0 : b.add 0 = b := rfl
  rw [e0] at hc
  unfold World.cell? at hc
  cases hg : w.heap[b.block]? with
  | none => rw [hg] at hc; cases hc
  | some o => exact (Array.getElem?_eq_some_iff.1 hg).1
theorem law_callsC {f : FuncId} {con : Con} {w : World} {k sd cl fu d : Int} {s : ByteArray} {a : Option Addr} {cap : Nat} {l : List (Int × Int)} {pre : List Prop} (hC : ConOK Tryz.prog GG f con) (hs : 9 ≤ w.heap.size) (hT : TabAt (Tryz.laysT29_ren.g 1) Lib.deBruijn64tab w) (hg : Globs w) (hr : Rd w a cap l)
    (hcr : con [.agg [.a (.i .i64 k), .a (.s s), .a (.i .i64 sd), .a (.i .i64 cl), .a (.i .i64 fu), .row 0 ⟨66, PK, l, false⟩, .a (.i .i64 d)]] = some ⟨pre, .a (.b true), [], []⟩) (hpre : ∀ p ∈ pre, p) :
    Calls Tryz.prog f #[.agg #[.int .i64 k, .string s, .int .i64 sd, .int .i64 cl, .int .i64 fu, .slice a l.length cap, .int .i64 d]] w fun en w' => en = .returned (.bool true) ∧ Below w.heap.size w w' := by
  have hh := top1_ok (g0 := 9) hs hr (rd_block hr)
  have hm := (hC (topCtx 9 w hs) (e1 (.slice a l.length cap)) (st1 l) w [.agg [.i .i64 k, .s s, .i .i64 sd, .i .i64 cl, .i .i64 fu, .row 0, .i .i64 d]] _ _ [.agg #[.int .i64 k, .string s, .int .i64 sd, .int .i64 cl, .int .i64 fu, .slice a l.length cap, .int .i64 d]] 0 1 ⟨Nat.le_refl _, hT, hg⟩ hh rfl
    ⟨_, _, rfl, ⟨[_, _, _, _, _, _, _], rfl, _, _, rfl, rfl, _, _, rfl, rfl, _, _, rfl, rfl, _, _, rfl, rfl, _, _, rfl, rfl, _, _, rfl, ⟨⟨_, rfl⟩, rfl⟩, _, _, rfl, rfl, rfl⟩, rfl⟩ hcr hpre (fun j _ _ => by simp [st1, getK]) (fun j h1 _ => by cases j with | zero => omega | succ j => simp [st1, getK])).2
  refine hm.mono ?_
  rintro en w' ⟨v, e', rfl, h1, _, h2⟩
  refine ⟨?_, top_below h1.frame⟩
  simp only [RT.inst, R] at h2
  rw [h2]
section
variable {H : Type} {enc : TypeId × Value → H} {P : Program} {w w' : World}
theorem trodAll_below (hb : Below w.heap.size w w') {base : Nat} {sp : Nat → Bool} {held : Bool} : ∀ {ts : List TypeId} {vs : List Value} {ds : List (DataW H)} {ps : List MemPlace}, (∀ p ∈ ps, p.block < w.heap.size) → DataW.TrodAll enc P w base sp held ts vs ds ps → DataW.TrodAll enc P w' base sp held ts vs ds ps
  | [], [], [], _, _, h => h
  | _ :: _, _ :: _, _ :: _, _, hp, ⟨p, q, ⟨n, h1⟩, h2, e⟩ => by
    subst e
    exact ⟨p, q, ⟨n, DataW.trod_carry n _ _ _ h1 fun x hx => Below.same hb (hp x (List.mem_append_left _ hx))⟩, trodAll_below hb (fun x hx => hp x (List.mem_append_right _ hx)) h2, rfl⟩
end
theorem kidsC : Kids Tryz.prog (· < Tryz.prog.types.size) := kids_rows (by kernel_rfl) (by kernel_rfl)
theorem fullC : ∀ t e, t < Tryz.prog.types.size → Tryz.prog.underlying t = some (.slice e) → 0 < Tryz.prog.cellsOf e := slices_full_of Tryz.prog (by kernel_rfl)
end Go.X

namespace Go.Proofs.YtebdmniefanenaaGreatDoor.fnLineWrites
open Go.ChangeShapes Go.WideShapes Go.ChangeAt Go.RowKit
open Go.ChangeMaps (open_string shut_string)
open Go.Joins (open_agg2)

open laidb (own)
set_option maxRecDepth 100000 in
theorem contract (H : Type) (enc : TypeId × Value → H) (W : World) (base : Nat) (args : Array Value) (ds gs : List (DataW H)) (before : List MemPlace)
    (hval : ∀ (j : Nat) t v, Tryz.f3.params[j]? = some t → args[j]? = some v → Value.okWide Tryz.prog W .any base t v)
    (hW : DataW.Whole enc Tryz.prog Tryz.f3.params.toList Rows.lineWritesSpec.vars false W args.toList ds gs before) (hL : laidMetH Tryz.prog Rows.lineWritesRow.laid W) (hSh : W.ShapedOpen Tryz.prog) :
    Calls Tryz.prog 3 args W fun e W' => ∃ v, e = .returned v ∧ Rows.lineWritesSpec.post enc Tryz.prog Tryz.f3 false true false false W args v W' := by
  have hW' := hW
  obtain ⟨p, q, hA0, hV, rfl, hfz, hnd⟩ := hW
  have hA : DataW.TrodAll enc Tryz.prog W 0 (fun _ => true) true Tryz.f3.params.toList args.toList ds p := hA0
  rw [Tryz.params3] at hA hval
  obtain ⟨v0, vs0, d0, ds0, p0, q0, hargs, rfl, rfl, h0, r0⟩ := trodAll_cons hA
  obtain ⟨rfl, rfl, rfl⟩ := trodAll_nil r0
  obtain rfl : args = #[v0] := by cases args; simp_all
  obtain ⟨rfl, rfl⟩ := trodVars_none hV
  obtain ⟨k, sd, cl, fu, dd, s, a, cap, l, rfl, hr⟩ := Go.X.open_cmd (hval 0 26 v0 rfl rfl) h0
  refine (Go.X.law_callsC (Go.X.okLineWrites Go.X.hyp) (laidb.big hL) (laidb.table hL) (laidb.globs hL hSh) hr rfl (fun _ hp => by rcases List.mem_singleton.1 hp with rfl; exact Go.X.lv)).mono fun e W' ⟨he, bel⟩ => ?_
  subst he
  have hlt := hW'.lt
  exact ⟨_, rfl, _, _, _, [], _, [], hW', trodAll_mk1 (shut_bool Tryz.underlying4 _), DataW.TrodAll.respare Go.X.kidsC Go.X.fullC (by rw [Tryz.params3]; intro t ht; obtain rfl := List.mem_singleton.1 (by simpa using ht); exact of_decide_eq_true (by kernel_rfl)) (Go.X.trodAll_below bel (fun x hx => hlt x (List.mem_append_left _ hx)) hA0) (fun x hx => decide_eq_true (hlt x (List.mem_append_left _ hx))), rfl, bel.frame _, fun h => by cases h⟩
theorem reads (os : Os) {H : Type} (enc : TypeId × Value → H) : ∃ places, DataW.whole enc Tryz.prog ((laidb.laidWorld os).forCall (fun _ _ => 0) ⟨#[], #[.agg #[.int .i64 0, .string ByteArray.empty, .int .i64 0, .int .i64 0, .int .i64 0, .slice none 0 0, .int .i64 0]], []⟩).memory Tryz.f3.params.toList Rows.lineWritesSpec.vars false (#[.agg #[.int .i64 0, .string ByteArray.empty, .int .i64 0, .int .i64 0, .int .i64 0, .slice none 0 0, .int .i64 0]] : Array Value).toList 8 = some ([.agg [.lit (.int .i64 0), .agg [.lit (.string []), .lit (.int .i64 0), .lit (.int .i64 0), .lit (.int .i64 0)], .nil, .lit (.int .i64 0)]], [], places) :=
  ⟨[], by kernel_rfl⟩
set_option maxRecDepth 100000 in
theorem lifted (os : Os) (started : os.Started) (H : Type) (enc : TypeId × Value → H) (F : Stop.Interp) :
    ReturnsInHanded {} Tryz.checked os 3 .any ((OpenSpec.ofChange Rows.lineWritesSpec).preRow enc Tryz.prog Tryz.f3 Rows.lineWritesRow.domain false Rows.lineWritesRow.laid) (((OpenSpec.ofChange Rows.lineWritesSpec).at F).post enc Tryz.prog Tryz.f3 false true false false) := by
  obtain ⟨places, hx⟩ := reads os enc
  refine returnsInHanded_of_row (C := Tryz.checked) (s := OpenSpec.ofChange Rows.lineWritesSpec) own started (by kernel_rfl) Tryz.func3
    (witness_row_atRef (enc := enc) (C := Tryz.checked) false (laidb.laidWorld os) #[.agg #[.int .i64 0, .string ByteArray.empty, .int .i64 0, .int .i64 0, .int .i64 0, .slice none 0 0, .int .i64 0]] rfl (by kernel_rfl) (by kernel_rfl) (by kernel_rfl)
      (OpenSpec.preRow_of_cond 8 hx (by kernel_rfl) (fun k hk => by cases hk) (by kernel_rfl) (laidb.laid_met os _))) ?_
  intro W base args ds gs before hval hW _ hcond _ hL hSh _
  exact contract H enc W base args ds gs before hval hW hL hSh
theorem said : Rows.LineWritesSaid :=
  OpenClaim.holds_of_cond 3 Tryz.f3 rfl rfl rfl rfl rfl rfl rfl ⟨rfl, rfl, rfl, rfl, rfl⟩ rfl rfl rfl rfl rfl (by kernel_rfl) Tryz.func3 (by kernel_rfl)
    (of_decide_eq_true (by kernel_rfl)) (by unfold Func.isWrapper; first | (rw [if_pos (by decide +kernel)]; kernel_rfl) | (rw [if_neg (by decide +kernel)]; exact ⟨rfl, rfl⟩))
    (fun os started H enc _ F => by rw [OpenClaim.pre_eq_preRow]; exact lifted os started H enc F)
theorem plain (f : FuncId) (fn : Func) (hf : Tryz.pinned.checked.prog.funcNamed "riverbank/riverbanklaw23.LineWrites" = some f) (hfn : Tryz.pinned.checked.prog.funcs[f]? = some fn) :
    true = Tryz.pinned.checked.prog.looks [] ∧ ∀ (j : Nat) t, fn.params[j]? = some t → Tryz.pinned.checked.prog.wantsStandIn t = false := by
  obtain rfl : f = 3 := Option.some.inj ((show Tryz.prog.funcNamed "riverbank/riverbanklaw23.LineWrites" = some 3 by kernel_rfl).symm.trans hf) |>.symm
  obtain rfl : fn = Tryz.f3 := (Option.some.inj (Tryz.func3.symm.trans hfn)).symm
  refine ⟨by kernel_rfl, fun j t ht => ?_⟩
  rw [Tryz.params3] at ht
  have hm : t ∈ (#[26] : Array TypeId) := Array.mem_of_getElem? ht
  simp only [List.mem_toArray, List.mem_cons, List.not_mem_nil, or_false] at hm
  subst hm
  exact (show Tryz.prog.wantsStandIn 26 = false by kernel_rfl)
theorem card : Rows.LineWritesCardSaid :=
  Claim7.holds_tied_plain_at .later [] _ _ _ _ said (fun _ h => by cases h) (by kernel_rfl) (fun _ h => by cases h) lineWrites_row_tie rfl ⟨rfl, rfl⟩ (by kernel_rfl) rfl plain (by kernel_rfl)
end Go.Proofs.YtebdmniefanenaaGreatDoor.fnLineWrites
namespace Go.Proofs.YtebdmniefanenaaGreatDoor
theorem lineWrites_card : Rows.LineWritesCardSaid := fnLineWrites.card
end Go.Proofs.YtebdmniefanenaaGreatDoor
