/-
  The law FenSides holds: it returns true, whatever the input; the input reads as it did. Conditions: none of this proof's own.
-/
import Derived.Test.YtfjbjjeekhcboaaGreatDoorA5
import Derived.Test.YtfjbjjeekhcboaaGreatDoorCards
import Derived.Test.YtfjbjjeekhcboaaGreatDoorTie
import Derived.WalkKit
import Derived.ProofKit
import Derived.LaidHandle
import Derived.Stop.LaidErr
import Derived.Lib.LaidIn
import Derived.Lib.LaidTab
import Derived.Deep.DeepHandedRow
import Derived.Deep.DeepWitnessRowRef
import Derived.OpenShut
import Derived.ShutString
import Derived.Below
import Derived.SevenTiedAt
import Derived.Lib.SmallJoins

set_option linter.unusedSimpArgs false
set_option linter.unusedVariables false

namespace Go.X
open Go Go.Proofs

noncomputable def cCutV : Con
  | [.a (.s s), .a (.i .u8 c)] => some ⟨[CZ4 s], .row ⟨9, .str, veil (pieces c s), true⟩, [], []⟩
  | _ => none
theorem cutV : cCutV = cCut4 := by
  funext l; unfold cCutV cCut4; split <;> simp only [veil_eq]
def cFenRanks : Con
  | [.agg [.a (.s _), .a (.i .i64 _), .a (.i .i64 _), .a (.i .i64 _)]] => some ⟨[Lv], .a (.b true), [], []⟩
  | _ => none
section
variable {G : Nat → World → Prop}
theorem okCutV (hS : Hyp G) : ConOK Tryz.prog G 16 cCutV := by rw [cutV]; exact okCut4 hS
set_option maxHeartbeats 4000000 in
set_option maxRecDepth 20000 in
theorem okFenRanks (hS : Hyp G) : ConOK Tryz.prog G 8 cFenRanks := by
  refine seat_con hS.seat [(10, cLive04), (13, cPrintV), (16, cCutV)] [] ⟨okLive04 hS, okPrintV hS, okCutV hS, trivial⟩ Tryz.func8 rfl rfl rfl ?_
  intro rvs cr hcr hpre
  unfold cFenRanks at hcr
  split at hcr
  · rename_i p side clock full
    cases hcr
    simp only [List.mem_cons, List.not_mem_nil, or_false, forall_eq_or_imp, forall_eq] at hpre
    refine ⟨⟨rfl, rfl, rfl⟩, fun c hc vs => ?_⟩
    repeat' (first | exact Bool.noConfusion ‹(!true) = true› | exact Bool.noConfusion ‹(!false) = false› | (intro h; exact h) | (intro h; rw [h]; rfl) | (intro h1 h2; rw [h1, h2]; rfl) | (intro _; assumption) | (intro _; exact rfl) | (intro h; exact Bool.noConfusion (h.symm.trans ‹_ = false›)) | refine ⟨fun _ => ?_, fun _ => ?_⟩ | refine ⟨?_⟩ | refine ⟨?_, ?_⟩ | fail)
    all_goals first | exact hpre | exact trivial | exact rfl | skip
    all_goals
      have hne := ‹((veil (printP (p, side, clock, full))).2 != 0) = false›
      rw [veil_eq, print_snd] at hne
      have hk : ck (p, side, clock, full) = 0 := bneF hne
      have hpr : (veil (printP (p, side, clock, full))).1 = prB (p, side, clock, full) := by rw [veil_eq, print_fst_ok hk]
      obtain ⟨L, hL⟩ : ∃ L, veil (pieces 32 (veil (printP (p, side, clock, full))).1) = L := ⟨_, rfl⟩
      have hLp : L = pieces 32 (prB (p, side, clock, full)) := by rw [← hL, veil_eq, hpr]
      have hL6 : L.length = 6 := by rw [hLp]; exact pr_six hk
      have hL0 : L.getD 0 ByteArray.empty = bdB (p, side, clock, full) := by rw [hLp]; exact pr_first hk
      have hbz := bd_size hk
      have hcnt := bd_cnt hk
      have hten := bd_ten hk
    · have := prB_size hk
      rw [hpr]; exact ⟨by omega, trivial, trivial⟩
    · have h6 := ‹(Int.ofNat (veil (pieces 32 (veil (printP (p, side, clock, full))).1)).length != 6) = true›
      rw [hL, hL6] at h6; exact absurd h6 (by decide)
    · rw [hL]
      obtain ⟨B, hB⟩ : ∃ B, bdB (p, side, clock, full) = B := ⟨_, rfl⟩
      rw [hB] at hL0 hbz hcnt hten
      have hbl : (bytesL B).length = B.size := bL_len B
      refine Tr_loopH (α := Nat × Int) (fun x => [(6, .i .i64 x.2), (7, .i .i64 (.ofNat x.1))]) (fun _ => []) (fun _ => []) (fun x => x.1 ≤ B.size ∧ ((bytesL B).take x.1).foldl cntStep 0 = x.2 ∧ 0 ≤ x.2 ∧ x.2 ≤ 256 * x.1) (fun x => B.size - x.1) (0, 0) ⟨Nat.zero_le _, rfl, by decide, by decide⟩ (by (refine ⟨?_, rfl, ?_, ?_, ?_, rfl⟩ <;> repeat' (first | exact trivial | (refine ⟨rfl, ?_⟩) | fail))) ?_
      rintro ⟨i, n⟩ ⟨hi, hq, hn0, hn1⟩
      dsimp only at hi hq hn0 hn1
      have hL0' : L.getD (Int.toNat 0) EK.str.dflt = B := hL0
      obtain ⟨b, hbd⟩ : ∃ b, byteAt B (Int.ofNat i).toNat = b := ⟨_, rfl⟩
      have hb0 : (bytesL B).getD i 0 = b := by rw [bL_at]; exact hbd
      have hby : 0 ≤ b ∧ b < 256 := by have := BY.at B (Int.ofNat i).toNat; rw [hbd] at this; exact ⟨this.lo, this.hi⟩
      have hnx : i < B.size → ((bytesL B).take (i + 1)).foldl cntStep 0 = cntStep n b := fun h => by rw [cnt_next (by omega), hq, hb0]
      have hLl : (0 : Int) < (L.length : Int) := by omega
      refine vs.go rfl ?_
      repeat' (first | exact Bool.noConfusion ‹(!true) = true› | exact Bool.noConfusion ‹(!false) = false› | (intro h; exact h) | (intro h; rw [h]; rfl) | (intro h1 h2; rw [h1, h2]; rfl) | (intro _; assumption) | (intro _; exact rfl) | (intro h; exact Bool.noConfusion (h.symm.trans ‹_ = false›)) | refine ⟨fun _ => ?_, fun _ => ?_⟩ | refine ⟨?_⟩ | refine ⟨?_, ?_⟩ | fail)
      all_goals first | exact trivial | (refine (?_ : (_ : Int) ≠ _); decide) | exact rfl | skip
      all_goals try dsimp only at *
      all_goals try simp only [hL0'] at *
      all_goals try simp only [hbd] at *
      all_goals first | exact hpre | exact trivial | exact rfl | exact hLl | exact (fun _ => ⟨Int.le_refl _, hLl⟩) | exact ⟨by omega, trivial, trivial⟩ | skip
      · exact Int.ofNat_lt.2 (ltN ‹decide (Int.ofNat i < _) = true›)
      · have hlt : i < B.size := ltN ‹decide (Int.ofNat i < _) = true›
        have hc := beqT ‹(b == 47) = true›
        have e : cntStep n b = n := by unfold cntStep; rw [if_pos hc]
        have hn2 := hnx hlt
        rw [e] at hn2
        refine Again.mk (i + 1, n) ⟨hlt, hn2, hn0, by show n ≤ 256 * ((i + 1 : Nat) : Int); omega⟩ (by show B.size - (i + 1) < B.size - i; omega) ?_
        rw [wrapN (by omega)]
        (refine ⟨?_, rfl, ?_, ?_, ?_, rfl⟩ <;> repeat' (first | exact trivial | (refine ⟨rfl, ?_⟩) | fail))
      · have hlt : i < B.size := ltN ‹decide (Int.ofNat i < _) = true›
        have hc := beqF ‹(b == 47) = false›
        have hd := ‹(decide (b ≥ 49) && decide (b ≤ 57)) = true›
        simp only [Bool.and_eq_true, decide_eq_true_eq] at hd
        have e : cntStep n b = n + (b - 48) := by unfold cntStep; rw [if_neg hc, if_pos ⟨hd.1, hd.2⟩]
        have hn2 := hnx hlt
        rw [e] at hn2
        refine Again.mk (i + 1, n + (b - 48)) ⟨hlt, hn2, by show (0 : Int) ≤ n + (b - 48); omega, by show n + (b - 48) ≤ 256 * ((i + 1 : Nat) : Int); omega⟩ (by show B.size - (i + 1) < B.size - i; omega) ?_
        rw [wrapB (by omega) (by omega), wrap64 (x := b - 48) (by omega) (by omega), wrap64 (x := n + (b - 48)) (by omega) (by omega), wrapN (by omega)]
        (refine ⟨?_, rfl, ?_, ?_, ?_, rfl⟩ <;> repeat' (first | exact trivial | (refine ⟨rfl, ?_⟩) | fail))
      · have hlt : i < B.size := ltN ‹decide (Int.ofNat i < _) = true›
        have hc := beqF ‹(b == 47) = false›
        have hd := ‹(decide (b ≥ 49) && decide (b ≤ 57)) = false›
        simp only [Bool.and_eq_false_iff, decide_eq_false_iff_not] at hd
        have e : cntStep n b = n + 1 := by unfold cntStep; rw [if_neg hc, if_neg (by omega)]
        have hn2 := hnx hlt
        rw [e] at hn2
        refine Again.mk (i + 1, n + 1) ⟨hlt, hn2, by show (0 : Int) ≤ n + 1; omega, by show n + 1 ≤ 256 * ((i + 1 : Nat) : Int); omega⟩ (by show B.size - (i + 1) < B.size - i; omega) ?_
        rw [wrap64 (x := n + 1) (by omega) (by omega), wrapN (by omega)]
        (refine ⟨?_, rfl, ?_, ?_, ?_, rfl⟩ <;> repeat' (first | exact trivial | (refine ⟨rfl, ?_⟩) | fail))
      all_goals
        have hge := geN ‹decide (Int.ofNat i < _) = false›
        have hil : i = (bytesL B).length := by omega
        rw [hil, List.take_length, hcnt] at hq
      · refine chk_b ?_
        rw [veil_eq, hten, ← hq]; rfl
      · have h90 := ‹(n == 90) = false›
        rw [← hq] at h90; exact absurd h90 (by decide)
  · cases hcr
end
end Go.X

namespace Go.X
open Go Go.Proofs
structure SZ (s : ByteArray) : Prop where
  le : s.size ≤ 1048576
  u : True
  v : True
def cFenSides : Con
  | [.a (.s s)] => some ⟨[Lv, SZ s], .a (.b true), [], []⟩
  | _ => none
theorem turned_small {s : ByteArray} {sd : Int} (hs : s.size ≤ 500) (i : Nat) : (bytesOf (joinI 32 ((turned s sd).take i))).size ≤ 300000 := by
  rw [size_bytesOf]
  have h1 := joinI_len 32 500 (L := (turned s sd).take i) fun x hx => by
    have hx := List.mem_of_mem_take hx
    unfold turned at hx
    rcases List.mem_or_eq_of_mem_set hx with h | rfl
    · have := cut_short 32 _ x h; rw [bL_len] at this; omega
    · show 1 ≤ 500; decide
  have h2 : ((turned s sd).take i).length ≤ 501 := by
    rw [List.length_take]
    have h3 := cutAt_len 32 (bytesL s)
    have h4 : (turned s sd).length = (cutAt 32 (bytesL s)).length := by unfold turned; rw [List.length_set]
    rw [bL_len] at h3
    omega
  have h5 : (500 + 1) * ((turned s sd).take i).length ≤ 501 * 501 := Nat.mul_le_mul_left _ h2
  omega
section
variable {G : Nat → World → Prop}
set_option maxHeartbeats 4000000 in
set_option maxRecDepth 20000 in
theorem okFenSides (hS : Hyp G) : ConOK Tryz.prog G 7 cFenSides := by
  refine seat_con hS.seat [(10, cLive04), (11, cParseV), (16, cCutV)] [] ⟨okLive04 hS, okParseV hS, okCutV hS, trivial⟩ Tryz.func7 rfl rfl rfl ?_
  intro rvs cr hcr hpre
  unfold cFenSides at hcr
  split at hcr
  · rename_i s
    cases hcr
    simp only [List.mem_cons, List.not_mem_nil, or_false, forall_eq_or_imp, forall_eq] at hpre
    refine ⟨⟨rfl, rfl, rfl⟩, fun c hc vs => ?_⟩
    have hlv := hpre.1
    have hsz := hpre.2.le
    repeat' (first | exact Bool.noConfusion ‹(!true) = true› | exact Bool.noConfusion ‹(!false) = false› | (intro h; exact h) | (intro h; rw [h]; rfl) | (intro h1 h2; rw [h1, h2]; rfl) | (intro _; assumption) | (intro _; exact rfl) | (intro h; exact Bool.noConfusion (h.symm.trans ‹_ = false›)) | refine ⟨fun _ => ?_, fun _ => ?_⟩ | refine ⟨?_⟩ | refine ⟨?_, ?_⟩ | fail)
    all_goals first | exact hlv | exact trivial | exact rfl | exact ⟨by omega, trivial, trivial⟩ | skip
    all_goals
      have hc := ‹(decide ((s.size : Int) > 500) || (veil (parseP s)).2 != 0 || decide (Int.ofNat (veil (pieces 32 s)).length < 2)) = false›
      simp only [Bool.or_eq_false_iff, decide_eq_false_iff_not, bne_eq_false_iff_eq] at hc
      obtain ⟨⟨hz', he⟩, hl2'⟩ := hc
      have hz : s.size ≤ 500 := by omega
      obtain ⟨L, hL⟩ : ∃ L, veil (pieces 32 s) = L := ⟨_, rfl⟩
      have hLp : L = pieces 32 s := by rw [← hL, veil_eq]
      have hl2 : 2 ≤ L.length := by rw [hL] at hl2'; have h : ¬ ((L.length : Int) < 2) := hl2'; omega
      have hLn : L.length ≤ 501 := by
        rw [hLp, pieces_length]
        have := cutAt_len 32 (bytesL s)
        rw [bL_len] at this
        omega
      obtain ⟨⟨a, b, cl, f⟩, hpos⟩ : ∃ x, pos4 s = x := ⟨_, rfl⟩
      have hps := parse_same (s := s) (by omega)
      have he4 : err4 s = 0 := by rw [veil_eq, hps] at he; exact he
      have hp : veil (parseP s) = ((a, b, cl, f), 0) := by rw [veil_eq, hps, hpos, he4]
      have htr := turn_read hz he4
      rw [hpos] at htr
      dsimp only at htr
      obtain ⟨htr, hb01⟩ := htr
      have h0s : (L.getD 0 ByteArray.empty).size ≤ 4000000 := by rw [hLp]; exact fld_tz (by omega) 0
    · rw [hL]; show (0 : Int) < (L.length : Int); omega
    · rw [hL]; show (L.getD 0 ByteArray.empty).size + 2 ≤ _; omega
    · rw [hL]; show (0 : Int) < (L.length : Int); omega
    · rw [hL]; show (L.getD 0 ByteArray.empty).size + 2 ≤ _; omega
    · rw [hL, hp]
      have hb1 := (by have h := ‹((veil (parseP s)).1.2.1 == 1) = true›; rw [hp] at h; exact beqT h : b = 1)
      have hsx : sdX b = 119 := by unfold sdX; rw [hb1]; first | rfl | decide
      have h2t := turned_two (s := s) (sd := b) (by rw [← hLp]; exact hl2)
      rw [hsx, ← hLp] at h2t
      refine Tr_loopH (α := Nat) (fun i => [(6, .s (bytesOf (joinI 32 ((turned s b).take i)))), (7, .i .i64 (.ofNat i))]) (fun _ => []) (fun _ => []) (fun i => 2 ≤ i ∧ i ≤ L.length) (fun i => L.length - i) 2 ⟨Nat.le_refl _, hl2⟩ (by rw [h2t]; (refine ⟨?_, rfl, ?_, ?_, ?_, rfl⟩ <;> repeat' (first | exact trivial | (refine ⟨rfl, ?_⟩) | fail))) ?_
      rintro i ⟨hi2, hi⟩
      have hts := turned_small (s := s) (sd := b) hz i
      obtain ⟨X, hX⟩ : ∃ X, bytesOf (joinI 32 ((turned s b).take i)) = X := ⟨_, rfl⟩
      rw [hX] at hts
      rw [hX]
      refine vs.go rfl ?_
      repeat' (first | exact Bool.noConfusion ‹(!true) = true› | exact Bool.noConfusion ‹(!false) = false› | (intro h; exact h) | (intro h; rw [h]; rfl) | (intro h1 h2; rw [h1, h2]; rfl) | (intro _; assumption) | (intro _; exact rfl) | (intro h; exact Bool.noConfusion (h.symm.trans ‹_ = false›)) | refine ⟨fun _ => ?_, fun _ => ?_⟩ | refine ⟨?_⟩ | refine ⟨?_, ?_⟩ | fail)
      all_goals first | exact trivial | (refine (?_ : (_ : Int) ≠ _); decide) | exact rfl | skip
      all_goals try dsimp only at *
      all_goals first | exact hlv | exact trivial | exact rfl | skip
      · show X.size + 1 ≤ _; omega
      · exact Int.ofNat_lt.2 (Int.ofNat_lt.1 (of_decide_eq_true ‹decide (Int.ofNat i < _) = true›))
      · have hls : (L.getD i ByteArray.empty).size ≤ 4000000 := by rw [hLp]; exact fld_tz (by omega) i
        show (X ++ ⟨#[32]⟩).size + (L.getD i ByteArray.empty).size ≤ _
        rw [ByteArray.size_append]
        show X.size + 1 + _ ≤ _
        omega
      · have hlt : i < L.length := Int.ofNat_lt.1 (of_decide_eq_true ‹decide (Int.ofNat i < _) = true›)
        have hn := turned_next (s := s) (sd := b) hi2 (by rw [← hLp]; exact hlt)
        rw [hX, ← hLp] at hn
        refine Again.mk (i + 1) ⟨by omega, hlt⟩ (by omega) ?_
        rw [hn, wrapN (by omega)]
        (refine ⟨?_, rfl, ?_, ?_, ?_, rfl⟩ <;> repeat' (first | exact trivial | (refine ⟨rfl, ?_⟩) | fail))
      all_goals
        have hge : ¬ i < L.length := fun h => of_decide_eq_false ‹decide (Int.ofNat i < _) = false› (Int.ofNat_lt.2 h)
        have hXt : X = turnT s b := by rw [← hX]; exact turned_done (by rw [← hLp]; omega)
      · exact ⟨by omega, trivial, trivial⟩
      · refine chk_b ?_
        rw [hXt]
        simp only [veil_eq, htr]
        rw [wrap64 (by omega) (by omega), (strEq_iff _ _).2 rfl]
        simp
    · rw [hL, hp]
      have hb1 := (by have h := ‹((veil (parseP s)).1.2.1 == 1) = false›; rw [hp] at h; exact (hb01.resolve_right (beqF h)) : b = 0)
      have hsx : sdX b = 98 := by unfold sdX; rw [hb1]; first | rfl | decide
      have h2t := turned_two (s := s) (sd := b) (by rw [← hLp]; exact hl2)
      rw [hsx, ← hLp] at h2t
      refine Tr_loopH (α := Nat) (fun i => [(6, .s (bytesOf (joinI 32 ((turned s b).take i)))), (7, .i .i64 (.ofNat i))]) (fun _ => []) (fun _ => []) (fun i => 2 ≤ i ∧ i ≤ L.length) (fun i => L.length - i) 2 ⟨Nat.le_refl _, hl2⟩ (by rw [h2t]; (refine ⟨?_, rfl, ?_, ?_, ?_, rfl⟩ <;> repeat' (first | exact trivial | (refine ⟨rfl, ?_⟩) | fail))) ?_
      rintro i ⟨hi2, hi⟩
      have hts := turned_small (s := s) (sd := b) hz i
      obtain ⟨X, hX⟩ : ∃ X, bytesOf (joinI 32 ((turned s b).take i)) = X := ⟨_, rfl⟩
      rw [hX] at hts
      rw [hX]
      refine vs.go rfl ?_
      repeat' (first | exact Bool.noConfusion ‹(!true) = true› | exact Bool.noConfusion ‹(!false) = false› | (intro h; exact h) | (intro h; rw [h]; rfl) | (intro h1 h2; rw [h1, h2]; rfl) | (intro _; assumption) | (intro _; exact rfl) | (intro h; exact Bool.noConfusion (h.symm.trans ‹_ = false›)) | refine ⟨fun _ => ?_, fun _ => ?_⟩ | refine ⟨?_⟩ | refine ⟨?_, ?_⟩ | fail)
      all_goals first | exact trivial | (refine (?_ : (_ : Int) ≠ _); decide) | exact rfl | skip
      all_goals try dsimp only at *
      all_goals first | exact hlv | exact trivial | exact rfl | skip
      · show X.size + 1 ≤ _; omega
      · exact Int.ofNat_lt.2 (Int.ofNat_lt.1 (of_decide_eq_true ‹decide (Int.ofNat i < _) = true›))
      · have hls : (L.getD i ByteArray.empty).size ≤ 4000000 := by rw [hLp]; exact fld_tz (by omega) i
        show (X ++ ⟨#[32]⟩).size + (L.getD i ByteArray.empty).size ≤ _
        rw [ByteArray.size_append]
        show X.size + 1 + _ ≤ _
        omega
      · have hlt : i < L.length := Int.ofNat_lt.1 (of_decide_eq_true ‹decide (Int.ofNat i < _) = true›)
        have hn := turned_next (s := s) (sd := b) hi2 (by rw [← hLp]; exact hlt)
        rw [hX, ← hLp] at hn
        refine Again.mk (i + 1) ⟨by omega, hlt⟩ (by omega) ?_
        rw [hn, wrapN (by omega)]
        (refine ⟨?_, rfl, ?_, ?_, ?_, rfl⟩ <;> repeat' (first | exact trivial | (refine ⟨rfl, ?_⟩) | fail))
      all_goals
        have hge : ¬ i < L.length := fun h => of_decide_eq_false ‹decide (Int.ofNat i < _) = false› (Int.ofNat_lt.2 h)
        have hXt : X = turnT s b := by rw [← hX]; exact turned_done (by rw [← hLp]; omega)
      · exact ⟨by omega, trivial, trivial⟩
      · refine chk_b ?_
        rw [hXt]
        simp only [veil_eq, htr]
        rw [wrap64 (by omega) (by omega), (strEq_iff _ _).2 rfl]
        simp
  · cases hcr
end
end Go.X

namespace Go.Proofs.YtfjbjjeekhcboaaGreatDoor.laidb
open Go.RowKit

abbrev laidL : List (String × DataW Unit) := Rows.fenReadsRow.laid
theorem own : ownKnob Tryz.prog.godebug = none := by kernel_rfl
theorem gTab : Tryz.prog.globalNamed "math/bits.deBruijn64tab" = some (Tryz.laysT29_ren.g 1) := by kernel_rfl
theorem gTabType : (Tryz.prog.globals[(Tryz.laysT29_ren.g 1)]?).map (·.type) = some 168 := by kernel_rfl
theorem cellsTab : Tryz.prog.cellsOf 168 = 64 := by kernel_rfl
theorem cellsByte : Tryz.prog.cellsOf 5 = 1 := by kernel_rfl
theorem gPowType : (Tryz.prog.globals[2]?).map (·.type) = some 146 := by kernel_rfl
theorem cellsPow : Tryz.prog.cellsOf 146 = 20 := by kernel_rfl
theorem cellsU64 : Tryz.prog.cellsOf 125 = 1 := by kernel_rfl
def tabZ : List Int := [0, 1, 56, 2, 57, 49, 28, 3, 61, 58, 42, 50, 38, 29, 17, 4, 62, 47, 59, 36, 45, 43, 51, 22, 53, 39, 33, 30, 24, 18, 12, 5, 63, 55, 48, 27, 60, 41, 37, 16, 46, 35, 44, 21, 52, 32, 23, 11, 54, 26, 40, 15, 34, 20, 31, 10, 25, 14, 19, 9, 13, 8, 7, 6]
def powZ : List Int := [1, 10, 100, 1000, 10000, 100000, 1000000, 10000000, 100000000, 1000000000, 10000000000, 100000000000, 1000000000000, 10000000000000, 100000000000000, 1000000000000000, 10000000000000000, 100000000000000000, 1000000000000000000, 10000000000000000000]
theorem pow_eq : powZ = Lib.pow10Tab := by decide
theorem et : Tryz.prog.globalNamed "errors.errorType" = some 0 := by kernel_rfl
theorem rt : (Tryz.prog.cutTypes.find? (·.1 == "internal/reflectlite.rtype")).map (·.2) = some 95 := by kernel_rfl
theorem oneRow : ((List.range 195).filter fun t => Tryz.prog.rowNamed t [101, 114, 114, 111, 114]) = [37] := by kernel_rfl
theorem size : Tryz.prog.types.size = 195 := by kernel_rfl
theorem star : "*" ++ "errors.errorString" = "*errors.errorString" := by decide
theorem rowTP (u : TypeId) (h : Tryz.prog.typeName? 3 u = some "*errors.errorString") : u = 164 :=
  typeName_ptr_named (nm := "errors.errorString") (by rw [star]; kernel_rfl) (by kernel_rfl) (by decide) u (by rw [star]; exact h)
theorem s4Type : (Tryz.prog.globals[4]?).map (·.type) = some 37 := by kernel_rfl
theorem s3Type : (Tryz.prog.globals[3]?).map (·.type) = some 37 := by kernel_rfl
theorem cellsTE : Tryz.prog.cellsOf 166 = 1 := by kernel_rfl
theorem cellsSTR : Tryz.prog.cellsOf 9 = 1 := by kernel_rfl
theorem parts {W : World} (h : laidMetH Tryz.prog laidL W) : laidMet Tryz.prog [("math/bits.deBruijn32tab", Rows.laid_math_bits_deBruijn32tab), ("math/bits.deBruijn64tab", Rows.laid_math_bits_deBruijn64tab), ("internal/strconv.uint64pow10", Rows.laid_internal_strconv_uint64pow10), ("unicode/utf8.acceptRanges", Rows.laid_unicode_utf8_acceptRanges), ("strconv.ErrRange", Rows.laid_strconv_ErrRange), ("strconv.ErrSyntax", Rows.laid_strconv_ErrSyntax), ("unicode/utf8.first", Rows.laid_unicode_utf8_first)] W ∧ handlesMet Tryz.prog [("errors.errorType", Rows.laid_errors_errorType)] W := h
theorem table {W : World} (h : laidMetH Tryz.prog laidL W) : TabAt (Tryz.laysT29_ren.g 1) Lib.deBruijn64tab W := by
  have h1 := (parts h).1
  have ht : Lib.TabIs Tryz.prog W "math/bits.deBruijn64tab" .u8 tabZ :=
    Lib.tabIs_of_head (rest := _) gTab gTabType Tryz.underlying168 Tryz.underlying5 cellsByte cellsTab h1.tail
  intro j hj
  have h64 : j < tabZ.length := hj
  rw [ht.cell gTab j h64]
  have key : ∀ j, j < tabZ.length → tabZ.getD j 0 = ((Lib.deBruijn64tab.getD j 0 : Nat) : Int) := by decide
  rw [key j h64]
theorem big {W : World} (h : laidMetH Tryz.prog laidL W) : 9 ≤ W.heap.size := by
  have h1 := table h 0 (by decide)
  have hg : (Tryz.laysT29_ren.g 1) = 8 := by decide +kernel
  rw [hg] at h1
  refine Classical.byContradiction fun hlt => ?_
  have hn : W.heap[8]? = none := Array.getElem?_eq_none (by omega)
  unfold World.cell? at h1
  simp [hn] at h1
theorem mlen {W : World} (hs : W.ShapedOpen Tryz.prog) : ∃ m, W.cell? ⟨1, 0, none⟩ = some (.int .i64 m) :=
  Go.Proofs.cell_of_shapedOpen_int (zero := #[.int .i64 0]) (t := 3) hs (of_decide_eq_true (by kernel_rfl)) (by kernel_rfl) rfl (by kernel_rfl) (by kernel_rfl) Tryz.underlying3
theorem globs {W : World} (h : laidMetH Tryz.prog laidL W) (hs : W.ShapedOpen Tryz.prog) : Go.X.Globs W := by
  obtain ⟨h1, h2⟩ := parts h
  have hp : Lib.TabIs Tryz.prog W "internal/strconv.uint64pow10" .u64 powZ :=
    Lib.tabIs_of_head (rest := _) Go.X.gn_pow gPowType Tryz.underlying146 Tryz.underlying125 cellsU64 cellsPow h1.tail.tail
  obtain ⟨a_rng, t_rng, v_rng, _, _, _⟩ := laid_sentinel (r := _) h1.tail.tail.tail.tail Go.X.gn_rng s4Type Tryz.underlying37 rowTP Tryz.underlying164 Tryz.underlying166 rfl rfl Tryz.underlying9 cellsTE cellsSTR
  obtain ⟨a_syn, t_syn, v_syn, _, _, _⟩ := laid_sentinel (r := _) h1.tail.tail.tail.tail.tail Go.X.gn_syn s3Type Tryz.underlying37 rowTP Tryz.underlying164 Tryz.underlying166 rfl rfl Tryz.underlying9 cellsTE cellsSTR
  obtain ⟨name, u, ty, e1, e2, e3, e4, e5⟩ := h2 _ (List.mem_singleton.2 rfl)
  have en : name = [101, 114, 114, 111, 114] := (Option.some.inj e1).symm
  subst en
  obtain rfl := Option.some.inj (rt.symm.trans e2)
  have hm : ty ∈ (List.range 195).filter fun t => Tryz.prog.rowNamed t [101, 114, 114, 111, 114] := List.mem_filter.2 ⟨List.mem_range.2 (by rw [← size]; exact e3), e4⟩
  rw [oneRow] at hm
  obtain rfl := List.mem_singleton.1 hm
  have hh : typeHandle Tryz.prog 37 = .pointer (some ⟨9, 37, none⟩) := by kernel_rfl
  rw [hh] at e5
  refine ⟨mlen hs, pow_eq ▸ hp, ⟨_, _, v_syn⟩, ⟨_, _, v_rng⟩, ?_⟩
  simpa using World.var?_cell et e5 0
def lay (c : Array Value) : Obj → Obj
  | .cells _ t frozen => .cells c t frozen
  | o => o
noncomputable abbrev N0 : Nat := (World.settled Tryz.prog default).heap.size
noncomputable def laidWorld (os : Os) : World :=
  let N := (World.settled Tryz.prog os).heap.size
  let w0 := World.holding Tryz.prog os ⟨#[.cells #[.string ⟨#[118, 97, 108, 117, 101, 32, 111, 117, 116, 32, 111, 102, 32, 114, 97, 110, 103, 101]⟩] 166, .cells #[.string ⟨#[105, 110, 118, 97, 108, 105, 100, 32, 115, 121, 110, 116, 97, 120]⟩] 166], #[], []⟩
  { w0 with heap := ((((((((w0.heap.modify 7 (lay #[.int .u8 0, .int .u8 1, .int .u8 28, .int .u8 2, .int .u8 29, .int .u8 14, .int .u8 24, .int .u8 3, .int .u8 30, .int .u8 22, .int .u8 20, .int .u8 15, .int .u8 25, .int .u8 17, .int .u8 4, .int .u8 8, .int .u8 31, .int .u8 27, .int .u8 13, .int .u8 23, .int .u8 21, .int .u8 19, .int .u8 16, .int .u8 7, .int .u8 26, .int .u8 12, .int .u8 18, .int .u8 6, .int .u8 11, .int .u8 5, .int .u8 10, .int .u8 9])).modify 8 (lay #[.int .u8 0, .int .u8 1, .int .u8 56, .int .u8 2, .int .u8 57, .int .u8 49, .int .u8 28, .int .u8 3, .int .u8 61, .int .u8 58, .int .u8 42, .int .u8 50, .int .u8 38, .int .u8 29, .int .u8 17, .int .u8 4, .int .u8 62, .int .u8 47, .int .u8 59, .int .u8 36, .int .u8 45, .int .u8 43, .int .u8 51, .int .u8 22, .int .u8 53, .int .u8 39, .int .u8 33, .int .u8 30, .int .u8 24, .int .u8 18, .int .u8 12, .int .u8 5, .int .u8 63, .int .u8 55, .int .u8 48, .int .u8 27, .int .u8 60, .int .u8 41, .int .u8 37, .int .u8 16, .int .u8 46, .int .u8 35, .int .u8 44, .int .u8 21, .int .u8 52, .int .u8 32, .int .u8 23, .int .u8 11, .int .u8 54, .int .u8 26, .int .u8 40, .int .u8 15, .int .u8 34, .int .u8 20, .int .u8 31, .int .u8 10, .int .u8 25, .int .u8 14, .int .u8 19, .int .u8 9, .int .u8 13, .int .u8 8, .int .u8 7, .int .u8 6])).modify 2 (lay #[.int .u64 1, .int .u64 10, .int .u64 100, .int .u64 1000, .int .u64 10000, .int .u64 100000, .int .u64 1000000, .int .u64 10000000, .int .u64 100000000, .int .u64 1000000000, .int .u64 10000000000, .int .u64 100000000000, .int .u64 1000000000000, .int .u64 10000000000000, .int .u64 100000000000000, .int .u64 1000000000000000, .int .u64 10000000000000000, .int .u64 100000000000000000, .int .u64 1000000000000000000, .int .u64 10000000000000000000])).modify 6 (lay #[.int .u8 128, .int .u8 191, .int .u8 160, .int .u8 191, .int .u8 128, .int .u8 159, .int .u8 144, .int .u8 191, .int .u8 128, .int .u8 143, .int .u8 0, .int .u8 0, .int .u8 0, .int .u8 0, .int .u8 0, .int .u8 0, .int .u8 0, .int .u8 0, .int .u8 0, .int .u8 0, .int .u8 0, .int .u8 0, .int .u8 0, .int .u8 0, .int .u8 0, .int .u8 0, .int .u8 0, .int .u8 0, .int .u8 0, .int .u8 0, .int .u8 0, .int .u8 0])).modify 0 (lay #[.iface 95 (.agg #[.pointer (some ⟨9, 37, none⟩)])])).modify 4 (lay #[.iface 164 (.pointer (some ⟨N + 0, 0, none⟩))])).modify 3 (lay #[.iface 164 (.pointer (some ⟨N + 1, 0, none⟩))])).modify 5 (lay (Go.Pinned.utf8FirstZ.map fun (n : Nat) => Value.int .u8 (n : Int)).toArray)) }
theorem laid_in (os : Os) (args : Array Value) : LaidIn Tryz.prog ((laidWorld os).forCall (fun _ _ => 0) ⟨#[], args, []⟩).memory (laidL.filter fun x => x.2.handleName?.isNone) [7, 8, 2, 6, 4, N0 + 0, 3, N0 + 1, 5] :=
  LaidIn.of_run [7, 8, 2, 6, 4, N0 + 0, 3, N0 + 1, 5] 8 (by kernel_rfl) (by kernel_rfl) (by kernel_rfl) (by kernel_rfl)
theorem laid_met (os : Os) (args : Array Value) : laidMetH Tryz.prog laidL ((laidWorld os).forCall (fun _ _ => 0) ⟨#[], args, []⟩).memory :=
  laidMetH_of_parts (laid_in os args).met (by kernel_rfl)
end Go.Proofs.YtfjbjjeekhcboaaGreatDoor.laidb

namespace Go.Proofs.YtfjbjjeekhcboaaGreatDoor.fnFenSides
open Go.ChangeShapes Go.WideShapes Go.ChangeAt Go.RowKit
open Go.ChangeMaps (open_string shut_string)
open Go.Joins (open_agg2)

open laidb (own)
set_option maxRecDepth 100000 in
theorem contract (H : Type) (enc : TypeId × Value → H) (W : World) (base : Nat) (args : Array Value) (ds gs : List (DataW H)) (before : List MemPlace)
    (hval : ∀ (j : Nat) t v, Tryz.f7.params[j]? = some t → args[j]? = some v → Value.okWide Tryz.prog W .any base t v)
    (hW : DataW.Whole enc Tryz.prog Tryz.f7.params.toList Rows.fenSidesSpec.vars false W args.toList ds gs before) (hL : laidMetH Tryz.prog Rows.fenSidesRow.laid W) (hSh : W.ShapedOpen Tryz.prog) (hk : Rows.uptoSmall H (ds ++ gs) = true) :
    Calls Tryz.prog 7 args W fun e W' => ∃ v, e = .returned v ∧ Rows.fenSidesSpec.post enc Tryz.prog Tryz.f7 false true false false W args v W' := by
  have hW' := hW
  obtain ⟨p, q, hA0, hV, rfl, hfz, hnd⟩ := hW
  have hA : DataW.TrodAll enc Tryz.prog W 0 (fun _ => true) true Tryz.f7.params.toList args.toList ds p := hA0
  rw [Tryz.params7] at hA hval
  obtain ⟨v0, vs0, d0, ds0, p0, q0, hargs, rfl, rfl, h0, r0⟩ := trodAll_cons hA
  obtain ⟨rfl, rfl, rfl⟩ := trodAll_nil r0
  obtain rfl : args = #[v0] := by cases args; simp_all
  obtain ⟨rfl, rfl⟩ := trodVars_none hV
  obtain ⟨a0, rfl, rfl, rfl, y0⟩ := open_string Tryz.underlying9 (hval 0 9 v0 rfl rfl) h0
  clear hA0
  have hb := of_decide_eq_true hk
  simp only [Rows.uptoBulkAll, Rows.uptoBulk, List.cons_append, List.nil_append] at hb
  have hz : a0.size ≤ 1048576 := by have e : a0.data.toList.length = a0.size := rfl; omega
  refine (Go.X.law_calls (avs := [.s a0]) (vals := [.string a0]) (Go.X.okFenSides Go.X.hyp) (laidb.big hL) (laidb.table hL) (laidb.globs hL hSh) rfl ?_ rfl (fun _ hp => by rcases List.mem_cons.1 hp with rfl | hp; exact Go.X.lv; rcases List.mem_singleton.1 hp with rfl; exact ⟨hz, trivial, trivial⟩)).mono fun e W' ⟨he, bel⟩ => ?_
  · exact ⟨_, _, rfl, rfl, rfl⟩
  subst he
  exact ⟨_, rfl, _, _, _, [], _, [], hW', trodAll_mk1 (shut_bool Tryz.underlying4 _), (trodAll_cons_mk (shut_string Tryz.underlying9 y0) trodAll_mk0), rfl, bel.frame _, fun h => by cases h⟩
theorem reads (os : Os) {H : Type} (enc : TypeId × Value → H) : ∃ places, DataW.whole enc Tryz.prog ((laidb.laidWorld os).forCall (fun _ _ => 0) ⟨#[], #[.string ByteArray.empty], []⟩).memory Tryz.f7.params.toList Rows.fenSidesSpec.vars false (#[.string ByteArray.empty] : Array Value).toList 8 = some ([.lit (.string [])], [], places) :=
  ⟨[], by kernel_rfl⟩
set_option maxRecDepth 100000 in
theorem lifted (os : Os) (started : os.Started) (H : Type) (enc : TypeId × Value → H) (F : Stop.Interp) :
    ReturnsInHanded {} Tryz.checked os 7 .any ((Rows.OpenSpec.upto Rows.fenSidesSpec).preRow enc Tryz.prog Tryz.f7 Rows.fenSidesUptoRow.domain false Rows.fenSidesUptoRow.laid) (((Rows.OpenSpec.upto Rows.fenSidesSpec).at F).post enc Tryz.prog Tryz.f7 false true false false) := by
  obtain ⟨places, hx⟩ := reads os enc
  refine returnsInHanded_of_row (C := Tryz.checked) (s := Rows.OpenSpec.upto Rows.fenSidesSpec) own started (by kernel_rfl) Tryz.func7
    (witness_row_atRef (enc := enc) (C := Tryz.checked) false (laidb.laidWorld os) #[.string ByteArray.empty] rfl (by kernel_rfl) (by kernel_rfl) (by kernel_rfl)
      (OpenSpec.preRow_of_cond 8 hx (by kernel_rfl) (fun k hk => by cases hk; kernel_rfl) (by kernel_rfl) (laidb.laid_met os _))) ?_
  intro W base args ds gs before hval hW _ hcond _ hL hSh _
  exact contract H enc W base args ds gs before hval hW hL hSh (hcond _ rfl)
theorem said : Rows.FenSidesUptoSaid :=
  OpenClaim.holds_of_cond 7 Tryz.f7 rfl rfl rfl rfl rfl rfl rfl ⟨rfl, rfl, rfl, rfl, rfl⟩ rfl rfl rfl rfl rfl (by kernel_rfl) Tryz.func7 (by kernel_rfl)
    (of_decide_eq_true (by kernel_rfl)) (by unfold Func.isWrapper; first | (rw [if_pos (by decide +kernel)]; kernel_rfl) | (rw [if_neg (by decide +kernel)]; exact ⟨rfl, rfl⟩))
    (fun os started H enc _ F => by rw [OpenClaim.pre_eq_preRow]; exact lifted os started H enc F)
theorem plain (f : FuncId) (fn : Func) (hf : Tryz.pinned.checked.prog.funcNamed "riverbank/riverbanklaw04.FenSides" = some f) (hfn : Tryz.pinned.checked.prog.funcs[f]? = some fn) :
    true = Tryz.pinned.checked.prog.looks [] ∧ ∀ (j : Nat) t, fn.params[j]? = some t → Tryz.pinned.checked.prog.wantsStandIn t = false := by
  obtain rfl : f = 7 := Option.some.inj ((show Tryz.prog.funcNamed "riverbank/riverbanklaw04.FenSides" = some 7 by kernel_rfl).symm.trans hf) |>.symm
  obtain rfl : fn = Tryz.f7 := (Option.some.inj (Tryz.func7.symm.trans hfn)).symm
  refine ⟨by kernel_rfl, fun j t ht => ?_⟩
  rw [Tryz.params7] at ht
  have hm : t ∈ (#[9] : Array TypeId) := Array.mem_of_getElem? ht
  simp only [List.mem_toArray, List.mem_cons, List.not_mem_nil, or_false] at hm
  subst hm
  exact (show Tryz.prog.wantsStandIn 9 = false by kernel_rfl)
theorem card : Rows.FenSidesUptoCardSaid :=
  Claim7.holds_tied_plain_at .later [] _ _ _ _ said (fun _ h => by cases h) (by kernel_rfl) (fun _ h => by cases h) fenSidesUpto_row_tie rfl ⟨rfl, rfl⟩ (by kernel_rfl) rfl plain (by kernel_rfl)
end Go.Proofs.YtfjbjjeekhcboaaGreatDoor.fnFenSides
namespace Go.Proofs.YtfjbjjeekhcboaaGreatDoor
theorem fenSidesUpto_card : Rows.FenSidesUptoCardSaid := fnFenSides.card
end Go.Proofs.YtfjbjjeekhcboaaGreatDoor
