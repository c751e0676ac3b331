/-
  Parts of the proof.
-/
import Derived.Test.YtemafoaeoakbbaaGreatDoorA3

set_option linter.unusedSimpArgs false
set_option linter.unusedVariables false

namespace Go.X
open Go Go.Proofs

def cR6Of : Con
  | [.a (.s p), .a (.i .i64 side)] => some ⟨[S90 p], .row ⟨23, .pair (.int .i64) (.int .i64), dMovesOf (bytesL p) side, true⟩, [], []⟩
  | _ => none
def cR6Moved : Con
  | [.a (.s p), .agg [.a (.i .i64 fr), .a (.i .i64 to)]] => some ⟨[IB p, Sq fr, Sq to], .a (.s (spMoved p fr to)), [], []⟩
  | _ => none
def cR8Safe : Con
  | [.a (.s p), .a (.i .i64 side)] => some ⟨[], .a (.b (!spFacing p && !spIn p side)), [], []⟩
  | _ => none
def cR8Of : Con
  | [.a (.s p), .a (.i .i64 side)] => some ⟨[IB p], .row ⟨23, .pair (.int .i64) (.int .i64), rOf p side, true⟩, [], []⟩
  | _ => none
def cR8Moves : Con
  | [.agg [.a (.s p), .a (.i .i64 side), .a (.i .i64 clock), .a (.i .i64 full)]] => some ⟨[], .row ⟨23, .pair (.int .i64) (.int .i64), rMoves p side clock full, true⟩, [], []⟩
  | _ => none
section
variable {G : Nat → World → Prop}
set_option maxHeartbeats 4000000 in
set_option maxRecDepth 20000 in
theorem okR6Of (hS : Hyp G) : ConOK Tryz.prog G 48 cR6Of := by
  refine seat_con hS.seat [(23, cRSide), (32, cR5Fast)] [] ⟨okRSide hS, okR5Fast hS, trivial⟩ Tryz.func48 rfl rfl rfl ?_
  intro rvs cr hcr hpre
  unfold cR6Of at hcr
  split at hcr
  · rename_i p side
    cases hcr
    simp only [List.mem_cons, List.not_mem_nil, or_false, forall_eq_or_imp, forall_eq] at hpre
    have h90 := hpre.is
    refine ⟨⟨rfl, rfl, rfl⟩, fun c hc vs => ?_⟩
    repeat' (first | exact Bool.noConfusion ‹(!true) = true› | exact Bool.noConfusion ‹(!false) = false› | (intro h; exact h) | (intro h; rw [h]; rfl) | (intro h1 h2; rw [h1, h2]; rfl) | (intro _; assumption) | (intro _; exact rfl) | (intro h; exact Bool.noConfusion (h.symm.trans ‹_ = false›)) | refine ⟨fun _ => ?_, fun _ => ?_⟩ | refine ⟨?_⟩ | refine ⟨?_, ?_⟩ | fail)
    all_goals first | exact rfl | skip
    refine Tr_nilTmp 23 (.pair (.int .i64) (.int .i64)) 5 rfl (by decide) ?_
    refine Tr_loopH (α := Nat) (fun i => [(5, .row 0), (6, .i .i64 (.ofNat i))]) (fun _ => []) (fun i => [(0, some ⟨23, .pair (.int .i64) (.int .i64), upTo (fun k => dStep (bytesL p) side (Int.ofNat k)) i, true⟩)]) (fun i => i ≤ 90) (fun i => 90 - i) 0 (Nat.zero_le _) (by (refine ⟨?_, rfl, ?_, ?_, ?_, rfl⟩ <;> repeat' (first | exact trivial | (refine ⟨rfl, ?_⟩) | fail))) ?_
    intro i hi
    have hl := upTo_len (f := fun k => dStep (bytesL p) side (Int.ofNat k)) (b := 90) (fun i => step_len _ _ _) i
    refine vs.go rfl ?_
    repeat' (first | exact Bool.noConfusion ‹(!true) = true› | exact Bool.noConfusion ‹(!false) = false› | (intro h; exact h) | (intro h; rw [h]; rfl) | (intro h1 h2; rw [h1, h2]; rfl) | (intro _; assumption) | (intro _; exact rfl) | (intro h; exact Bool.noConfusion (h.symm.trans ‹_ = false›)) | refine ⟨fun _ => ?_, fun _ => ?_⟩ | refine ⟨?_⟩ | refine ⟨?_, ?_⟩ | fail)
    all_goals first | exact trivial | (refine (?_ : (_ : Int) ≠ _); decide) | exact rfl | skip
    all_goals try dsimp only at *
    all_goals first | exact BY.at _ _ | (rename_i h; have h := lt90 h; show (i : Int) < (p.size : Int); omega) | skip
    · rename_i h1 h2
      have := lt90 h1
      refine Again.mk (i + 1) (by omega) (by omega) ?_
      rw [upTo_next, show dStep (bytesL p) side (Int.ofNat i) = [] by rw [dStep, bAt_bytes, if_neg (by simpa using bneT h2)], List.append_nil, wrapN (by omega)]
      (refine ⟨?_, rfl, ?_, ?_, ?_, rfl⟩ <;> repeat' (first | exact trivial | (refine ⟨rfl, ?_⟩) | fail))
    · rename_i h1 h2
      have hi90 := lt90 h1
      refine Tr_loopH (α := Nat) (fun j => [(5, .row 0), (7, .i .i64 (.ofNat j))]) (fun _ => []) (fun j => [(0, some ⟨23, .pair (.int .i64) (.int .i64), upTo (fun k => dStep (bytesL p) side (Int.ofNat k)) i ++ upTo (fun k => if dFast (bytesL p) (Int.ofNat i) (Int.ofNat k) = true then [(Int.ofNat i, Int.ofNat k)] else []) j, true⟩)]) (fun j => j ≤ 90) (fun j => 90 - j) 0 (Nat.zero_le _) (by ((refine ⟨?_, rfl, ?_, ?_, ?_, rfl⟩ <;> repeat' (first | exact trivial | (refine ⟨rfl, ?_⟩) | (refine ⟨?_, ?_⟩) | fail)); all_goals first | rfl | (simp (config := { failIfUnchanged := false }) only [upTo]; done) | (simp [upTo]; done) | (simp_all [upTo]; done) | skip)) ?_
      intro j hj
      have hl2 := upTo_len1 (c := fun k => dFast (bytesL p) (Int.ofNat i) (Int.ofNat k)) (g := fun k => (Int.ofNat i, Int.ofNat k)) j
      have hl3 : (upTo (fun k => dStep (bytesL p) side (Int.ofNat k)) i ++ upTo (fun k => if dFast (bytesL p) (Int.ofNat i) (Int.ofNat k) = true then [(Int.ofNat i, Int.ofNat k)] else []) j).length ≤ 9000 := by rw [List.length_append]; omega
      refine vs.go rfl ?_
      repeat' (first | exact Bool.noConfusion ‹(!true) = true› | exact Bool.noConfusion ‹(!false) = false› | (intro h; exact h) | (intro h; rw [h]; rfl) | (intro h1 h2; rw [h1, h2]; rfl) | (intro _; assumption) | (intro _; exact rfl) | (intro h; exact Bool.noConfusion (h.symm.trans ‹_ = false›)) | refine ⟨fun _ => ?_, fun _ => ?_⟩ | refine ⟨?_⟩ | refine ⟨?_, ?_⟩ | fail)
      all_goals first | exact trivial | (refine (?_ : (_ : Int) ≠ _); decide) | exact rfl | skip
      all_goals try dsimp only at *
      all_goals first | exact hpre | exact ⟨by simp, by simp; omega, trivial⟩ | (rename_i h; have h := lt90 h; exact ⟨by simp, by simp; omega, trivial⟩) | (show _ + 1 ≤ 4000000000; omega) | (show (_ + 1) * 16 ≤ 140737488355328; omega) | skip
      · rename_i h3 h4
        have := lt90 h3
        refine Again.mk (j + 1) (by omega) (by omega) ?_
        rw [next_t h4, wrapN (by omega), ← List.append_assoc]
        (refine ⟨?_, rfl, ?_, ?_, ?_, rfl⟩ <;> repeat' (first | exact trivial | (refine ⟨rfl, ?_⟩) | fail))
      · rename_i h3 h4
        have := lt90 h3
        refine Again.mk (j + 1) (by omega) (by omega) ?_
        rw [next_f h4, wrapN (by omega)]
        (refine ⟨?_, rfl, ?_, ?_, ?_, rfl⟩ <;> repeat' (first | exact trivial | (refine ⟨rfl, ?_⟩) | fail))
      · rename_i h3
        have : j = 90 := by have := ge90 h3; omega
        subst this
        refine Again.mk (i + 1) (by omega) (by omega) ?_
        rw [upTo_next (fun k => dStep (bytesL p) side (Int.ofNat k)) i, show dStep (bytesL p) side (Int.ofNat i) = upTo (fun k => if dFast (bytesL p) (Int.ofNat i) (Int.ofNat k) = true then [(Int.ofNat i, Int.ofNat k)] else []) 90 by
          rw [upTo_sqs (fun k => if dFast (bytesL p) (Int.ofNat i) k = true then [(Int.ofNat i, k)] else []), flatMap_filterMap, dStep, bAt_bytes, if_pos (by simpa using bneF h2)], wrapN (by omega)]
        (refine ⟨?_, rfl, ?_, ?_, ?_, rfl⟩ <;> repeat' (first | exact trivial | (refine ⟨rfl, ?_⟩) | fail))
    · rename_i h1
      have : i = 90 := by have := ge90 h1; omega
      subst this
      show (⟨_, _, _, _⟩ : Row) = ⟨_, _, _, _⟩
      rw [upTo_sqs (dStep (bytesL p) side)]; rfl
  · cases hcr
set_option maxHeartbeats 4000000 in
set_option maxRecDepth 20000 in
theorem okR6Moved (hS : Hyp G) : ConOK Tryz.prog G 34 cR6Moved := by
  refine seat_con hS.seat [] [] trivial Tryz.func34 rfl rfl rfl ?_
  intro rvs cr hcr hpre
  unfold cR6Moved at hcr
  split at hcr
  · rename_i p fr to
    cases hcr
    simp only [List.mem_cons, List.not_mem_nil, or_false, forall_eq_or_imp, forall_eq] at hpre
    obtain ⟨hp, hf, ht⟩ := hpre
    have h90 := spIs_size hp.is
    have q1 := hf.lo; have q2 := hf.hi; have q3 := ht.lo; have q4 := ht.hi
    have hbl : ((bytesL p).length : Int) = 90 := by rw [bytesL_len, h90]; rfl
    refine ⟨⟨rfl, rfl, rfl⟩, fun c hc vs => ?_⟩
    repeat' (first | exact Bool.noConfusion ‹(!true) = true› | exact Bool.noConfusion ‹(!false) = false› | (intro h; exact h) | (intro h; rw [h]; rfl) | (intro h1 h2; rw [h1, h2]; rfl) | (intro _; assumption) | (intro _; exact rfl) | (intro h; exact Bool.noConfusion (h.symm.trans ‹_ = false›)) | refine ⟨fun _ => ?_, fun _ => ?_⟩ | refine ⟨?_⟩ | refine ⟨?_, ?_⟩ | fail)
    all_goals first | exact rfl | exact q1 | exact q3 | skip
    · omega
    · show fr < ((bytesL p).length : Int); omega
    · show to < ((bytesL p).length : Int); omega
    · show fr < (((bytesL p).set _ _).length : Int); rw [List.length_set]; omega
    · exact chk_s (moved_eq hp.is ⟨q1, q2⟩ ⟨q3, q4⟩)
  · cases hcr
set_option maxHeartbeats 4000000 in
set_option maxRecDepth 20000 in
theorem okR8Safe (hS : Hyp G) : ConOK Tryz.prog G 33 cR8Safe := by
  refine seat_con hS.seat [(54, cR7Facing), (55, cR7In)] [] ⟨okR7Facing hS, okR7In hS, trivial⟩ Tryz.func33 rfl rfl rfl ?_
  intro rvs cr hcr hpre
  unfold cR8Safe at hcr
  split at hcr
  · rename_i p side
    cases hcr
    refine ⟨⟨rfl, rfl, rfl⟩, fun c hc vs => ?_⟩
    repeat' (first | exact Bool.noConfusion ‹(!true) = true› | exact Bool.noConfusion ‹(!false) = false› | (intro h; exact h) | (intro h; rw [h]; rfl) | (intro h1 h2; rw [h1, h2]; rfl) | (intro _; assumption) | (intro _; exact rfl) | (intro h; exact Bool.noConfusion (h.symm.trans ‹_ = false›)) | refine ⟨fun _ => ?_, fun _ => ?_⟩ | refine ⟨?_⟩ | refine ⟨?_, ?_⟩ | fail)
    all_goals first | exact rfl | skip
  · cases hcr
set_option maxHeartbeats 4000000 in
set_option maxRecDepth 20000 in
theorem okR8Of (hS : Hyp G) : ConOK Tryz.prog G 28 cR8Of := by
  refine seat_con hS.seat [(48, cR6Of), (24, cRKind), (34, cR6Moved), (33, cR8Safe)] [] ⟨okR6Of hS, okRKind hS, okR6Moved hS, okR8Safe hS, trivial⟩ Tryz.func28 rfl rfl rfl ?_
  intro rvs cr hcr hpre
  unfold cR8Of at hcr
  split at hcr
  · rename_i p side
    cases hcr
    simp only [List.mem_cons, List.not_mem_nil, or_false, forall_eq_or_imp, forall_eq] at hpre
    have h90 := spIs_size hpre.is
    refine ⟨⟨rfl, rfl, rfl⟩, fun c hc vs => ?_⟩
    repeat' (first | exact Bool.noConfusion ‹(!true) = true› | exact Bool.noConfusion ‹(!false) = false› | (intro h; exact h) | (intro h; rw [h]; rfl) | (intro h1 h2; rw [h1, h2]; rfl) | (intro _; assumption) | (intro _; exact rfl) | (intro h; exact Bool.noConfusion (h.symm.trans ‹_ = false›)) | refine ⟨fun _ => ?_, fun _ => ?_⟩ | refine ⟨?_⟩ | refine ⟨?_, ?_⟩ | fail)
    all_goals first | exact hpre.s90 | exact rfl | skip
    refine Tr_nilTmp 23 (.pair (.int .i64) (.int .i64)) 6 rfl (by decide) ?_
    refine Tr_loopH (α := Nat) (fun i => [(6, .row 1), (7, .i .i64 (.ofNat i))]) (fun _ => []) (fun i => [(1, some ⟨23, .pair (.int .i64) (.int .i64), pickTo (fun m => spSafe p side m.1 m.2) (dMovesOf (bytesL p) side) i, true⟩)]) (fun i => i ≤ (dMovesOf (bytesL p) side).length) (fun i => (dMovesOf (bytesL p) side).length - i) 0 (Nat.zero_le _) (by (refine ⟨?_, rfl, ?_, ?_, ?_, rfl⟩ <;> repeat' (first | exact trivial | (refine ⟨rfl, ?_⟩) | fail))) ?_
    intro i hi
    have hL := movesOf_len (bytesL p) side
    have hl : (pickTo (fun m => spSafe p side m.1 m.2) (dMovesOf (bytesL p) side) i).length ≤ 100000 := Nat.le_trans (pick_len _ _ _) (Nat.le_trans hL (by decide))
    have hm : decide (Int.ofNat i < ((dMovesOf (bytesL p) side).length : Int)) = true → Sq ((dMovesOf (bytesL p) side).getD (Int.ofNat i).toNat ((EK.int .i64).pair (.int .i64)).dflt).1 ∧ Sq ((dMovesOf (bytesL p) side).getD (Int.ofNat i).toNat ((EK.int .i64).pair (.int .i64)).dflt).2 := fun h => movesOf_at (ltN h)
    refine vs.go rfl ?_
    repeat' (first | exact Bool.noConfusion ‹(!true) = true› | exact Bool.noConfusion ‹(!false) = false› | (intro h; exact h) | (intro h; rw [h]; rfl) | (intro h1 h2; rw [h1, h2]; rfl) | (intro _; assumption) | (intro _; exact rfl) | (intro h; exact Bool.noConfusion (h.symm.trans ‹_ = false›)) | refine ⟨fun _ => ?_, fun _ => ?_⟩ | refine ⟨?_⟩ | refine ⟨?_, ?_⟩ | fail)
    all_goals first | exact trivial | (refine (?_ : (_ : Int) ≠ _); decide) | exact rfl | skip
    all_goals try dsimp only at *
    all_goals first | exact BY.at _ _ | (rename_i h; have h := ltN h; show (i : Int) < ((dMovesOf (bytesL p) side).length : Int); omega) | (rename_i h; exact (hm h).2.lo) | (rename_i h; have := (hm h).2.hi; omega) | (rename_i h; intro _; first | exact hpre | exact (hm h).1 | exact (hm h).2 | (have h := ltN h; exact ⟨by simp, by show (i : Int) < ((dMovesOf (bytesL p) side).length : Int); omega⟩)) | exact sz1 hl | exact szB hl | (rename_i h _; have h := ltN h; show (i : Int) < ((dMovesOf (bytesL p) side).length : Int); omega) | skip
    · rename_i h1 h2
      have := ltN h1
      refine Again.mk (i + 1) (by omega) (by omega) ?_
      rw [pick_t (0, 0) (ltN h1) (safe_form.symm.trans h2), wrapN (by omega)]
      (refine ⟨?_, rfl, ?_, ?_, ?_, rfl⟩ <;> repeat' (first | exact trivial | (refine ⟨rfl, ?_⟩) | fail))
    · rename_i h1 h2
      have := ltN h1
      refine Again.mk (i + 1) (by omega) (by omega) ?_
      rw [pick_f (0, 0) (ltN h1) (safe_form.symm.trans h2), wrapN (by omega)]
      (refine ⟨?_, rfl, ?_, ?_, ?_, rfl⟩ <;> repeat' (first | exact trivial | (refine ⟨rfl, ?_⟩) | fail))
    · rename_i h1
      have : i = (dMovesOf (bytesL p) side).length := by have := geN h1; omega
      subst this
      show (⟨_, _, _, _⟩ : Row) = ⟨_, _, _, _⟩
      rw [pick_all (Nat.le_refl _)]; rfl
  · cases hcr
set_option maxHeartbeats 4000000 in
set_option maxRecDepth 20000 in
theorem okR8Moves (hS : Hyp G) : ConOK Tryz.prog G 17 cR8Moves := by
  refine seat_con hS.seat [(39, cRWell), (28, cR8Of)] [] ⟨okRWell hS, okR8Of hS, trivial⟩ Tryz.func17 rfl rfl rfl ?_
  intro rvs cr hcr hpre
  unfold cR8Moves at hcr
  split at hcr
  · rename_i p side clock full
    cases hcr
    refine ⟨⟨rfl, rfl, rfl⟩, fun c hc vs => ?_⟩
    repeat' (first | exact Bool.noConfusion ‹(!true) = true› | exact Bool.noConfusion ‹(!false) = false› | (intro h; exact h) | (intro h; rw [h]; rfl) | (intro h1 h2; rw [h1, h2]; rfl) | (intro _; assumption) | (intro _; exact rfl) | (intro h; exact Bool.noConfusion (h.symm.trans ‹_ = false›)) | refine ⟨fun _ => ?_, fun _ => ?_⟩ | refine ⟨?_⟩ | refine ⟨?_, ?_⟩ | fail)
    all_goals first | exact rfl | skip
    · rename_i h; show rMoves p side clock full = []; rw [rMoves, if_neg (bneT h)]
    · rename_i h; exact ⟨(rArg_f (rCheck_arg (rWell_check (bneF h)).1).1).1, trivial, trivial⟩
    · rename_i h; show (⟨_, _, _, _⟩ : Row) = ⟨_, _, _, _⟩; rw [rMoves, if_pos (bneF h)]
  · cases hcr
end
end Go.X

namespace Go.X
open Go
structure LM {α : Type} (l : List α) : Prop where
  le : l.length ≤ 2000000000
  u : True
  v : True
structure CanOk (p : ByteArray) (side fr to : Int) : Prop where
  is : spIs p = true
  sd : SD side
  fr : Sq fr
  to : Sq to
theorem can_2 {p : ByteArray} {side fr to : Int} (h : (!spIs p || decide (side < 0) || decide (side > 1) || decide (fr < 0) || decide (fr > 89) || decide (to < 0) || decide (to > 89)) = false) : CanOk p side fr to := by
  simp only [Bool.or_eq_false_iff, decide_eq_false_iff_not, Bool.not_eq_false'] at h
  obtain ⟨⟨⟨⟨⟨⟨h1, h2⟩, h3⟩, h4⟩, h5⟩, h6⟩, h7⟩ := h
  exact ⟨h1, ⟨by omega, trivial, trivial⟩, ⟨by omega, by omega, trivial⟩, ⟨by omega, by omega, trivial⟩⟩
theorem can_1 {p : ByteArray} {side fr to : Int} (h : (!spIs p || decide (side < 0) || decide (side > 1) || decide (fr < 0) || decide (fr > 89) || decide (to < 0) || decide (to > 89)) = true) : spGCan p side fr to = false := by
  cases e : spGCan p side fr to with
  | false => rfl
  | true =>
    obtain ⟨h1, h2, h3, h4⟩ := gcan_ok e
    have := h2.lo; have := h2.hi; have := h3.lo; have := h3.hi
    simp only [h1, Bool.not_true, Bool.false_or, Bool.or_eq_true, decide_eq_true_eq] at h
    omega
theorem Sq.sqr' {n : Int} (h : Sq n) : Sqr n := ⟨h.lo, h.hi⟩
theorem can_form {p : ByteArray} {side fr to : Int} (h : CanOk p side fr to) : spGCan p side fr to = (!((spSide (byteAt p fr.toNat) != side) || !dFast (bytesL p) fr to || (spKind (byteAt p to.toNat) == 75)) && (!spFacing (spMoved p fr to) && !spIn (spMoved p fr to) side)) := by
  rw [gcan_canon h.is h.fr.sqr' h.to.sqr', dCan, ← safe_canon h.is h.fr.sqr' h.to.sqr', ← safe_form, bAt_bytes, decide_eq_true (show 0 ≤ side by rcases h.sd.is with e | e <;> omega)]
  unfold bne
  generalize (spSide (byteAt p fr.toNat) == side) = a
  generalize dFast (bytesL p) fr to = b
  generalize (spKind (byteAt p to.toNat) == 75) = c
  cases a <;> cases b <;> cases c <;> rfl
theorem takes_side {p : ByteArray} {side : Int} (h : side < 0 ∨ 1 < side) : spTakes p side = [] := by
  cases hp : spIs p with
  | false => exact takes_bad hp side
  | true =>
    rw [takes_canon hp, dTakesL, show dPieces (bytesL p) side = [] by
      unfold dPieces
      split
      · rw [List.filter_eq_nil_iff]
        intro x _
        have := side_bd (bAt (bytesL p) x)
        simp; omega
      · rfl]
    rfl
theorem can_3 {p : ByteArray} {side fr to : Int} (h : CanOk p side fr to) (h1 : ((spSide (byteAt p fr.toNat) != side) || !dFast (bytesL p) fr to || (spKind (byteAt p to.toNat) == 75)) = true) : spGCan p side fr to = false := by rw [can_form h, h1]; rfl
theorem can_4 {p : ByteArray} {side fr to : Int} (h : CanOk p side fr to) (h1 : ((spSide (byteAt p fr.toNat) != side) || !dFast (bytesL p) fr to || (spKind (byteAt p to.toNat) == 75)) = false) : spGCan p side fr to = (!spFacing (spMoved p fr to) && !spIn (spMoved p fr to) side) := by rw [can_form h, h1]; rfl
theorem rMoves_can {p : ByteArray} {side clock full : Int} (hne : ((rMoves p side clock full).length : Int) ≠ 0) (m : Int × Int) : m ∈ rMoves p side clock full ↔ spGCan p side m.1 m.2 = true := by
  have hw : rWell p side clock full = 0 := by
    refine Classical.byContradiction fun h => hne ?_
    unfold rMoves; rw [if_neg h]; rfl
  have ho := pos_ok (rWell_check hw).1
  rw [← rOf_mem ho.is ho.sd.is]
  unfold rMoves; rw [if_pos hw]
theorem rCapt_takes {p : ByteArray} {side clock full : Int} (hw : rWell p side clock full = 0) : rCapt p side clock full = spTakes p side := by
  have ho := pos_ok (rWell_check hw).1
  unfold rCapt rMoves
  rw [if_pos hw, takes_of ho.is ho.sd.is]
theorem rMoves_well {p : ByteArray} {side clock full : Int} (hne : ((rMoves p side clock full).length : Int) ≠ 0) : rWell p side clock full = 0 := by
  refine Classical.byContradiction fun h => hne ?_
  unfold rMoves; rw [if_neg h]; rfl
theorem mv_t {x y : Int × Int} (h : (EK.pair (.int .i64) (.int .i64)).eqb x y = true) : x = y := by
  obtain ⟨a, b⟩ := x; obtain ⟨c, d⟩ := y
  have h : ((a == c) && (b == d)) = true := h
  simp only [Bool.and_eq_true] at h
  rw [beqT h.1, beqT h.2]
theorem mv_f {x y : Int × Int} (h : (EK.pair (.int .i64) (.int .i64)).eqb x y = false) : x ≠ y := by
  rintro rfl
  obtain ⟨a, b⟩ := x
  have h : ((a == a) && (b == b)) = false := h
  simp at h
theorem eq_getD {α : Type} {l m : List α} {d : α} (h : l.length = m.length) (hq : ∀ k, k < l.length → l.getD k d = m.getD k d) : l = m := by
  refine List.ext_getElem h fun k h1 h2 => ?_
  have := hq k h1
  rwa [List.getD_eq_getElem?_getD, List.getElem?_eq_getElem h1, List.getD_eq_getElem?_getD, List.getElem?_eq_getElem h2] at this
theorem mem_getD {α : Type} {l : List α} {d : α} {k : Nat} (h : k < l.length) : l.getD k d ∈ l := by
  rw [List.getD_eq_getElem?_getD, List.getElem?_eq_getElem h]; exact List.getElem_mem h
theorem not_mem_getD {α : Type} {l : List α} {d x : α} (h : ∀ k, k < l.length → l.getD k d ≠ x) : x ∉ l := by
  intro hx
  obtain ⟨k, hk, e⟩ := List.getElem_of_mem hx
  refine h k hk ?_
  rw [List.getD_eq_getElem?_getD, List.getElem?_eq_getElem hk]; exact e
theorem guarded_bad {p : ByteArray} {fr to : Int} (h : spGCan p (spSide (spAt p fr)) fr to = false) : spGuarded p fr to = false := by unfold spGuarded; rw [h]; rfl
theorem at_sq {p : ByteArray} {fr : Int} (hp : spIs p = true) (hf : Sq fr) : spAt p fr = byteAt p fr.toNat := by
  unfold spAt; rw [hf.sqr'.is, hp]; rfl
theorem guarded_form {p : ByteArray} {fr to : Int} (hp : spIs p = true) (hf : Sq fr) (ht : Sq to) (h : spGCan p (spSide (byteAt p fr.toNat)) fr to = true) :
    spGuarded p fr to = sqs.any fun n => (spSide (byteAt (spMoved p fr to) n.toNat) == 1 - spSide (byteAt p fr.toNat)) && spGCan (spMoved p fr to) (1 - spSide (byteAt p fr.toNat)) n to := by
  obtain ⟨h1, h2⟩ := moved_canon hp hf.sqr' ht.sqr'
  rw [guarded_canon hp hf.sqr' ht.sqr', dGuarded, bAt_bytes, ← gcan_canon hp hf.sqr' ht.sqr', h, Bool.true_and]
  rw [Bool.eq_iff_iff, List.any_eq_true, List.any_eq_true]
  refine exists_congr fun n => and_congr_right fun hn => ?_
  have hq := mem_sqs.1 hn
  rw [← h1, bAt_bytes, ← gcan_canon h2 ⟨hq.1, hq.2⟩ ht.sqr']
end Go.X

namespace Go.X
open Go Go.Proofs

def cR6Same : Con
  | [.row _ ⟨23, .pair (.int .i64) (.int .i64), l, _⟩, .row _ ⟨23, .pair (.int .i64) (.int .i64), m, _⟩] => some ⟨[LM l], .a (.b (decide (l = m))), [], []⟩
  | _ => none
def cR6Has : Con
  | [.row _ ⟨23, .pair (.int .i64) (.int .i64), l, _⟩, .agg [.a (.i .i64 fr), .a (.i .i64 to)]] => some ⟨[LM l], .a (.b (decide ((fr, to) ∈ l))), [], []⟩
  | _ => none
def cR15Can : Con
  | [.a (.s p), .a (.i .i64 side), .agg [.a (.i .i64 fr), .a (.i .i64 to)]] => some ⟨[], .a (.b (spGCan p side fr to)), [], []⟩
  | _ => none
def cR15Takes : Con
  | [.a (.s p), .a (.i .i64 side)] => some ⟨[], .row ⟨23, .pair (.int .i64) (.int .i64), spTakes p side, true⟩, [], []⟩
  | _ => none
def cR15Guarded : Con
  | [.a (.s p), .agg [.a (.i .i64 fr), .a (.i .i64 to)]] => some ⟨[], .a (.b (spGuarded p fr to)), [], []⟩
  | _ => none
section
variable {G : Nat → World → Prop}
set_option maxHeartbeats 4000000 in
set_option maxRecDepth 20000 in
theorem okR6Same (hS : Hyp G) : ConOK Tryz.prog G 10 cR6Same := by
  refine seat_con hS.seat [] [some (23, .pair (.int .i64) (.int .i64)), some (23, .pair (.int .i64) (.int .i64))] trivial Tryz.func10 rfl rfl rfl ?_
  intro rvs cr hcr hpre
  unfold cR6Same at hcr
  split at hcr
  · rename_i i1 l o1 i2 m o2
    cases hcr
    simp only [List.mem_cons, List.not_mem_nil, or_false, forall_eq_or_imp, forall_eq] at hpre
    refine ⟨⟨rfl, rfl, rfl⟩, fun c hc vs => ?_⟩
    repeat' (first | exact Bool.noConfusion ‹(!true) = true› | exact Bool.noConfusion ‹(!false) = false› | (intro h; exact h) | (intro h; rw [h]; rfl) | (intro h1 h2; rw [h1, h2]; rfl) | (intro _; assumption) | (intro _; exact rfl) | (intro h; exact Bool.noConfusion (h.symm.trans ‹_ = false›)) | refine ⟨fun _ => ?_, fun _ => ?_⟩ | refine ⟨?_⟩ | refine ⟨?_, ?_⟩ | fail)
    all_goals first | exact rfl | skip
    · rename_i h; exact chk_b (by rw [decide_eq_false]; rintro rfl; exact bneT h rfl)
    · rename_i h
      have hlm : l.length = m.length := Int.ofNat_inj.1 (bneF h)
      refine Tr_loopH (α := Nat) (fun i => [(5, .i .i64 (.ofNat i))]) (fun _ => []) (fun _ => []) (fun i => i ≤ l.length ∧ ∀ k, k < i → l.getD k (0, 0) = m.getD k (0, 0)) (fun i => l.length - i) 0 ⟨by omega, fun k hk => by omega⟩ (by (refine ⟨?_, rfl, ?_, ?_, ?_, rfl⟩ <;> repeat' (first | exact trivial | (refine ⟨rfl, ?_⟩) | fail))) ?_
      rintro i ⟨hi, hq⟩
      refine vs.go rfl ?_
      repeat' (first | exact Bool.noConfusion ‹(!true) = true› | exact Bool.noConfusion ‹(!false) = false› | (intro h; exact h) | (intro h; rw [h]; rfl) | (intro h1 h2; rw [h1, h2]; rfl) | (intro _; assumption) | (intro _; exact rfl) | (intro h; exact Bool.noConfusion (h.symm.trans ‹_ = false›)) | refine ⟨fun _ => ?_, fun _ => ?_⟩ | refine ⟨?_⟩ | refine ⟨?_, ?_⟩ | fail)
      all_goals first | exact trivial | (refine (?_ : (_ : Int) ≠ _); decide) | exact rfl | skip
      all_goals try dsimp only at *
      all_goals first | (rename_i h; have h := ltN h; show (i : Int) < (l.length : Int); omega) | (rename_i h; exact Int.ofNat_lt.2 (Nat.lt_of_lt_of_eq (ltN h) hlm)) | skip
      · rename_i h1 h2
        exact chk_b (by rw [decide_eq_false]; rintro rfl; exact mv_f (bt h2) rfl)
      · rename_i h1 h2
        have hlen := hpre.le
        have := ltN h1
        refine Again.mk (i + 1) ⟨by omega, till hq (mv_t (bn h2))⟩ (by omega) ?_
        rw [wrapN (by omega)]
        (refine ⟨?_, rfl, ?_, ?_, ?_, rfl⟩ <;> repeat' (first | exact trivial | (refine ⟨rfl, ?_⟩) | fail))
      · rename_i h1
        have hge := geN h1
        exact chk_b (by rw [decide_eq_true (eq_getD (d := (0, 0)) hlm fun k hk => hq k (by omega))])
  · cases hcr
set_option maxHeartbeats 4000000 in
set_option maxRecDepth 20000 in
theorem okR6Has (hS : Hyp G) : ConOK Tryz.prog G 18 cR6Has := by
  refine seat_con hS.seat [] [some (23, .pair (.int .i64) (.int .i64)), none] trivial Tryz.func18 rfl rfl rfl ?_
  intro rvs cr hcr hpre
  unfold cR6Has at hcr
  split at hcr
  · rename_i i1 l o1 fr to
    cases hcr
    simp only [List.mem_cons, List.not_mem_nil, or_false, forall_eq_or_imp, forall_eq] at hpre
    refine ⟨⟨rfl, rfl, rfl⟩, fun c hc vs => ?_⟩
    repeat' (first | exact Bool.noConfusion ‹(!true) = true› | exact Bool.noConfusion ‹(!false) = false› | (intro h; exact h) | (intro h; rw [h]; rfl) | (intro h1 h2; rw [h1, h2]; rfl) | (intro _; assumption) | (intro _; exact rfl) | (intro h; exact Bool.noConfusion (h.symm.trans ‹_ = false›)) | refine ⟨fun _ => ?_, fun _ => ?_⟩ | refine ⟨?_⟩ | refine ⟨?_, ?_⟩ | fail)
    all_goals first | exact rfl | skip
    refine Tr_loopH (α := Nat) (fun i => [(5, .i .i64 (.ofNat i))]) (fun _ => []) (fun _ => []) (fun i => i ≤ l.length ∧ ∀ k, k < i → l.getD k (0, 0) ≠ (fr, to)) (fun i => l.length - i) 0 ⟨by omega, fun k hk => by omega⟩ (by (refine ⟨?_, rfl, ?_, ?_, ?_, rfl⟩ <;> repeat' (first | exact trivial | (refine ⟨rfl, ?_⟩) | fail))) ?_
    rintro i ⟨hi, hq⟩
    refine vs.go rfl ?_
    repeat' (first | exact Bool.noConfusion ‹(!true) = true› | exact Bool.noConfusion ‹(!false) = false› | (intro h; exact h) | (intro h; rw [h]; rfl) | (intro h1 h2; rw [h1, h2]; rfl) | (intro _; assumption) | (intro _; exact rfl) | (intro h; exact Bool.noConfusion (h.symm.trans ‹_ = false›)) | refine ⟨fun _ => ?_, fun _ => ?_⟩ | refine ⟨?_⟩ | refine ⟨?_, ?_⟩ | fail)
    all_goals first | exact trivial | (refine (?_ : (_ : Int) ≠ _); decide) | exact rfl | skip
    all_goals try dsimp only at *
    all_goals first | (rename_i h; have h := ltN h; show (i : Int) < (l.length : Int); omega) | skip
    · rename_i h1 h2
      exact chk_b (by rw [decide_eq_true]; rw [← mv_t h2]; exact mem_getD (ltN h1))
    · rename_i h1 h2
      have hlen := hpre.le
      have := ltN h1
      refine Again.mk (i + 1) ⟨by omega, till hq (mv_f h2)⟩ (by omega) ?_
      rw [wrapN (by omega)]
      (refine ⟨?_, rfl, ?_, ?_, ?_, rfl⟩ <;> repeat' (first | exact trivial | (refine ⟨rfl, ?_⟩) | fail))
    · rename_i h1
      have hge := geN h1
      exact chk_b (by rw [decide_eq_false (not_mem_getD (d := (0, 0)) fun k hk => hq k (by omega))])
  · cases hcr
set_option maxHeartbeats 4000000 in
set_option maxRecDepth 20000 in
theorem okR15Can (hS : Hyp G) : ConOK Tryz.prog G 14 cR15Can := by
  refine seat_con hS.seat [(27, cRIs2), (23, cRSide), (32, cR5Fast), (24, cRKind), (34, cR6Moved), (33, cR8Safe)] [] ⟨okRIs2 hS, okRSide hS, okR5Fast hS, okRKind hS, okR6Moved hS, okR8Safe hS, trivial⟩ Tryz.func14 rfl rfl rfl ?_
  intro rvs cr hcr hpre
  unfold cR15Can at hcr
  split at hcr
  · rename_i p side fr to
    cases hcr
    refine ⟨⟨rfl, rfl, rfl⟩, fun c hc vs => ?_⟩
    repeat' (first | exact Bool.noConfusion ‹(!true) = true› | exact Bool.noConfusion ‹(!false) = false› | (intro h; exact h) | (intro h; rw [h]; rfl) | (intro h1 h2; rw [h1, h2]; rfl) | (intro _; assumption) | (intro _; exact rfl) | (intro h; exact Bool.noConfusion (h.symm.trans ‹_ = false›)) | refine ⟨fun _ => ?_, fun _ => ?_⟩ | refine ⟨?_⟩ | refine ⟨?_, ?_⟩ | fail)
    all_goals first | exact rfl | skip
    · rename_i h; exact chk_b (can_1 h).symm
    all_goals
      have ho := can_2 ‹(!spIs p || decide (side < 0) || decide (side > 1) || decide (fr < 0) || decide (fr > 89) || decide (to < 0) || decide (to > 89)) = false›
      have h90 := spIs_size ho.is
      have h1 := ho.fr.lo; have h2 := ho.fr.hi; have h3 := ho.to.lo; have h4 := ho.to.hi
    all_goals first | exact BY.at _ _ | (intro _; first | exact BY.at _ _ | exact ⟨h90, trivial, trivial⟩ | exact ho.fr | exact ho.to | omega) | exact ⟨ho.is, trivial, trivial⟩ | exact ho.fr | exact ho.to | omega | skip
    · exact chk_b (can_3 ho ‹_›).symm
    · exact chk_b (can_4 ho ‹_›).symm
  · cases hcr
set_option maxHeartbeats 4000000 in
set_option maxRecDepth 20000 in
theorem okR15Takes (hS : Hyp G) : ConOK Tryz.prog G 12 cR15Takes := by
  refine seat_con hS.seat [(27, cRIs2), (28, cR8Of)] [] ⟨okRIs2 hS, okR8Of hS, trivial⟩ Tryz.func12 rfl rfl rfl ?_
  intro rvs cr hcr hpre
  unfold cR15Takes at hcr
  split at hcr
  · rename_i p side
    cases hcr
    refine ⟨⟨rfl, rfl, rfl⟩, fun c hc vs => ?_⟩
    repeat' (first | exact Bool.noConfusion ‹(!true) = true› | exact Bool.noConfusion ‹(!false) = false› | (intro h; exact h) | (intro h; rw [h]; rfl) | (intro h1 h2; rw [h1, h2]; rfl) | (intro _; assumption) | (intro _; exact rfl) | (intro h; exact Bool.noConfusion (h.symm.trans ‹_ = false›)) | refine ⟨fun _ => ?_, fun _ => ?_⟩ | refine ⟨?_⟩ | refine ⟨?_, ?_⟩ | fail)
    all_goals first | exact rfl | skip
    · rename_i h
      show spTakes p side = []
      cases hp : spIs p with
      | false => exact takes_bad hp side
      | true => exact takes_side (by simpa [hp] using h)
    all_goals
      have hx := ‹(!spIs p || decide (side < 0) || decide (side > 1)) = false›
      simp only [Bool.or_eq_false_iff, decide_eq_false_iff_not] at hx
      have hp := bn hx.1.1
      have h90 := spIs_size hp
    · exact ⟨hp, trivial, trivial⟩
    refine Tr_nilTmp 23 (.pair (.int .i64) (.int .i64)) 5 rfl (by decide) ?_
    refine Tr_loopH (α := Nat) (fun i => [(5, .row 1), (7, .i .i64 (.ofNat i))]) (fun _ => []) (fun i => [(1, some ⟨23, .pair (.int .i64) (.int .i64), pickTo (fun m => bAt (bytesL p) m.2 != 46) (rOf p side) i, true⟩)]) (fun i => i ≤ (rOf p side).length) (fun i => (rOf p side).length - i) 0 (Nat.zero_le _) (by (refine ⟨?_, rfl, ?_, ?_, ?_, rfl⟩ <;> repeat' (first | exact trivial | (refine ⟨rfl, ?_⟩) | fail))) ?_
    intro i hi
    have hL := rOf_len p side
    have hl : (pickTo (fun m => bAt (bytesL p) m.2 != 46) (rOf p side) i).length ≤ 100000 := Nat.le_trans (pick_len _ _ _) (Nat.le_trans hL (by decide))
    have hm : decide (Int.ofNat i < ((rOf p side).length : Int)) = true → Sq ((rOf p side).getD (Int.ofNat i).toNat ((EK.int .i64).pair (.int .i64)).dflt).1 ∧ Sq ((rOf p side).getD (Int.ofNat i).toNat ((EK.int .i64).pair (.int .i64)).dflt).2 := fun h => rOf_at (mem_getD (ltN h))
    refine vs.go rfl ?_
    repeat' (first | exact Bool.noConfusion ‹(!true) = true› | exact Bool.noConfusion ‹(!false) = false› | (intro h; exact h) | (intro h; rw [h]; rfl) | (intro h1 h2; rw [h1, h2]; rfl) | (intro _; assumption) | (intro _; exact rfl) | (intro h; exact Bool.noConfusion (h.symm.trans ‹_ = false›)) | refine ⟨fun _ => ?_, fun _ => ?_⟩ | refine ⟨?_⟩ | refine ⟨?_, ?_⟩ | fail)
    all_goals first | exact trivial | (refine (?_ : (_ : Int) ≠ _); decide) | exact rfl | skip
    all_goals try dsimp only at *
    all_goals first | (rename_i h; have h := ltN h; show (i : Int) < ((rOf p side).length : Int); omega) | (rename_i h; exact (hm h).2.lo) | (rename_i h; have := (hm h).2.hi; omega) | exact sz1 hl | exact szB hl | (rename_i h _; have h := ltN h; show (i : Int) < ((rOf p side).length : Int); omega) | skip
    · rename_i h1 h2
      have := ltN h1
      refine Again.mk (i + 1) (by omega) (by omega) ?_
      rw [pick_t (0, 0) (ltN h1) (by rw [bAt_bytes]; exact h2), wrapN (by omega)]
      (refine ⟨?_, rfl, ?_, ?_, ?_, rfl⟩ <;> repeat' (first | exact trivial | (refine ⟨rfl, ?_⟩) | fail))
    · rename_i h1 h2
      have := ltN h1
      refine Again.mk (i + 1) (by omega) (by omega) ?_
      rw [pick_f (0, 0) (ltN h1) (by rw [bAt_bytes]; exact h2), wrapN (by omega)]
      (refine ⟨?_, rfl, ?_, ?_, ?_, rfl⟩ <;> repeat' (first | exact trivial | (refine ⟨rfl, ?_⟩) | fail))
    · rename_i h1
      have : i = (rOf p side).length := by have := geN h1; omega
      subst this
      show (⟨_, _, _, _⟩ : Row) = ⟨_, _, _, _⟩
      rw [pick_all (Nat.le_refl _), takes_of hp (by omega)]
  · cases hcr
set_option maxHeartbeats 4000000 in
set_option maxRecDepth 20000 in
theorem okR15Guarded (hS : Hyp G) : ConOK Tryz.prog G 16 cR15Guarded := by
  refine seat_con hS.seat [(27, cRIs2), (23, cRSide), (14, cR15Can), (34, cR6Moved)] [] ⟨okRIs2 hS, okRSide hS, okR15Can hS, okR6Moved hS, trivial⟩ Tryz.func16 rfl rfl rfl ?_
  intro rvs cr hcr hpre
  unfold cR15Guarded at hcr
  split at hcr
  · rename_i p fr to
    cases hcr
    refine ⟨⟨rfl, rfl, rfl⟩, fun c hc vs => ?_⟩
    repeat' (first | exact Bool.noConfusion ‹(!true) = true› | exact Bool.noConfusion ‹(!false) = false› | (intro h; exact h) | (intro h; rw [h]; rfl) | (intro h1 h2; rw [h1, h2]; rfl) | (intro _; assumption) | (intro _; exact rfl) | (intro h; exact Bool.noConfusion (h.symm.trans ‹_ = false›)) | refine ⟨fun _ => ?_, fun _ => ?_⟩ | refine ⟨?_⟩ | refine ⟨?_, ?_⟩ | fail)
    all_goals first | exact rfl | skip
    · rename_i h
      refine chk_b (guarded_bad ?_).symm
      cases e : spGCan p (spSide (spAt p fr)) fr to with
      | false => rfl
      | true =>
        obtain ⟨h1, h2, h3, h4⟩ := gcan_ok e
        have := h2.lo; have := h2.hi
        simp only [h1, Bool.not_true, Bool.false_or, Bool.or_eq_true, decide_eq_true_eq] at h
        omega
    all_goals
      have hx := ‹(!spIs p || decide (fr < 0) || decide (fr > 89)) = false›
      simp only [Bool.or_eq_false_iff, decide_eq_false_iff_not] at hx
      have hp := bn hx.1.1
      have h90 := spIs_size hp
      have hf : Sq fr := ⟨by omega, by omega, trivial⟩
      have hat := at_sq hp hf
    all_goals first | exact BY.at _ _ | exact hf | exact ⟨hp, trivial, trivial⟩ | omega | skip
    · exact chk_b (guarded_bad (by rw [hat]; exact bt ‹_›)).symm
    all_goals
      have hg := bn ‹(!spGCan p (spSide (byteAt p fr.toNat)) fr to) = false›
      have ht : Sq to := ⟨(gcan_ok hg).2.2.1.lo, (gcan_ok hg).2.2.1.hi, trivial⟩
    · exact ht
    have hsd : SD (spSide (byteAt p fr.toNat)) := ⟨(gcan_ok hg).2.2.2, trivial, trivial⟩
    have hgf := guarded_form hp hf ht hg
    have hm90 := spIs_size (moved_canon hp hf.sqr' ht.sqr').2
    refine Tr_loopH (α := Nat) (fun i => [(7, .i .i64 (.ofNat i))]) (fun _ => []) (fun _ => []) (fun i => i ≤ 90 ∧ ∀ k, k < i → ((spSide (byteAt (spMoved p fr to) (Int.ofNat k).toNat) == 1 - spSide (byteAt p fr.toNat)) && spGCan (spMoved p fr to) (1 - spSide (byteAt p fr.toNat)) (Int.ofNat k) to) = false) (fun i => 90 - i) 0 ⟨by omega, fun k hk => by omega⟩ (by (refine ⟨?_, rfl, ?_, ?_, ?_, rfl⟩ <;> repeat' (first | exact trivial | (refine ⟨rfl, ?_⟩) | fail))) ?_
    rintro i ⟨hi, hq⟩
    refine vs.go rfl ?_
    repeat' (first | exact Bool.noConfusion ‹(!true) = true› | exact Bool.noConfusion ‹(!false) = false› | (intro h; exact h) | (intro h; rw [h]; rfl) | (intro h1 h2; rw [h1, h2]; rfl) | (intro _; assumption) | (intro _; exact rfl) | (intro h; exact Bool.noConfusion (h.symm.trans ‹_ = false›)) | refine ⟨fun _ => ?_, fun _ => ?_⟩ | refine ⟨?_⟩ | refine ⟨?_, ?_⟩ | fail)
    all_goals first | exact trivial | (refine (?_ : (_ : Int) ≠ _); decide) | exact rfl | skip
    all_goals try dsimp only at *
    all_goals first | exact BY.at _ _ | (rename_i h; have h := lt90 h; show (i : Int) < ((spMoved p fr to).size : Int); omega) | skip
    · rename_i h1 h2
      rw [hsd.wrap] at h2
      exact chk_b (by rw [hgf, sqs_t (lt90 h1) h2])
    · rename_i h1 h2
      rw [hsd.wrap] at h2
      have := lt90 h1
      refine Again.mk (i + 1) ⟨by omega, till hq h2⟩ (by omega) ?_
      rw [wrapN (by omega)]
      (refine ⟨?_, rfl, ?_, ?_, ?_, rfl⟩ <;> repeat' (first | exact trivial | (refine ⟨rfl, ?_⟩) | fail))
    · rename_i h1
      have := ge90 h1
      exact chk_b (by rw [hgf, sqs_f fun k hk => hq k (by omega)])
  · cases hcr
end
end Go.X

namespace Go.X
open Go

structure TakeOk (p : ByteArray) (side : Int) (m : Int × Int) : Prop where
  is : spIs p = true
  fr : Sqr m.1
  to : Sqr m.2
  sd : side = 0 ∨ side = 1
  own : spSide (byteAt p m.1.toNat) = side
  other : spSide (byteAt p m.2.toNat) = 1 - side
  kind : spKind (byteAt p m.2.toNat) ≠ 75
  can : spGCan p side m.1 m.2 = true
theorem takes_ok {p : ByteArray} {side : Int} {m : Int × Int} (h : m ∈ spTakes p side) : TakeOk p side m := by
  unfold spTakes spReached at h
  rw [List.mem_filter, List.mem_flatMap] at h
  obtain ⟨⟨fr, h1, h2⟩, h3⟩ := h
  unfold spTo1 at h2
  rw [List.mem_map] at h2
  obtain ⟨to, h4, rfl⟩ := h2
  rw [List.mem_filter] at h4
  dsimp only at h3
  have ha := all_is h4.1
  have hf : Sqr fr := ⟨ha.2.1.1, ha.2.1.2⟩
  have ht : Sqr to := ⟨ha.2.2.1, ha.2.2.2⟩
  rw [pieces_canon ha.1] at h1
  unfold dPieces at h1
  split at h1
  · rename_i hs
    have hown := (List.mem_filter.1 h1).2
    rw [bAt_bytes, beq_iff_eq] at hown
    have hb := side_bd (byteAt p fr.toNat)
    have hat : spAt p fr = byteAt p fr.toNat := by unfold spAt; rw [hf.is, ha.1]; rfl
    have hall := (mem_all.1 h4.1).2.2.2
    rw [hat, hown] at hall
    have hcell := (cell_at ha.1 ht).is
    have hne : byteAt p to.toNat ≠ 46 := bneT h4.2
    have hb2 := side_bd (byteAt p to.toNat)
    have hge : 0 ≤ spSide (byteAt p to.toNat) := by
      unfold spIsCell at hcell
      rw [Bool.or_eq_true, beq_iff_eq, decide_eq_true_eq] at hcell
      rcases hcell with h | h
      · exact absurd h hne
      · exact h
    have hk : spKind (byteAt p to.toNat) ≠ 75 := by
      intro hk
      unfold spSafe at h3
      rw [if_pos hk] at h3; cases h3
    refine ⟨ha.1, hf, ht, by omega, hown, by show spSide (byteAt p to.toNat) = 1 - side; omega, hk, ?_⟩
    show spGCan p side fr to = true
    unfold spGCan
    rw [hat, hown, can_mem.2 h4.1, h3]
    simp [hs]
  · cases h1
def Lex (a b : Int × Int) : Prop := a.1 < b.1 ∨ (a.1 = b.1 ∧ a.2 < b.2)
theorem pieces_rising (p : ByteArray) (side : Int) : (spPieces p side).Pairwise (· < ·) := by
  cases hp : spIs p with
  | false => unfold spPieces; rw [set_bad hp]; exact List.Pairwise.nil
  | true =>
    rw [pieces_canon hp]
    unfold dPieces
    split
    · exact sqs_rising.filter _
    · exact List.Pairwise.nil
theorem takes_rising (p : ByteArray) (side : Int) : (spTakes p side).Pairwise Lex := by
  unfold spTakes spReached
  refine List.Pairwise.filter _ ?_
  have key : ∀ l : List Int, l.Pairwise (· < ·) → (l.flatMap (spTo1 p)).Pairwise Lex := by
    intro l
    induction l with
    | nil => intro _; exact List.Pairwise.nil
    | cons x l ih =>
      intro h
      rw [List.pairwise_cons] at h
      rw [List.flatMap_cons, List.pairwise_append]
      refine ⟨?_, ih h.2, ?_⟩
      · unfold spTo1
        rw [List.pairwise_map]
        exact ((all_rising p x).filter _).imp (fun hlt => .inr ⟨rfl, hlt⟩)
      · intro a ha b hb
        unfold spTo1 at ha
        rw [List.mem_map] at ha
        obtain ⟨y, _, rfl⟩ := ha
        rw [List.mem_flatMap] at hb
        obtain ⟨z, hz, hb⟩ := hb
        unfold spTo1 at hb
        rw [List.mem_map] at hb
        obtain ⟨u, _, rfl⟩ := hb
        exact .inl (h.1 z hz)
  exact key _ (pieces_rising p side)
theorem takes_len (p : ByteArray) (side : Int) : (spTakes p side).length ≤ 9000 := by
  rw [← outT_all]; exact outT_len p side (Nat.le_refl _)
theorem getP {l : List (Int × Int)} {i : Nat} (h : i < l.length) : l.getD i (0, 0) = l[i] := by simp [List.getD_eq_getElem?_getD, List.getElem?_eq_getElem h]
theorem takes_at {p : ByteArray} {side : Int} {i : Nat} (h : i < (spTakes p side).length) : TakeOk p side ((spTakes p side).getD i (0, 0)) := by
  rw [getP h]; exact takes_ok (List.getElem_mem h)
theorem takes_next {p : ByteArray} {side : Int} {i : Nat} (h : i < (spTakes p side).length) (h0 : 0 < i) : Lex ((spTakes p side).getD (i - 1) (0, 0)) ((spTakes p side).getD i (0, 0)) := by
  rw [getP h, getP (by omega)]
  exact List.pairwise_iff_getElem.1 (takes_rising p side) (i - 1) i (by omega) h (by omega)
end Go.X

namespace Go.X
open Go Go.Proofs

def cR8Capt : Con
  | [.agg [.a (.s p), .a (.i .i64 side), .a (.i .i64 clock), .a (.i .i64 full)]] => some ⟨[], .row ⟨23, .pair (.int .i64) (.int .i64), rCapt p side clock full, true⟩, [], []⟩
  | _ => none
def posT (e : Int) (p : ByteArray) (side clock full fr to : Int) : RT :=
  .agg [.a (.s (if e = 0 then spMoved p fr to else ByteArray.empty)), .a (.i .i64 (if e = 0 then 1 - side else 0)), .a (.i .i64 (if e = 0 then nClock (bytesL p) clock to else 0)), .a (.i .i64 (if e = 0 then nFull side full else 0))]
def cR6Apply : Con
  | [.agg [.a (.s p), .a (.i .i64 side), .a (.i .i64 clock), .a (.i .i64 full)], .agg [.a (.i .i64 fr), .a (.i .i64 to)]] =>
    some ⟨[], .tup [posT (rAppE p side clock full fr to) p side clock full fr to, .a (.i .u8 (if rAppE p side clock full fr to = 0 then nTaken (bytesL p) to else 0)), .a (.i .i64 (rAppE p side clock full fr to))], [], []⟩
  | _ => none
def cR8Make : Con
  | [.agg [.a (.s p), .a (.i .i64 side), .a (.i .i64 clock), .a (.i .i64 full)], .agg [.a (.i .i64 fr), .a (.i .i64 to)]] =>
    some ⟨[], .tup [posT (rMakeE p side clock full fr to) p side clock full fr to, .a (.i .u8 (if rMakeE p side clock full fr to = 0 then nTaken (bytesL p) to else 0)), .a (.i .i64 (rMakeE p side clock full fr to))], [], []⟩
  | _ => none
section
variable {G : Nat → World → Prop}
set_option maxHeartbeats 4000000 in
set_option maxRecDepth 20000 in
theorem okR8Capt (hS : Hyp G) : ConOK Tryz.prog G 19 cR8Capt := by
  refine seat_con hS.seat [(17, cR8Moves)] [] ⟨okR8Moves hS, trivial⟩ Tryz.func19 rfl rfl rfl ?_
  intro rvs cr hcr hpre
  unfold cR8Capt at hcr
  split at hcr
  · rename_i p side clock full
    cases hcr
    refine ⟨⟨rfl, rfl, rfl⟩, fun c hc vs => ?_⟩
    repeat' (first | exact Bool.noConfusion ‹(!true) = true› | exact Bool.noConfusion ‹(!false) = false› | (intro h; exact h) | (intro h; rw [h]; rfl) | (intro h1 h2; rw [h1, h2]; rfl) | (intro _; assumption) | (intro _; exact rfl) | (intro h; exact Bool.noConfusion (h.symm.trans ‹_ = false›)) | refine ⟨fun _ => ?_, fun _ => ?_⟩ | refine ⟨?_⟩ | refine ⟨?_, ?_⟩ | fail)
    all_goals first | exact rfl | skip
    refine Tr_nilTmp 23 (.pair (.int .i64) (.int .i64)) 4 rfl (by decide) ?_
    refine Tr_loopH (α := Nat) (fun i => [(4, .row 1), (5, .i .i64 (.ofNat i))]) (fun _ => []) (fun i => [(1, some ⟨23, .pair (.int .i64) (.int .i64), pickTo (fun m => bAt (bytesL p) m.2 != 46) (rMoves p side clock full) i, true⟩)]) (fun i => i ≤ (rMoves p side clock full).length) (fun i => (rMoves p side clock full).length - i) 0 (Nat.zero_le _) (by (refine ⟨?_, rfl, ?_, ?_, ?_, rfl⟩ <;> repeat' (first | exact trivial | (refine ⟨rfl, ?_⟩) | fail))) ?_
    intro i hi
    have hL := rMoves_len p side clock full
    have hl : (pickTo (fun m => bAt (bytesL p) m.2 != 46) (rMoves p side clock full) i).length ≤ 100000 := Nat.le_trans (pick_len _ _ _) (Nat.le_trans hL (by decide))
    have hm : decide (Int.ofNat i < ((rMoves p side clock full).length : Int)) = true → p.size = 90 ∧ Sq ((rMoves p side clock full).getD (Int.ofNat i).toNat ((EK.int .i64).pair (.int .i64)).dflt).1 ∧ Sq ((rMoves p side clock full).getD (Int.ofNat i).toNat ((EK.int .i64).pair (.int .i64)).dflt).2 := fun h => rMoves_at (ltN h)
    refine vs.go rfl ?_
    repeat' (first | exact Bool.noConfusion ‹(!true) = true› | exact Bool.noConfusion ‹(!false) = false› | (intro h; exact h) | (intro h; rw [h]; rfl) | (intro h1 h2; rw [h1, h2]; rfl) | (intro _; assumption) | (intro _; exact rfl) | (intro h; exact Bool.noConfusion (h.symm.trans ‹_ = false›)) | refine ⟨fun _ => ?_, fun _ => ?_⟩ | refine ⟨?_⟩ | refine ⟨?_, ?_⟩ | fail)
    all_goals first | exact trivial | (refine (?_ : (_ : Int) ≠ _); decide) | exact rfl | skip
    all_goals try dsimp only at *
    all_goals first | (rename_i h; have h := ltN h; show (i : Int) < ((rMoves p side clock full).length : Int); omega) | (rename_i h; exact (hm h).2.2.lo) | (rename_i h; have := (hm h).2.2.hi; have := (hm h).1; omega) | exact sz1 hl | exact szB hl | (rename_i h _; have h := ltN h; show (i : Int) < ((rMoves p side clock full).length : Int); omega) | skip
    · rename_i h1 h2
      have := ltN h1
      refine Again.mk (i + 1) (by omega) (by omega) ?_
      rw [pick_t (0, 0) (ltN h1) (by rw [bAt_bytes]; exact h2), wrapN (by omega)]
      (refine ⟨?_, rfl, ?_, ?_, ?_, rfl⟩ <;> repeat' (first | exact trivial | (refine ⟨rfl, ?_⟩) | fail))
    · rename_i h1 h2
      have := ltN h1
      refine Again.mk (i + 1) (by omega) (by omega) ?_
      rw [pick_f (0, 0) (ltN h1) (by rw [bAt_bytes]; exact h2), wrapN (by omega)]
      (refine ⟨?_, rfl, ?_, ?_, ?_, rfl⟩ <;> repeat' (first | exact trivial | (refine ⟨rfl, ?_⟩) | fail))
    · rename_i h1
      have : i = (rMoves p side clock full).length := by have := geN h1; omega
      subst this
      show (⟨_, _, _, _⟩ : Row) = ⟨_, _, _, _⟩
      rw [pick_all (Nat.le_refl _)]; rfl
  · cases hcr
set_option maxHeartbeats 4000000 in
set_option maxRecDepth 20000 in
theorem okR6Apply (hS : Hyp G) : ConOK Tryz.prog G 40 cR6Apply := by
  refine seat_con hS.seat [(62, cRCheck), (23, cRSide), (32, cR5Fast), (24, cRKind), (34, cR6Moved)] [] ⟨okRCheck hS, okRSide hS, okR5Fast hS, okRKind hS, okR6Moved hS, trivial⟩ Tryz.func40 rfl rfl rfl ?_
  intro rvs cr hcr hpre
  unfold cR6Apply at hcr
  split at hcr
  · rename_i p side clock full fr to
    cases hcr
    refine ⟨⟨rfl, rfl, rfl⟩, fun c hc vs => ?_⟩
    repeat' (first | exact Bool.noConfusion ‹(!true) = true› | exact Bool.noConfusion ‹(!false) = false› | (intro h; exact h) | (intro h; rw [h]; rfl) | (intro h1 h2; rw [h1, h2]; rfl) | (intro _; assumption) | (intro _; exact rfl) | (intro h; exact Bool.noConfusion (h.symm.trans ‹_ = false›)) | refine ⟨fun _ => ?_, fun _ => ?_⟩ | refine ⟨?_⟩ | refine ⟨?_, ?_⟩ | fail)
    all_goals first | exact rfl | exact trivial | (have he := app_1 (fr := fr) (to := to) ‹(rCheck p side clock full != 0) = true›; first | exact chk_s (if_neg he.2).symm | exact chk_i (if_neg he.2).symm | exact chk_i he.1) | (have he := app_2 ‹(rCheck p side clock full != 0) = false› ‹(_ || (spKind (byteAt p to.toNat) == 75)) = true›; first | exact chk_s (if_neg he.2).symm | exact chk_i (if_neg he.2).symm | exact chk_i he.1) | skip
    all_goals
      have ho := pos_ok (bneF ‹(rCheck p side clock full != 0) = false›)
      have h90 := spIs_size ho.is
    iterate 7
      · intro h
        simp only [Bool.not_eq_true', Bool.or_eq_false_iff, decide_eq_false_iff_not] at h
        first | exact BY.at _ _ | exact ⟨h90, trivial, trivial⟩ | exact ⟨by omega, by omega, trivial⟩ | omega
    all_goals
      have hx := ‹(_ || (spKind (byteAt p to.toNat) == 75)) = false›
      have he := app_0 ‹(rCheck p side clock full != 0) = false› hx
      have hsq := app_sq (fr := fr) (to := to) (by simp only [Bool.or_eq_false_iff] at hx ⊢; exact hx.1.1.1)
      have hf := isSquare_iff.1 hsq.1
      have ht := isSquare_iff.1 hsq.2
    all_goals first | exact ⟨ho.is, trivial, trivial⟩ | exact ⟨hf.1, hf.2, trivial⟩ | exact ⟨ht.1, ht.2, trivial⟩ | omega | skip
    all_goals first
      | exact chk_s (if_pos he).symm
      | exact chk_i he.symm
      | exact chk_i (ho.sd.wrap.trans (if_pos he).symm)
      | exact chk_i ((nClock_t (by rw [bAt_bytes]; assumption)).symm.trans (if_pos he).symm)
      | exact chk_i ((nClock_f (by rw [bAt_bytes]; assumption) ho.cl).symm.trans (if_pos he).symm)
      | exact chk_i ((nFull_t ‹(side == 1) = true› ho.fl).symm.trans (if_pos he).symm)
      | exact chk_i ((nFull_f ‹(side == 1) = false›).symm.trans (if_pos he).symm)
      | exact chk_i ((bAt_bytes p to).symm.trans ((nTaken_t (by rw [bAt_bytes]; assumption)).symm.trans (if_pos he).symm))
      | exact chk_i ((nTaken_f (by rw [bAt_bytes]; assumption)).symm.trans (if_pos he).symm)
  · cases hcr
set_option maxHeartbeats 4000000 in
set_option maxRecDepth 20000 in
theorem okR8Make (hS : Hyp G) : ConOK Tryz.prog G 20 cR8Make := by
  refine seat_con hS.seat [(39, cRWell), (40, cR6Apply), (33, cR8Safe)] [] ⟨okRWell hS, okR6Apply hS, okR8Safe hS, trivial⟩ Tryz.func20 rfl rfl rfl ?_
  intro rvs cr hcr hpre
  unfold cR8Make at hcr
  split at hcr
  · rename_i p side clock full fr to
    cases hcr
    refine ⟨⟨rfl, rfl, rfl⟩, fun c hc vs => ?_⟩
    repeat' (first | exact Bool.noConfusion ‹(!true) = true› | exact Bool.noConfusion ‹(!false) = false› | (intro h; exact h) | (intro h; rw [h]; rfl) | (intro h1 h2; rw [h1, h2]; rfl) | (intro _; assumption) | (intro _; exact rfl) | (intro h; exact Bool.noConfusion (h.symm.trans ‹_ = false›)) | refine ⟨fun _ => ?_, fun _ => ?_⟩ | refine ⟨?_⟩ | refine ⟨?_, ?_⟩ | fail)
    all_goals first | exact rfl | exact trivial | (have he := make_1 (fr := fr) (to := to) ‹(rWell p side clock full != 0) = true›; first | exact chk_s (if_neg he.2).symm | exact chk_i (if_neg he.2).symm | exact chk_i he.1) | (have he := make_2 ‹(rWell p side clock full != 0) = false› ‹_›; first | exact chk_s (if_neg he.2).symm | exact chk_i (if_neg he.2).symm | exact chk_i he.1) | (have he := make_0 ‹(rWell p side clock full != 0) = false› ‹_›; first | exact chk_s ((if_pos he.2).trans (if_pos he.1).symm) | exact chk_i ((if_pos he.2).trans (if_pos he.1).symm) | exact chk_i he.1.symm) | skip
  · cases hcr
end
end Go.X

namespace Go.X
open Go

theorem bAt_list {b : List Int} (hb : b.length = 90) : sqs.map (bAt b) = b := by
  apply List.ext_getElem
  · simp [sqs, hb]
  · intro i h1 h2
    simp only [sqs, List.getElem_map, List.getElem_range]
    show b.getD (Int.toNat (Int.ofNat i)) 0 = b[i]
    rw [List.getD_eq_getElem?_getD]
    show b[i]?.getD 0 = b[i]
    rw [List.getElem?_eq_getElem h2]; rfl
theorem dCnt_count {b : List Int} (hb : b.length = 90) (c : Int) : dCnt b c = (b.count c : Nat) := by
  unfold dCnt
  congr 1
  conv => rhs; rw [← bAt_list hb]
  rw [List.count_eq_countP, List.countP_map, List.countP_eq_length_filter]
  rfl
theorem bAt_get {b : List Int} {n : Int} (hb : b.length = 90) (hn : Sqr n) : ∃ h : n.toNat < b.length, bAt b n = b[n.toNat] := by
  have h1 := hn.lo; have h2 := hn.hi
  refine ⟨by omega, ?_⟩
  unfold bAt
  rw [List.getD_eq_getElem?_getD, List.getElem?_eq_getElem (by omega)]; rfl
theorem cnt_set {b : List Int} {n c x : Int} (hb : b.length = 90) (hn : Sqr n) : dCnt (b.set n.toNat x) c = dCnt b c - (if bAt b n = c then 1 else 0) + (if x = c then 1 else 0) := by
  obtain ⟨h, e⟩ := bAt_get hb hn
  rw [dCnt_count (by rw [List.length_set]; exact hb), dCnt_count hb, List.count_set (h := h), e]
  have hp : b[n.toNat] = c → 0 < b.count c := fun h' => List.count_pos_iff.2 (h' ▸ List.getElem_mem h)
  by_cases h1 : b[n.toNat] = c
  · have := hp h1
    rw [if_pos h1, if_pos (by simpa using h1)]
    by_cases h2 : x = c
    · rw [if_pos h2, if_pos (by simpa using h2)]; omega
    · rw [if_neg h2, if_neg (by simpa using h2)]; omega
  · rw [if_neg h1, if_neg (by simpa using h1)]
    by_cases h2 : x = c
    · rw [if_pos h2, if_pos (by simpa using h2)]; omega
    · rw [if_neg h2, if_neg (by simpa using h2)]; omega
theorem cnt_moved {b : List Int} {fr to c : Int} (hb : b.length = 90) (hf : Sqr fr) (ht : Sqr to) (hne : to ≠ fr) (hc : c ≠ 46) : dCnt (dMoved b fr to) c = dCnt b c - (if bAt b to = c then 1 else 0) := by
  unfold dMoved
  have hb' : (b.set to.toNat (bAt b fr)).length = 90 := by rw [List.length_set]; exact hb
  have e : bAt (b.set to.toNat (bAt b fr)) fr = bAt b fr := by rw [bAt_set hb ht hf.lo, if_neg (fun e => hne e.symm)]
  rw [cnt_set hb' hf, cnt_set hb ht, e, if_neg (fun h : (46 : Int) = c => hc h.symm)]
  omega
theorem bAt_moved {b : List Int} {fr to n : Int} (hb : b.length = 90) (hf : Sqr fr) (ht : Sqr to) (hn : 0 ≤ n) : bAt (dMoved b fr to) n = if n = fr then 46 else if n = to then bAt b fr else bAt b n := by
  unfold dMoved
  have hb' : (b.set to.toNat (bAt b fr)).length = 90 := by rw [List.length_set]; exact hb
  rw [bAt_set hb' hf hn, bAt_set hb ht hn]
theorem fast_ne {b : List Int} {fr to : Int} (h : dFast b fr to = true) : to ≠ fr ∧ 0 ≤ spSide (bAt b fr) ∧ spSide (bAt b to) ≠ spSide (bAt b fr) ∧ dReach b (bAt b fr) fr to = true := by
  unfold dFast at h
  simp only [Bool.and_eq_true, decide_eq_true_eq] at h
  have h2 := bneT h.1.2
  exact ⟨fun e => h2 (by rw [e]), h.1.1, h2, h.2⟩
theorem pawn_tab : ∀ n : Nat, n < 90 → ∀ t : Nat, t < 90 → ((spMay 80 n = true → dPawnCan 0 n t = true → spMay 80 t = true) ∧ (spMay 112 n = true → dPawnCan 1 n t = true → spMay 112 t = true)) := by decide +kernel
theorem kind_tab2 : ∀ n : Nat, n < 256 → (spKind (n : Int) = 80 → (spSide (n : Int) = 0 ∧ n = 80) ∨ (spSide (n : Int) = 1 ∧ n = 112)) := by decide +kernel
theorem may_moved {b : List Int} {fr to : Int} (hf : Sqr fr) (ht : Sqr to) (hby : BY (bAt b fr)) (h : dFast b fr to = true) (hm : spMay (bAt b fr) fr = true) : spMay (bAt b fr) to = true := by
  obtain ⟨_, h1, _, h3⟩ := fast_ne h
  have hb1 := hby.lo; have hb2 := hby.hi
  have f1 := hf.lo; have f2 := hf.hi; have t1 := ht.lo; have t2 := ht.hi
  generalize bAt b fr = pc at *
  have hk := side_kinds pc.toNat (by omega)
  have hk2 := kind_tab2 pc.toNat (by omega)
  rw [show ((pc.toNat : Nat) : Int) = pc by omega] at hk hk2
  have hok : spOk to (spSide pc) = true := by
    have := side_bd pc
    unfold spOk
    simp only [Bool.and_eq_true, Bool.or_eq_true, decide_eq_true_eq, beq_iff_eq]
    omega
  have free : spKind pc = 78 ∨ spKind pc = 82 ∨ spKind pc = 67 → spMay pc to = true := fun hk => by
    unfold spMay
    rw [if_pos hok, if_neg (by omega), if_neg (by omega), if_neg (by omega), if_neg (by omega)]
  unfold dReach at h3
  rcases hk h1 with hk | hk | hk | hk | hk | hk | hk
  · rw [if_pos hk] at h3; simp only [Bool.and_eq_true] at h3; exact h3.2
  · rw [if_neg (by omega), if_pos hk] at h3; simp only [Bool.and_eq_true] at h3; exact h3.2
  · rw [if_neg (by omega), if_neg (by omega), if_pos hk] at h3; simp only [Bool.and_eq_true] at h3; exact h3.1.2
  · exact free (.inl hk)
  · exact free (.inr (.inl hk))
  · exact free (.inr (.inr hk))
  · rw [if_neg (by omega), if_neg (by omega), if_neg (by omega), if_neg (by omega), if_neg (by omega), if_neg (by omega)] at h3
    have tb := pawn_tab fr.toNat (by omega) to.toNat (by omega)
    rw [show ((fr.toNat : Nat) : Int) = fr by omega, show ((to.toNat : Nat) : Int) = to by omega] at tb
    rcases hk2 hk with ⟨hs, hp⟩ | ⟨hs, hp⟩
    · have hp : pc = 80 := by omega
      rw [hs] at h3; rw [hp] at hm ⊢; exact tb.1 hm h3
    · have hp : pc = 112 := by omega
      rw [hs] at h3; rw [hp] at hm ⊢; exact tb.2 hm h3
theorem letL_ne : ∀ c ∈ letL, c ≠ 46 := by decide
theorem check_iff {b : List Int} : dCheck b = 0 ↔ (∀ c ∈ letL, dBadN b c = false) ∧ ∀ n, Sqr n → dBadP b n = false := by
  unfold dCheck
  constructor
  · intro h
    split at h
    · cases h
    · rename_i h1
      split at h
      · cases h
      · rename_i h2
        have h1 : letL.any (dBadN b) = false := by simpa using h1
        have h2 : sqs.any (dBadP b) = false := by simpa using h2
        rw [List.any_eq_false] at h1 h2
        exact ⟨fun c hc => by simpa using h1 c hc, fun n hn => by simpa using h2 n (mem_sqs.2 ⟨hn.lo, hn.hi⟩)⟩
  · rintro ⟨h1, h2⟩
    have h1 : letL.any (dBadN b) = false := by rw [List.any_eq_false]; intro c hc; rw [h1 c hc]; exact Bool.noConfusion
    have h2 : sqs.any (dBadP b) = false := by rw [List.any_eq_false]; intro n hn; have := mem_sqs.1 hn; rw [h2 n ⟨this.1, this.2⟩]; exact Bool.noConfusion
    rw [if_neg (by rw [h1]; exact Bool.noConfusion), if_neg (by rw [h2]; exact Bool.noConfusion)]
theorem check_moved {b : List Int} {fr to : Int} (hb : b.length = 90) (hby : ∀ n, BY (bAt b n)) (hf : Sqr fr) (ht : Sqr to) (h : dFast b fr to = true) (hk : spKind (bAt b to) ≠ 75) (hc : dCheck b = 0) : dCheck (dMoved b fr to) = 0 := by
  obtain ⟨hne, h1, h2, _⟩ := fast_ne h
  rw [check_iff] at hc ⊢
  constructor
  · intro c hcl
    have hq := hc.1 c hcl
    unfold dBadN at hq ⊢
    simp only [Bool.or_eq_false_iff, decide_eq_false_iff_not, Bool.and_eq_false_iff, beq_eq_false_iff_ne, bne_eq_false_iff_eq] at hq ⊢
    rw [cnt_moved hb hf ht hne (letL_ne c hcl)]
    refine ⟨by split <;> omega, ?_⟩
    rcases hq.2 with h | h
    · exact .inl h
    · by_cases h3 : bAt b to = c
      · left; rw [← h3]; exact hk
      · right; rw [if_neg h3, h]; rfl
  · intro n hn
    have hq := hc.2 n hn
    unfold dBadP
    rw [bAt_moved hb hf ht hn.lo]
    by_cases hnf : n = fr
    · rw [if_pos hnf]; rfl
    · rw [if_neg hnf]
      by_cases hnt : n = to
      · rw [if_pos hnt, hnt]
        have h46 : bAt b fr ≠ 46 := fun e => by rw [e] at h1; revert h1; decide
        have hm : spMay (bAt b fr) fr = true := by
          have := hc.2 fr hf
          unfold dBadP at this
          rw [show (bAt b fr != 46) = true by simpa using h46, Bool.true_and] at this
          exact bn this
        rw [may_moved hf ht (hby fr) h hm]; simp
      · rw [if_neg hnt]; exact hq
theorem bAt_by (p : ByteArray) (n : Int) : BY (bAt (bytesL p) n) := by rw [bAt_bytes]; exact BY.at _ _
theorem SD.turn {s : Int} (h : SD s) : SD (1 - s) := ⟨by rcases h.is with h | h <;> omega, trivial, trivial⟩
theorem rWell_of {p : ByteArray} {side clock full : Int} (h1 : rArg p side clock full = false) (h2 : dCheck (bytesL p) = 0) (h3 : spFacing p = false) (h4 : spIn p (1 - side) = false) : rWell p side clock full = 0 := by
  have hc : rCheck p side clock full = 0 := by unfold rCheck; rw [h1, if_neg Bool.noConfusion, h2]
  unfold rWell; rw [if_neg (by simp [hc]), h3, h4]; rfl
theorem nClock_bd {b : List Int} {clock to : Int} (h : 0 ≤ clock ∧ clock ≤ 120) : 0 ≤ nClock b clock to ∧ nClock b clock to ≤ 120 := by unfold nClock; split <;> (try split) <;> omega
theorem nFull_bd {side full : Int} (h : 1 ≤ full ∧ full ≤ 9999) : 1 ≤ nFull side full ∧ nFull side full ≤ 9999 := by unfold nFull; split <;> (try split) <;> omega
theorem rArg_of {p : ByteArray} {side clock full : Int} (h : PosOk p side clock full) : rArg p side clock full = false := by
  unfold rArg
  rw [h.is]
  have := h.sd.is; have := h.cl; have := h.fl
  simp only [Bool.not_true, Bool.false_or, Bool.or_eq_false_iff, decide_eq_false_iff_not]
  omega
theorem gcan_parts {p : ByteArray} {side fr to : Int} (h : spGCan p side fr to = true) : spSide (bAt (bytesL p) fr) = side ∧ dFast (bytesL p) fr to = true ∧ spKind (bAt (bytesL p) to) ≠ 75 ∧ spFacing (spMoved p fr to) = false ∧ spIn (spMoved p fr to) side = false := by
  obtain ⟨h1, h2, h3, h4⟩ := gcan_ok h
  rw [gcan_canon h1 h2 h3, dCan, ← safe_canon h1 h2 h3, ← safe_form] at h
  simp only [Bool.and_eq_true] at h
  rw [← bAt_bytes] at h
  exact ⟨beqT h.1.1.2, h.1.2, bneT h.2.1, bt h.2.2.1, bt h.2.2.2⟩
theorem well_moved {p : ByteArray} {side clock full fr to : Int} (hw : rWell p side clock full = 0) (h : spGCan p side fr to = true) : rWell (spMoved p fr to) (1 - side) (nClock (bytesL p) clock to) (nFull side full) = 0 := by
  obtain ⟨hc, _, _⟩ := rWell_check hw
  have ho := pos_ok hc
  obtain ⟨h1, h2, h3, h4⟩ := gcan_ok h
  obtain ⟨g1, g2, g3, g4, g5⟩ := gcan_parts h
  obtain ⟨e1, e2⟩ := moved_canon h1 h2 h3
  refine rWell_of (rArg_of ⟨e2, ho.sd.turn, nClock_bd ho.cl, nFull_bd ho.fl⟩) ?_ g4 (by rw [show 1 - (1 - side) = side by omega]; exact g5)
  rw [e1]
  exact check_moved ((bytesL_len p).trans (spIs_size h1)) (bAt_by p) h2 h3 g2 g3 (rCheck_arg hc).2
theorem guarded_iff {p : ByteArray} {side fr to : Int} (h : spGCan p side fr to = true) : spGuarded p fr to = true ↔ ∃ n, spGCan (spMoved p fr to) (1 - side) n to = true := by
  obtain ⟨h1, h2, h3, h4⟩ := gcan_ok h
  obtain ⟨g1, _⟩ := gcan_parts h
  rw [bAt_bytes] at g1
  rw [guarded_form h1 ⟨h2.lo, h2.hi, trivial⟩ ⟨h3.lo, h3.hi, trivial⟩ (by rw [g1]; exact h), g1, List.any_eq_true]
  constructor
  · rintro ⟨n, _, hn⟩; simp only [Bool.and_eq_true] at hn; exact ⟨n, hn.2⟩
  · rintro ⟨n, hn⟩
    obtain ⟨q1, q2, _, _⟩ := gcan_ok hn
    have := (gcan_parts hn).1
    rw [bAt_bytes] at this
    refine ⟨n, mem_sqs.2 ⟨q2.lo, q2.hi⟩, ?_⟩
    rw [this, hn]; simp
end Go.X

namespace Go.X
open Go

def swp (c : Int) : Int := if spSide c = 0 then c + 32 else if spSide c = 1 then c - 32 else c
def dTurn (b : List Int) : List Int := (b.map swp).reverse
theorem swp_tab : ∀ n : Nat, n < 256 → (0 ≤ swp n ∧ swp n < 256 ∧ (spSide n = 0 → spSide (swp n) = 1) ∧ (spSide n = 1 → spSide (swp n) = 0) ∧ (spSide n = -1 → spSide (swp n) = -1) ∧ spKind (swp n) = spKind n ∧ (swp n = 46 ↔ (n : Int) = 46) ∧ swp (swp n) = n ∧ (spIsCell (n : Int) = true → spIsCell (swp n) = true)) := by decide +kernel
theorem swp_ok {c : Int} (h : BY c) : 0 ≤ swp c ∧ swp c < 256 ∧ (spSide c = 0 → spSide (swp c) = 1) ∧ (spSide c = 1 → spSide (swp c) = 0) ∧ (spSide c = -1 → spSide (swp c) = -1) ∧ spKind (swp c) = spKind c ∧ (swp c = 46 ↔ c = 46) ∧ swp (swp c) = c ∧ (spIsCell c = true → spIsCell (swp c) = true) := by
  have h1 := h.lo; have h2 := h.hi
  have := swp_tab c.toNat (by omega)
  rwa [show ((c.toNat : Nat) : Int) = c by omega] at this
theorem swp_inj {c d : Int} (h : BY c) (h' : BY d) (e : swp c = swp d) : c = d := by rw [← (swp_ok h).2.2.2.2.2.2.2.1, e, (swp_ok h').2.2.2.2.2.2.2.1]
structure BL (b : List Int) : Prop where
  len : b.length = 90
  by' : ∀ n, BY (bAt b n)
theorem turn_len {b : List Int} (h : b.length = 90) : (dTurn b).length = 90 := by unfold dTurn; rw [List.length_reverse, List.length_map]; exact h
theorem Sqr.turn {n : Int} (h : Sqr n) : Sqr (89 - n) := by have := h.lo; have := h.hi; exact ⟨by omega, by omega⟩
theorem bAt_turn {b : List Int} (h : b.length = 90) {n : Int} (hn : Sqr n) : bAt (dTurn b) n = swp (bAt b (89 - n)) := by
  have h1 := hn.lo; have h2 := hn.hi
  obtain ⟨g, e⟩ := bAt_get h hn.turn
  obtain ⟨g', e'⟩ := bAt_get (turn_len h) hn
  rw [e, e']
  have g2 : n.toNat < (b.map swp).reverse.length := g'
  show (b.map swp).reverse[n.toNat]'g2 = _
  rw [List.getElem_reverse, List.getElem_map]
  congr 2
  rw [List.length_map, h]; omega
theorem BL.turn {b : List Int} (h : BL b) : BL (dTurn b) := by
  refine ⟨turn_len h.len, fun n => ?_⟩
  by_cases hn : n.toNat < 90
  · have e : bAt (dTurn b) n = bAt (dTurn b) (n.toNat : Int) := by unfold bAt; rw [Int.toNat_natCast]
    rw [e, bAt_turn h.len ⟨by omega, by omega⟩]
    have := swp_ok (h.by' (89 - (n.toNat : Int)))
    exact ⟨this.1, this.2.1, trivial⟩
  · have : bAt (dTurn b) n = 0 := by
      unfold bAt
      rw [List.getD_eq_getElem?_getD, List.getElem?_eq_none (by rw [turn_len h.len]; omega)]; rfl
    rw [this]; exact ⟨by decide, by decide, trivial⟩
theorem side_turn {b : List Int} (h : BL b) {n s : Int} (hn : Sqr n) (hs : SD s) : (spSide (bAt (dTurn b) n) == 1 - s) = (spSide (bAt b (89 - n)) == s) := by
  rw [bAt_turn h.len hn]
  have hb := side_bd (bAt b (89 - n))
  have hw := swp_ok (h.by' (89 - n))
  rw [Bool.eq_iff_iff, beq_iff_eq, beq_iff_eq]
  have : spSide (bAt b (89 - n)) = -1 ∨ spSide (bAt b (89 - n)) = 0 ∨ spSide (bAt b (89 - n)) = 1 := by omega
  rcases hs.is with rfl | rfl <;> rcases this with e | e | e
  · have := hw.2.2.2.2.1 e; omega
  · have := hw.2.2.1 e; omega
  · have := hw.2.2.2.1 e; omega
  · have := hw.2.2.2.2.1 e; omega
  · have := hw.2.2.1 e; omega
  · have := hw.2.2.2.1 e; omega
def cntR (f : Nat → Bool) (k : Nat) : Nat := ((List.range k).filter f).length
theorem cntR_rev (f : Nat → Bool) (k : Nat) : cntR (fun i => f (k - 1 - i)) k = cntR f k := by
  unfold cntR
  have e : List.range k = ((List.range k).map fun i => k - 1 - i).reverse := by
    apply List.ext_getElem
    · simp
    · intro i h1 h2
      simp only [List.length_range] at h1
      rw [List.getElem_reverse]
      simp only [List.getElem_map, List.getElem_range, List.length_map, List.length_range]
      omega
  conv => rhs; rw [e, List.filter_reverse, List.length_reverse, List.filter_map, List.length_map]
  rfl
theorem cntR_congr {f g : Nat → Bool} {k : Nat} (h : ∀ i, i < k → f i = g i) : cntR f k = cntR g k := by
  unfold cntR
  congr 1
  exact List.filter_congr fun i hi => h i (List.mem_range.1 hi)
theorem dCount_cntR (b : List Int) (s : Int) : ∀ (k : Nat) (lo : Int), dCount b s k lo = (cntR (fun i => bAt b (lo + i * s) != 46) k : Nat) := by
  intro k
  induction k with
  | zero => intro lo; rfl
  | succ k ih =>
    intro lo
    rw [dCount, ih]
    unfold cntR
    rw [List.range_succ_eq_map]
    have e0 : lo + ((0 : Nat) : Int) * s = lo := by simp
    have e : (List.filter (fun i : Nat => bAt b (lo + i * s) != 46) ((List.range k).map Nat.succ)).length = (List.filter (fun i : Nat => bAt b (lo + s + i * s) != 46) (List.range k)).length := by
      rw [List.filter_map, List.length_map]
      congr 1
      apply List.filter_congr
      intro i _
      show (bAt b (lo + ((i + 1 : Nat) : Int) * s) != 46) = _
      rw [show ((i + 1 : Nat) : Int) = (i : Int) + 1 by omega, Int.add_mul, Int.one_mul, show lo + ((i : Int) * s + s) = lo + s + i * s by omega]
    by_cases h : bAt b lo = 46
    · rw [if_pos h, List.filter_cons_of_neg (by rw [e0]; simp [h]), e]; omega
    · rw [if_neg h, List.filter_cons_of_pos (by rw [e0]; simpa using h), List.length_cons, e]; omega
theorem count_turn {b : List Int} (h : BL b) (s : Int) (k : Nat) (lo : Int) (hq : ∀ i : Nat, i < k → Sqr (lo + i * s)) : dCount (dTurn b) s k (89 - lo - ((k : Int) - 1) * s) = dCount b s k lo := by
  rw [dCount_cntR, dCount_cntR, ← cntR_rev (fun i => bAt b (lo + i * s) != 46)]
  congr 1
  apply cntR_congr
  intro i hi
  have e : lo + ((k - 1 - i : Nat) : Int) * s = 89 - (89 - lo - ((k : Int) - 1) * s + (i : Int) * s) := by
    rw [show ((k - 1 - i : Nat) : Int) = (k : Int) - 1 - i by omega, Int.sub_mul ((k : Int) - 1) (i : Int) s]
    generalize ((k : Int) - 1) * s = x
    generalize (i : Int) * s = y
    omega
  have hs := hq (k - 1 - i) (by omega)
  have hs' : Sqr (89 - lo - ((k : Int) - 1) * s + (i : Int) * s) := by
    rw [e] at hs
    have := hs.turn
    rwa [show (89 : Int) - (89 - (89 - lo - ((k : Int) - 1) * s + (i : Int) * s)) = 89 - lo - ((k : Int) - 1) * s + (i : Int) * s by omega] at this
  rw [bAt_turn h.len hs', e, Bool.eq_iff_iff, bne_iff_ne, bne_iff_ne, Ne, Ne, (swp_ok (h.by' _)).2.2.2.2.2.2.1]
theorem between_turn {b : List Int} (h : BL b) {fr to : Int} (hf : Sqr fr) (ht : Sqr to) : dBetween (dTurn b) (89 - fr) (89 - to) = dBetween b fr to := by
  have f1 := hf.lo; have f2 := hf.hi; have t1 := ht.lo; have t2 := ht.hi
  have hmm : (imin fr to = fr ∧ imax fr to = to ∧ fr ≤ to ∧ imin (89 - fr) (89 - to) = 89 - to ∧ imax (89 - fr) (89 - to) = 89 - fr) ∨ (imin fr to = to ∧ imax fr to = fr ∧ to ≤ fr ∧ imin (89 - fr) (89 - to) = 89 - fr ∧ imax (89 - fr) (89 - to) = 89 - to) := by
    unfold imin imax; split <;> split <;> (try split) <;> (try split) <;> omega
  unfold dBetween
  by_cases he : fr = to
  · rw [if_pos he, if_pos (by omega)]
  · rw [if_neg he, if_neg (by omega)]
    by_cases hr : fr / 9 = to / 9
    · rw [if_pos hr, if_pos (by omega)]
      rcases hmm with ⟨e1, e2, e3, e4, e5⟩ | ⟨e1, e2, e3, e4, e5⟩
      · rw [e1, e2, e4, e5, show (89 - fr - (89 - to) - 1).toNat = (to - fr - 1).toNat by omega]
        have := count_turn h 1 (to - fr - 1).toNat (fr + 1) (fun i hi => ⟨by omega, by omega⟩)
        rw [← this]; congr 1; omega
      · rw [e1, e2, e4, e5, show (89 - to - (89 - fr) - 1).toNat = (fr - to - 1).toNat by omega]
        have := count_turn h 1 (fr - to - 1).toNat (to + 1) (fun i hi => ⟨by omega, by omega⟩)
        rw [← this]; congr 1; omega
    · rw [if_neg hr, if_neg (by omega)]
      by_cases hc : fr % 9 = to % 9
      · rw [if_pos hc, if_pos (by omega)]
        rcases hmm with ⟨e1, e2, e3, e4, e5⟩ | ⟨e1, e2, e3, e4, e5⟩
        · rw [e1, e2, e4, e5, show ((89 - fr - (89 - to)) / 9 - 1).toNat = ((to - fr) / 9 - 1).toNat by omega]
          have := count_turn h 9 ((to - fr) / 9 - 1).toNat (fr + 9) (fun i hi => ⟨by omega, by omega⟩)
          rw [← this]; congr 1; omega
        · rw [e1, e2, e4, e5, show ((89 - to - (89 - fr)) / 9 - 1).toNat = ((fr - to) / 9 - 1).toNat by omega]
          have := count_turn h 9 ((fr - to) / 9 - 1).toNat (to + 9) (fun i hi => ⟨by omega, by omega⟩)
          rw [← this]; congr 1; omega
      · rw [if_neg hc, if_neg (by omega)]
theorem may_tab : ∀ c ∈ letL, ∀ n : Nat, n < 90 → spMay (swp c) (89 - (n : Int)) = spMay c n := by decide +kernel
theorem let_tab : ∀ n : Nat, n < 256 → 0 ≤ spSide (n : Int) → (n : Int) ∈ letL := by decide +kernel
theorem may_turn {c n : Int} (hc : BY c) (hs : 0 ≤ spSide c) (hn : Sqr n) : spMay (swp c) (89 - n) = spMay c n := by
  have h1 := hc.lo; have h2 := hc.hi; have h3 := hn.lo; have h4 := hn.hi
  have hl := let_tab c.toNat (by omega)
  rw [show ((c.toNat : Nat) : Int) = c by omega] at hl
  have := may_tab c (hl hs) n.toNat (by omega)
  rwa [show ((n.toNat : Nat) : Int) = n by omega] at this
theorem over_tab : ∀ n : Nat, n < 90 → spOver (89 - (n : Int)) 1 = spOver n 0 ∧ spOver (89 - (n : Int)) 0 = spOver n 1 := by decide +kernel
theorem over_turn {n s : Int} (hn : Sqr n) (hs : SD s) : spOver (89 - n) (1 - s) = spOver n s := by
  have h3 := hn.lo; have h4 := hn.hi
  have := over_tab n.toNat (by omega)
  rw [show ((n.toNat : Nat) : Int) = n by omega] at this
  rcases hs.is with rfl | rfl
  · exact this.1
  · exact this.2
theorem away_turn {a b k : Int} : away (k - a) (k - b) = away a b := by unfold away; split <;> split <;> omega
theorem files {n : Int} (hn : Sqr n) : (89 - n) % 9 = 8 - n % 9 ∧ (89 - n) / 9 = 9 - n / 9 := by
  have h3 := hn.lo; have h4 := hn.hi
  omega
theorem horse_turn {b : List Int} (h : BL b) {fr to : Int} (hf : Sqr fr) (ht : Sqr to) : dHorse (dTurn b) (89 - fr) (89 - to) = dHorse b fr to := by
  have f1 := hf.lo; have f2 := hf.hi; have t1 := ht.lo; have t2 := ht.hi
  unfold dHorse
  rw [(files hf).1, (files ht).1, (files hf).2, (files ht).2, away_turn, away_turn]
  have key : ∀ n : Int, Sqr n → (bAt (dTurn b) (89 - n) == 46) = (bAt b n == 46) := fun n hn => by
    rw [bAt_turn h.len hn.turn, show 89 - (89 - n) = n by omega, Bool.eq_iff_iff, beq_iff_eq, beq_iff_eq, (swp_ok (h.by' _)).2.2.2.2.2.2.1]
  by_cases h1 : away (fr % 9) (to % 9) = 1 ∧ away (fr / 9) (to / 9) = 2
  · rw [if_pos h1, if_pos h1]
    simp only [away1, away2] at h1
    by_cases h2 : to / 9 > fr / 9
    · rw [if_pos h2, if_neg (by omega), show 89 - fr - 9 = 89 - (fr + 9) by omega, key _ ⟨by omega, by omega⟩]
    · rw [if_neg h2, if_pos (by omega), show 89 - fr + 9 = 89 - (fr - 9) by omega, key _ ⟨by omega, by omega⟩]
  · rw [if_neg h1, if_neg h1]
    by_cases h1 : away (fr % 9) (to % 9) = 2 ∧ away (fr / 9) (to / 9) = 1
    · rw [if_pos h1, if_pos h1]
      simp only [away1, away2] at h1
      by_cases h2 : to % 9 > fr % 9
      · rw [if_pos h2, if_neg (by omega), show 89 - fr - 1 = 89 - (fr + 1) by omega, key _ ⟨by omega, by omega⟩]
      · rw [if_neg h2, if_pos (by omega), show 89 - fr + 1 = 89 - (fr - 1) by omega, key _ ⟨by omega, by omega⟩]
    · rw [if_neg h1, if_neg h1]
theorem pawn_turn {s fr to : Int} (hf : Sqr fr) (ht : Sqr to) (hs : SD s) : dPawnCan (1 - s) (89 - fr) (89 - to) = dPawnCan s fr to := by
  unfold dPawnCan
  rw [over_turn hf hs, (files hf).2, (files ht).2, away_turn]
  have e1 : (89 - to == 89 - fr + if 1 - s = 1 then -9 else 9) = (to == fr + if s = 1 then -9 else 9) := by
    rw [Bool.eq_iff_iff, beq_iff_eq, beq_iff_eq]
    rcases hs.is with rfl | rfl
    · rw [if_pos (by decide), if_neg (by decide)]; omega
    · rw [if_neg (by decide), if_pos (by decide)]; omega
  have e2 : ((9 : Int) - fr / 9 == 9 - to / 9) = (fr / 9 == to / 9) := by rw [Bool.eq_iff_iff, beq_iff_eq, beq_iff_eq]; omega
  rw [e1, e2]
theorem dot_turn {b : List Int} (h : BL b) {n : Int} (hn : Sqr n) : (bAt (dTurn b) (89 - n) = 46) ↔ bAt b n = 46 := by
  rw [bAt_turn h.len hn.turn, show 89 - (89 - n) = n by omega, (swp_ok (h.by' _)).2.2.2.2.2.2.1]
theorem reach_turn {b : List Int} (h : BL b) {pc fr to : Int} (hp : BY pc) (hs : 0 ≤ spSide pc) (hf : Sqr fr) (ht : Sqr to) : dReach (dTurn b) (swp pc) (89 - fr) (89 - to) = dReach b pc fr to := by
  have f1 := hf.lo; have f2 := hf.hi; have t1 := ht.lo; have t2 := ht.hi
  have hw := swp_ok hp
  have hsd := side_bd pc
  have hside : spSide (swp pc) = 1 - spSide pc := by
    have : spSide pc = 0 ∨ spSide pc = 1 := by omega
    rcases this with e | e
    · rw [hw.2.2.1 e, e]; rfl
    · rw [hw.2.2.2.1 e, e]; rfl
  unfold dReach
  rw [hw.2.2.2.2.2.1, (files hf).1, (files ht).1, (files hf).2, (files ht).2, away_turn, away_turn, may_turn hp hs ht, horse_turn h hf ht, between_turn h hf ht, hside, pawn_turn hf ht ⟨by omega, trivial, trivial⟩]
  have hd := dot_turn h ht
  have e1 : (bAt (dTurn b) (89 - to) == 46) = (bAt b to == 46) := by rw [Bool.eq_iff_iff, beq_iff_eq, beq_iff_eq]; exact hd
  have e2 : (bAt (dTurn b) (89 - to) != 46) = (bAt b to != 46) := by rw [bne, bne, e1]
  rw [e1, e2]
  by_cases hk : spKind pc = 66
  · rw [if_neg (by omega), if_neg (by omega), if_pos hk, if_neg (by omega), if_neg (by omega), if_pos hk]
    by_cases hq : (away (fr % 9) (to % 9) == 2) = true ∧ (away (fr / 9) (to / 9) == 2) = true
    · have q1 := away2.1 (beqT hq.1); have q2 := away2.1 (beqT hq.2)
      have hm : Sqr ((fr + to) / 2) := ⟨by omega, by omega⟩
      have e3 : (89 - fr + (89 - to)) / 2 = 89 - (fr + to) / 2 := by omega
      rw [e3]
      congr 1
      rw [Bool.eq_iff_iff, beq_iff_eq, beq_iff_eq]; exact dot_turn h hm
    · have : ((away (fr % 9) (to % 9) == 2) && (away (fr / 9) (to / 9) == 2)) = false := by
        cases h1 : (away (fr % 9) (to % 9) == 2) <;> cases h2 : (away (fr / 9) (to / 9) == 2) <;> simp_all
      rw [this]; simp
  · simp only [if_neg hk]
theorem fast_turn {b : List Int} (h : BL b) {fr to : Int} (hf : Sqr fr) (ht : Sqr to) : dFast (dTurn b) (89 - fr) (89 - to) = dFast b fr to := by
  unfold dFast
  rw [bAt_turn h.len hf.turn, bAt_turn h.len ht.turn, show 89 - (89 - fr) = fr by omega, show 89 - (89 - to) = to by omega]
  have hw := swp_ok (h.by' fr); have hw' := swp_ok (h.by' to)
  have hb := side_bd (bAt b fr); have hb' := side_bd (bAt b to)
  by_cases hs : 0 ≤ spSide (bAt b fr)
  · rw [reach_turn h (h.by' fr) hs hf ht]
    have c1 : spSide (bAt b fr) = 0 ∨ spSide (bAt b fr) = 1 := by omega
    have c2 : spSide (bAt b to) = -1 ∨ spSide (bAt b to) = 0 ∨ spSide (bAt b to) = 1 := by omega
    congr 1
    rcases c1 with e | e <;> rcases c2 with e' | e' | e'
    · rw [e, e', hw.2.2.1 e, hw'.2.2.2.2.1 e']; rfl
    · rw [e, e', hw.2.2.1 e, hw'.2.2.1 e']; rfl
    · rw [e, e', hw.2.2.1 e, hw'.2.2.2.1 e']; rfl
    · rw [e, e', hw.2.2.2.1 e, hw'.2.2.2.2.1 e']; rfl
    · rw [e, e', hw.2.2.2.1 e, hw'.2.2.1 e']; rfl
    · rw [e, e', hw.2.2.2.1 e, hw'.2.2.2.1 e']; rfl
  · have : spSide (bAt b fr) = -1 := by omega
    rw [hw.2.2.2.2.1 this, this]; rfl
end Go.X

namespace Go.X
open Go

theorem ext_bAt {b c : List Int} (hb : b.length = 90) (hc : c.length = 90) (h : ∀ n, Sqr n → bAt b n = bAt c n) : b = c := by
  rw [← bAt_list hb, ← bAt_list hc]
  exact List.map_congr_left fun n hn => h n ⟨(mem_sqs.1 hn).1, (mem_sqs.1 hn).2⟩
theorem turn_turn {b : List Int} (h : BL b) : dTurn (dTurn b) = b := by
  refine ext_bAt (turn_len (turn_len h.len)) h.len fun n hn => ?_
  rw [bAt_turn (turn_len h.len) hn, bAt_turn h.len hn.turn, show 89 - (89 - n) = n by omega, (swp_ok (h.by' n)).2.2.2.2.2.2.2.1]
theorem sqs_turn : sqs = (sqs.reverse).map (89 - ·) := by decide
theorem filter_turn (f : Int → Bool) : sqs.filter (fun n => f (89 - n)) = ((sqs.filter f).reverse).map (89 - ·) := by
  have e : sqs.filter (fun n => f (89 - n)) = ((sqs.reverse).map (89 - ·)).filter (fun n => f (89 - n)) := by rw [← sqs_turn]
  rw [e, List.filter_map, ← List.filter_reverse]
  congr 2
  funext n
  show f (89 - (89 - n)) = f n
  rw [show 89 - (89 - n) = n by omega]
theorem filter_turn' {f g : Int → Bool} (h : ∀ n, Sqr n → g n = f (89 - n)) : sqs.filter g = ((sqs.filter f).reverse).map (89 - ·) := by
  rw [← filter_turn]
  exact List.filter_congr fun n hn => h n ⟨(mem_sqs.1 hn).1, (mem_sqs.1 hn).2⟩
structure OneG (b : List Int) : Prop where
  red : dCnt b 75 ≤ 1
  black : dCnt b 107 ≤ 1
def kOf (s : Int) : Int := if s = 0 then 75 else 107
theorem kOf_by (s : Int) : BY (kOf s) := by unfold kOf; split <;> exact ⟨by decide, by decide, trivial⟩
theorem kOf_swp {s : Int} (h : SD s) : swp (kOf s) = kOf (1 - s) := by rcases h.is with rfl | rfl <;> decide
theorem OneG.of {b : List Int} (h : OneG b) (s : Int) : dCnt b (kOf s) ≤ 1 := by unfold kOf; split; exact h.red; exact h.black
theorem OneG.turn {b : List Int} (h : BL b) (hu : OneG b) : OneG (dTurn b) := by
  have key : ∀ s, SD s → dCnt (dTurn b) (kOf (1 - s)) = dCnt b (kOf s) := fun s hs => by
    unfold dCnt
    rw [filter_turn' (f := fun n => bAt b n == kOf s), List.length_map, List.length_reverse]
    intro n hn
    rw [bAt_turn h.len hn, ← kOf_swp hs, Bool.eq_iff_iff, beq_iff_eq, beq_iff_eq]
    exact ⟨fun e => swp_inj (h.by' _) (kOf_by s) e, fun e => by rw [e]⟩
  refine ⟨?_, ?_⟩
  · have := key 1 ⟨.inr rfl, trivial, trivial⟩
    rw [show dCnt (dTurn b) 75 = dCnt (dTurn b) (kOf (1 - 1)) from rfl, this]; exact hu.black
  · have := key 0 ⟨.inl rfl, trivial, trivial⟩
    rw [show dCnt (dTurn b) 107 = dCnt (dTurn b) (kOf (1 - 0)) from rfl, this]; exact hu.red
theorem general_def {b : List Int} {s : Int} (h : SD s) : dGeneral b s = (sqs.filter fun n => bAt b n == kOf s).headD (-1) := by
  unfold dGeneral kOf; rw [if_pos h.is]
theorem general_turn {b : List Int} (h : BL b) (hu : OneG b) {s : Int} (hs : SD s) : (dGeneral b s = -1 ∧ dGeneral (dTurn b) (1 - s) = -1) ∨ ∃ g, Sqr g ∧ dGeneral b s = g ∧ dGeneral (dTurn b) (1 - s) = 89 - g := by
  have hl := hu.of s
  unfold dCnt at hl
  have e : (sqs.filter fun n => bAt (dTurn b) n == kOf (1 - s)) = ((sqs.filter fun n => bAt b n == kOf s).reverse).map (89 - ·) := by
    refine filter_turn' (f := fun n => bAt b n == kOf s) fun n hn => ?_
    rw [bAt_turn h.len hn, ← kOf_swp hs, Bool.eq_iff_iff, beq_iff_eq, beq_iff_eq]
    exact ⟨fun e => swp_inj (h.by' _) (kOf_by s) e, fun e => by rw [e]⟩
  rw [general_def hs, general_def hs.turn, e]
  generalize hL : (sqs.filter fun n => bAt b n == kOf s) = L at hl
  cases L with
  | nil => left; exact ⟨rfl, rfl⟩
  | cons g L =>
    cases L with
    | cons x L => simp only [List.length_cons] at hl; omega
    | nil =>
      right
      have hg : g ∈ sqs.filter fun n => bAt b n == kOf s := by rw [hL]; simp
      have := mem_sqs.1 (List.mem_filter.1 hg).1
      exact ⟨g, ⟨this.1, this.2⟩, rfl, rfl⟩
theorem set_turn {b : List Int} (h : BL b) {n c : Int} (hn : Sqr n) : dTurn (b.set n.toNat c) = (dTurn b).set (89 - n).toNat (swp c) := by
  have hl : (b.set n.toNat c).length = 90 := by rw [List.length_set]; exact h.len
  refine ext_bAt (turn_len hl) (by rw [List.length_set]; exact turn_len h.len) fun m hm => ?_
  rw [bAt_turn hl hm, bAt_set h.len hn hm.turn.lo, bAt_set (turn_len h.len) hn.turn hm.lo, bAt_turn h.len hm]
  by_cases e : m = 89 - n
  · rw [if_pos e, if_pos (by omega)]
  · rw [if_neg e, if_neg (by omega)]
theorem BL.set {b : List Int} (h : BL b) {n c : Int} (hn : Sqr n) (hc : BY c) : BL (b.set n.toNat c) := by
  refine ⟨by rw [List.length_set]; exact h.len, fun m => ?_⟩
  have e : bAt (b.set n.toNat c) m = bAt (b.set n.toNat c) (m.toNat : Int) := by unfold bAt; rw [Int.toNat_natCast]
  rw [e, bAt_set h.len hn (by omega)]
  split
  · exact hc
  · exact h.by' _
def pOf (s : Int) : Int := if s = 0 then 112 else 80
theorem pOf_swp {s : Int} (h : SD s) : swp (pOf s) = pOf (1 - s) := by rcases h.is with rfl | rfl <;> decide
theorem pOf_by (s : Int) : BY (pOf s) := by unfold pOf; split <;> exact ⟨by decide, by decide, trivial⟩
theorem att_def {b : List Int} {n s : Int} (h : SD s) : dAttackers b n s = sqs.filter fun fr => (spSide (bAt (b.set n.toNat (pOf s)) fr) == s) && dFast (b.set n.toNat (pOf s)) fr n := by
  unfold dAttackers pOf; rw [if_pos h.is]
theorem att_turn {b : List Int} (h : BL b) {n s : Int} (hn : Sqr n) (hs : SD s) : dAttackers (dTurn b) (89 - n) (1 - s) = ((dAttackers b n s).reverse).map (89 - ·) := by
  have hb := h.set hn (pOf_by s)
  rw [att_def hs, att_def hs.turn, ← pOf_swp hs, ← set_turn h hn]
  refine filter_turn' (f := fun fr => (spSide (bAt (b.set n.toNat (pOf s)) fr) == s) && dFast (b.set n.toNat (pOf s)) fr n) fun fr hfr => ?_
  rw [side_turn hb hfr hs]
  have := fast_turn hb hfr.turn hn
  rw [show 89 - (89 - fr) = fr by omega] at this
  rw [this]
theorem in_turn {b : List Int} (h : BL b) (hu : OneG b) {s : Int} (hs : SD s) : dIn (dTurn b) (1 - s) = dIn b s := by
  unfold dIn
  rcases general_turn h hu hs with ⟨e1, e2⟩ | ⟨g, hg, e1, e2⟩
  · rw [e1, e2]; rfl
  · rw [e1, e2, att_turn h hg hs.turn, decide_eq_true hg.lo, decide_eq_true hg.turn.lo]
    congr 2
    cases dAttackers b g (1 - s) <;> simp
theorem between_comm (b : List Int) (x y : Int) : dBetween b x y = dBetween b y x := by
  have e1 : imin x y = imin y x := by unfold imin; split <;> split <;> omega
  have e2 : imax x y = imax y x := by unfold imax; split <;> split <;> omega
  unfold dBetween
  rw [e1, e2]
  by_cases h : x = y
  · rw [if_pos h, if_pos h.symm]
  · rw [if_neg h, if_neg (show ¬ y = x from fun e => h e.symm)]
    by_cases h : x / 9 = y / 9
    · rw [if_pos h, if_pos h.symm]
    · rw [if_neg h, if_neg (show ¬ y / 9 = x / 9 from fun e => h e.symm)]
      by_cases h : x % 9 = y % 9
      · rw [if_pos h, if_pos h.symm]
      · rw [if_neg h, if_neg (show ¬ y % 9 = x % 9 from fun e => h e.symm)]
theorem facing_turn {b : List Int} (h : BL b) (hu : OneG b) : dFacing (dTurn b) = dFacing b := by
  have h0 := general_turn h hu (s := 0) ⟨.inl rfl, trivial, trivial⟩
  have h1 := general_turn h hu (s := 1) ⟨.inr rfl, trivial, trivial⟩
  rw [show (1 : Int) - 0 = 1 from rfl] at h0
  rw [show (1 : Int) - 1 = 0 from rfl] at h1
  unfold dFacing
  rcases h0 with ⟨e1, e2⟩ | ⟨g, hg, e1, e2⟩
  · rw [e1, e2]; simp
  · rcases h1 with ⟨e3, e4⟩ | ⟨k, hk, e3, e4⟩
    · rw [e3, e4]; simp
    · rw [e1, e2, e3, e4, between_turn h hk hg, between_comm, decide_eq_true hg.lo, decide_eq_true hg.turn.lo, decide_eq_true hk.lo, decide_eq_true hk.turn.lo, (files hg).1, (files hk).1]
      congr 2
      rw [Bool.eq_iff_iff, beq_iff_eq, beq_iff_eq]; omega
theorem BL.moved {b : List Int} (h : BL b) {fr to : Int} (hf : Sqr fr) (ht : Sqr to) : BL (dMoved b fr to) := (h.set ht (h.by' fr)).set hf ⟨by decide, by decide, trivial⟩
theorem moved_turn {b : List Int} (h : BL b) {fr to : Int} (hf : Sqr fr) (ht : Sqr to) : dMoved (dTurn b) (89 - fr) (89 - to) = dTurn (dMoved b fr to) := by
  unfold dMoved
  rw [set_turn (h.set ht (h.by' fr)) hf, set_turn h ht, bAt_turn h.len hf.turn, show 89 - (89 - fr) = fr by omega]
  rfl
theorem OneG.moved {b : List Int} (h : BL b) (hu : OneG b) {fr to : Int} (hf : Sqr fr) (ht : Sqr to) (hne : to ≠ fr) : OneG (dMoved b fr to) := by
  refine ⟨?_, ?_⟩
  · rw [cnt_moved h.len hf ht hne (by decide)]; have := hu.red; split <;> omega
  · rw [cnt_moved h.len hf ht hne (by decide)]; have := hu.black; split <;> omega
theorem can_turn {b : List Int} (h : BL b) (hu : OneG b) {s fr to : Int} (hf : Sqr fr) (ht : Sqr to) (hs : SD s) : dCan (dTurn b) (1 - s) (89 - fr) (89 - to) = dCan b s fr to := by
  unfold dCan
  rw [fast_turn h hf ht]
  cases hq : dFast b fr to with
  | false => simp
  | true =>
    have hne := (fast_ne hq).1
    have hm := h.moved hf ht
    have hum := hu.moved h hf ht hne
    have := side_turn h hf.turn hs
    rw [show 89 - (89 - fr) = fr by omega] at this
    rw [this]
    unfold dSafe' dSafeB
    rw [moved_turn h hf ht, facing_turn hm hum, in_turn hm hum hs, bAt_turn h.len ht.turn, show 89 - (89 - to) = to by omega, (swp_ok (h.by' to)).2.2.2.2.2.1]
    rcases hs.is with rfl | rfl <;> rfl
theorem side_turned {b : List Int} (h : BL b) {fr : Int} (hf : Sqr fr) (hs : SD (spSide (bAt b fr))) : spSide (bAt (dTurn b) (89 - fr)) = 1 - spSide (bAt b fr) := by
  have := side_turn h hf.turn hs
  rw [show 89 - (89 - fr) = fr by omega, beq_self_eq_true] at this
  exact beqT this
theorem guarded_turn {b : List Int} (h : BL b) (hu : OneG b) {fr to : Int} (hf : Sqr fr) (ht : Sqr to) : dGuarded (dTurn b) (89 - fr) (89 - to) = dGuarded b fr to := by
  by_cases hs : SD (spSide (bAt b fr))
  · unfold dGuarded
    rw [side_turned h hf hs, can_turn h hu hf ht hs]
    cases hq : dCan b (spSide (bAt b fr)) fr to with
    | false => simp
    | true =>
      rw [Bool.true_and, Bool.true_and, moved_turn h hf ht]
      have hne := (fast_ne (by unfold dCan at hq; simp only [Bool.and_eq_true] at hq; exact hq.1.2 : dFast b fr to = true)).1
      have hm := h.moved hf ht
      have hum := hu.moved h hf ht hne
      rw [Bool.eq_iff_iff, List.any_eq_true, List.any_eq_true]
      have key : ∀ n, Sqr n → ((spSide (bAt (dTurn (dMoved b fr to)) (89 - n)) == 1 - (1 - spSide (bAt b fr))) && dCan (dTurn (dMoved b fr to)) (1 - (1 - spSide (bAt b fr))) (89 - n) (89 - to)) = ((spSide (bAt (dMoved b fr to) n) == 1 - spSide (bAt b fr)) && dCan (dMoved b fr to) (1 - spSide (bAt b fr)) n to) := fun n hn => by
        have e := side_turn hm hn.turn hs.turn
        rw [show 89 - (89 - n) = n by omega] at e
        rw [e, can_turn hm hum hn ht hs.turn]
      constructor
      · rintro ⟨n, hn, e⟩
        have hn' : Sqr n := ⟨(mem_sqs.1 hn).1, (mem_sqs.1 hn).2⟩
        refine ⟨89 - n, mem_sqs.2 ⟨hn'.turn.lo, hn'.turn.hi⟩, ?_⟩
        rw [← key _ hn'.turn, show 89 - (89 - n) = n by omega]; exact e
      · rintro ⟨n, hn, e⟩
        have hn' : Sqr n := ⟨(mem_sqs.1 hn).1, (mem_sqs.1 hn).2⟩
        refine ⟨89 - n, mem_sqs.2 ⟨hn'.turn.lo, hn'.turn.hi⟩, ?_⟩
        rw [key _ hn']; exact e
  · have hb := side_bd (bAt b fr)
    have hm1 : spSide (bAt b fr) = -1 := by
      refine Classical.byContradiction fun e => hs ⟨by omega, trivial, trivial⟩
    have hm2 : spSide (bAt (dTurn b) (89 - fr)) = -1 := by
      rw [bAt_turn h.len hf.turn, show 89 - (89 - fr) = fr by omega]; exact (swp_ok (h.by' fr)).2.2.2.2.1 hm1
    unfold dGuarded dCan
    rw [hm1, hm2]; rfl
def rTurn (p : ByteArray) : ByteArray := if spIs p then bytesOf (dTurn (bytesL p)) else ByteArray.empty
theorem bl_bytes {p : ByteArray} (hp : spIs p = true) : BL (bytesL p) := ⟨(bytesL_len p).trans (spIs_size hp), bAt_by p⟩
theorem rTurn_is {p : ByteArray} (hp : spIs p = true) : spIs (rTurn p) = true ∧ bytesL (rTurn p) = dTurn (bytesL p) := by
  have hb := bl_bytes hp
  have e : bytesL (bytesOf (dTurn (bytesL p))) = dTurn (bytesL p) := bytesL_of fun x hx => by
    unfold dTurn at hx
    rw [List.mem_reverse, List.mem_map] at hx
    obtain ⟨y, hy, rfl⟩ := hx
    have h := bytesL_bound p y hy
    have := swp_ok (c := y) ⟨h.1, h.2, trivial⟩
    exact ⟨this.1, this.2.1⟩
  have hq : rTurn p = bytesOf (dTurn (bytesL p)) := by unfold rTurn; rw [if_pos hp]
  rw [hq]
  refine ⟨is_iff.2 ⟨(size_bytesOf _).trans (turn_len hb.len), fun n hn => ?_⟩, e⟩
  have h1 := bAt_turn hb.len (n := n) ⟨by omega, by omega⟩
  have h2 := bAt_bytes (bytesOf (dTurn (bytesL p))) (n : Int)
  rw [e, Int.toNat_natCast] at h2
  rw [← h2, h1]
  have hc := (is_iff.1 hp).2 (89 - n) (by omega)
  refine (swp_ok (hb.by' _)).2.2.2.2.2.2.2.2 ?_
  rw [bAt_bytes, show (89 - (n : Int)).toNat = 89 - n by omega]; exact hc
theorem gcan_turn {p : ByteArray} (hp : spIs p = true) (hu : OneG (bytesL p)) {s fr to : Int} (hf : Sqr fr) (ht : Sqr to) (hs : SD s) : spGCan (rTurn p) (1 - s) (89 - fr) (89 - to) = spGCan p s fr to := by
  obtain ⟨h1, h2⟩ := rTurn_is hp
  rw [gcan_canon h1 hf.turn ht.turn, gcan_canon hp hf ht, h2, can_turn (bl_bytes hp) hu hf ht hs]
theorem spGuarded_turn {p : ByteArray} (hp : spIs p = true) (hu : OneG (bytesL p)) {fr to : Int} (hf : Sqr fr) (ht : Sqr to) : spGuarded (rTurn p) (89 - fr) (89 - to) = spGuarded p fr to := by
  obtain ⟨h1, h2⟩ := rTurn_is hp
  rw [guarded_canon h1 hf.turn ht.turn, guarded_canon hp hf ht, h2, guarded_turn (bl_bytes hp) hu hf ht]
theorem lex_eq : ∀ {l m : List (Int × Int)}, l.Pairwise Lex → m.Pairwise Lex → (∀ x, x ∈ l ↔ x ∈ m) → l = m := by
  have irr : ∀ x y : Int × Int, Lex x y → Lex y x → False := fun x y h h' => by unfold Lex at h h'; omega
  intro l
  induction l with
  | nil =>
    intro m _ _ h
    cases m with
    | nil => rfl
    | cons y m => exact absurd ((h y).2 (by simp)) (by simp)
  | cons x l ih =>
    intro m hl hm h
    cases m with
    | nil => exact absurd ((h x).1 (by simp)) (by simp)
    | cons y m =>
      rw [List.pairwise_cons] at hl hm
      have hxy : x = y := by
        have h1 := (h x).1 (by simp)
        have h2 := (h y).2 (by simp)
        rw [List.mem_cons] at h1 h2
        rcases h1 with h1 | h1
        · exact h1
        · rcases h2 with h2 | h2
          · exact h2.symm
          · exact (irr x y (hl.1 y h2) (hm.1 x h1)).elim
      subst hxy
      congr 1
      refine ih hl.2 hm.2 (fun z => ?_)
      have := h z
      rw [List.mem_cons, List.mem_cons] at this
      constructor
      · intro hz
        rcases this.1 (.inr hz) with e | e
        · subst e; exact (irr z z (hl.1 z hz) (hl.1 z hz)).elim
        · exact e
      · intro hz
        rcases this.2 (.inr hz) with e | e
        · subst e; exact (irr z z (hm.1 z hz) (hm.1 z hz)).elim
        · exact e
theorem takes_mem {p : ByteArray} {s : Int} (hp : spIs p = true) (hs : SD s) {m : Int × Int} : m ∈ spTakes p s ↔ spGCan p s m.1 m.2 = true ∧ bAt (bytesL p) m.2 ≠ 46 := by
  rw [← takes_of hp hs.is, List.mem_filter, rOf_mem hp hs.is, bne_iff_ne]
def mvT (m : Int × Int) : Int × Int := (89 - m.1, 89 - m.2)
theorem takes_turn {p : ByteArray} {s : Int} (hp : spIs p = true) (hu : OneG (bytesL p)) (hs : SD s) : spTakes (rTurn p) (1 - s) = ((spTakes p s).reverse).map mvT := by
  obtain ⟨h1, h2⟩ := rTurn_is hp
  refine lex_eq (takes_rising _ _) ?_ fun m => ?_
  · rw [List.pairwise_map, List.pairwise_reverse]
    refine (takes_rising p s).imp fun {a b} h => ?_
    unfold Lex at h ⊢
    unfold mvT
    dsimp only
    omega
  · rw [takes_mem h1 hs.turn, List.mem_map]
    constructor
    · rintro ⟨e1, e2⟩
      obtain ⟨_, q1, q2, _⟩ := gcan_ok e1
      refine ⟨(89 - m.1, 89 - m.2), ?_, by unfold mvT; dsimp only; rw [show 89 - (89 - m.1) = m.1 by omega, show 89 - (89 - m.2) = m.2 by omega]⟩
      rw [List.mem_reverse, takes_mem hp hs]
      have := gcan_turn hp hu q1.turn q2.turn hs
      rw [show 89 - (89 - m.1) = m.1 by omega, show 89 - (89 - m.2) = m.2 by omega] at this
      refine ⟨by rw [← this]; exact e1, fun e => e2 ?_⟩
      have := (dot_turn (bl_bytes hp) q2.turn).2 e
      rw [show 89 - (89 - m.2) = m.2 by omega] at this
      rw [h2]; exact this
    · rintro ⟨k, hk, rfl⟩
      rw [List.mem_reverse, takes_mem hp hs] at hk
      obtain ⟨_, q1, q2, _⟩ := gcan_ok hk.1
      unfold mvT
      dsimp only
      refine ⟨by rw [gcan_turn hp hu q1 q2 hs]; exact hk.1, fun e => hk.2 ?_⟩
      rw [h2] at e
      exact (dot_turn (bl_bytes hp) q2).1 e
theorem empty_is : spIs ByteArray.empty = false := by
  cases h : spIs ByteArray.empty with
  | false => rfl
  | true => have := spIs_size h; cases this
theorem rTurn_bad {p : ByteArray} (hp : spIs p = false) : rTurn p = ByteArray.empty := by unfold rTurn; rw [if_neg (by rw [hp]; exact Bool.noConfusion)]
theorem takes_turn0 {p : ByteArray} (hu : spIs p = true → OneG (bytesL p)) : spTakes (rTurn p) 1 = ((spTakes p 0).reverse).map mvT := by
  cases hp : spIs p with
  | true =>
    have h := takes_turn hp (hu hp) ⟨.inl rfl, trivial, trivial⟩
    rw [show (1 : Int) - 0 = 1 from rfl] at h
    exact h
  | false => rw [takes_bad hp, rTurn_bad hp, takes_bad empty_is]; rfl
end Go.X

namespace Go.X
open Go Go.Proofs

def cR2Turn : Con
  | [.a (.s p)] => some ⟨[], .a (.s (rTurn p)), [], []⟩
  | _ => none
theorem turn_byte : ∀ n : Nat, n < 256 → 0 ≤ spSide (n : Int) → (if IntKind.i64.wrap (1 - spSide (n : Int)) = 1 then IntKind.u8.wrap (IntKind.u8.wrap (spKind (n : Int) - 65) + 97) else spKind (n : Int)) = swp n := by decide +kernel
theorem turn_byte' {c : Int} (h : BY c) (hs : 0 ≤ spSide c) : (if IntKind.i64.wrap (1 - spSide c) = 1 then IntKind.u8.wrap (IntKind.u8.wrap (spKind c - 65) + 97) else spKind c) = swp c := by
  have h1 := h.lo; have h2 := h.hi
  have := turn_byte c.toNat (by omega)
  rw [show ((c.toNat : Nat) : Int) = c by omega] at this
  exact this hs
theorem swp_none {c : Int} (hs : ¬ 0 ≤ spSide c) : swp c = c := by unfold swp; rw [if_neg (by omega), if_neg (by omega)]
theorem turn_next {p : ByteArray} (hp : spIs p = true) {k : Nat} (hk : k < 90) : bytesOf ((dTurn (bytesL p)).take (k + 1)) = bytesOf ((dTurn (bytesL p)).take k) ++ bytesOf [swp (byteAt p (89 - (k : Int)).toNat)] := by
  have hb := bl_bytes hp
  have hl : k < (dTurn (bytesL p)).length := by rw [turn_len hb.len]; exact hk
  have e : (dTurn (bytesL p))[k] = swp (byteAt p (89 - (k : Int)).toNat) := by
    have := bAt_turn hb.len (n := k) ⟨by omega, by omega⟩
    rw [bAt_bytes] at this
    rw [← this]
    unfold bAt
    rw [Int.toNat_natCast, List.getD_eq_getElem?_getD, List.getElem?_eq_getElem hl]; rfl
  rw [List.take_succ_eq_append_getElem hl, e]
  apply ByteArray.ext
  apply Array.toList_inj.1
  rw [bytesOf_list, ByteArray.data_append, Array.toList_append, bytesOf_list, bytesOf_list, List.map_append]
theorem kind_by_tab : ∀ n : Nat, n < 256 → 0 ≤ spKind (n : Int) ∧ spKind (n : Int) < 256 := by decide +kernel
theorem kind_by {c : Int} (h : BY c) : BY (spKind c) := by
  have h1 := h.lo; have h2 := h.hi
  have := kind_by_tab c.toNat (by omega)
  rw [show ((c.toNat : Nat) : Int) = c by omega] at this
  exact ⟨this.1, this.2, trivial⟩
section
variable {G : Nat → World → Prop}
set_option maxHeartbeats 4000000 in
set_option maxRecDepth 20000 in
theorem okR2Turn (hS : Hyp G) : ConOK Tryz.prog G 22 cR2Turn := by
  refine seat_con hS.seat [(27, cRIs2), (23, cRSide), (24, cRKind), (41, cROf)] [] ⟨okRIs2 hS, okRSide hS, okRKind hS, okROf hS, trivial⟩ Tryz.func22 rfl rfl rfl ?_
  intro rvs cr hcr hpre
  unfold cR2Turn at hcr
  split at hcr
  · rename_i p
    cases hcr
    refine ⟨⟨rfl, rfl, rfl⟩, fun c hc vs => ?_⟩
    repeat' (first | exact Bool.noConfusion ‹(!true) = true› | exact Bool.noConfusion ‹(!false) = false› | (intro h; exact h) | (intro h; rw [h]; rfl) | (intro h1 h2; rw [h1, h2]; rfl) | (intro _; assumption) | (intro _; exact rfl) | (intro h; exact Bool.noConfusion (h.symm.trans ‹_ = false›)) | refine ⟨fun _ => ?_, fun _ => ?_⟩ | refine ⟨?_⟩ | refine ⟨?_, ?_⟩ | fail)
    all_goals first | exact rfl | skip
    · rename_i h; exact chk_s (rTurn_bad (bt h)).symm
    · rename_i h
      have hp := bn h
      have h90 := spIs_size hp
      have hb := bl_bytes hp
      have hq : rTurn p = bytesOf (dTurn (bytesL p)) := by unfold rTurn; rw [if_pos hp]
      rw [hq]
      refine Tr_loopH (α := Nat) (fun k => [(3, .s (bytesOf ((dTurn (bytesL p)).take k))), (4, .i .i64 (89 - (k : Int)))]) (fun _ => []) (fun _ => []) (fun k => k ≤ 90) (fun k => 90 - k) 0 (Nat.zero_le _) (by (refine ⟨?_, rfl, ?_, ?_, ?_, rfl⟩ <;> repeat' (first | exact trivial | (refine ⟨rfl, ?_⟩) | fail))) ?_
      intro k hk
      have hsz : (bytesOf ((dTurn (bytesL p)).take k)).size ≤ 90 := by rw [size_bytesOf, List.length_take, turn_len hb.len]; omega
      refine vs.go rfl ?_
      repeat' (first | exact Bool.noConfusion ‹(!true) = true› | exact Bool.noConfusion ‹(!false) = false› | (intro h; exact h) | (intro h; rw [h]; rfl) | (intro h1 h2; rw [h1, h2]; rfl) | (intro _; assumption) | (intro _; exact rfl) | (intro h; exact Bool.noConfusion (h.symm.trans ‹_ = false›)) | refine ⟨fun _ => ?_, fun _ => ?_⟩ | refine ⟨?_⟩ | refine ⟨?_, ?_⟩ | fail)
      all_goals first | exact trivial | (refine (?_ : (_ : Int) ≠ _); decide) | exact rfl | skip
      all_goals try dsimp only at *
      all_goals (have hlt : decide (89 - (k : Int) ≥ 0) = true → k < 90 := fun h => by have := of_decide_eq_true h; omega)
      all_goals first | exact BY.at _ _ | (rename_i h1; have := hlt h1; omega) | exact kind_by (BY.at _ _) | (show (bytesOf _).size + (bytesOf [_]).size ≤ _; rw [size_bytesOf [_]]; exact Nat.le_trans (Nat.add_le_add_right hsz 1) (by decide)) | skip
      · rename_i h1 h2
        have := hlt h1
        refine Again.mk (k + 1) (by omega) (by omega) ?_
        rw [turn_next hp this, turn_byte' (BY.at _ _) (of_decide_eq_true h2), wrap64 (by omega) (by omega), show (89 : Int) - ((k + 1 : Nat) : Int) = 89 - (k : Int) - 1 by omega]
        (refine ⟨?_, rfl, ?_, ?_, ?_, rfl⟩ <;> repeat' (first | exact trivial | (refine ⟨rfl, ?_⟩) | fail))
      · rename_i h1 h2
        have := hlt h1
        refine Again.mk (k + 1) (by omega) (by omega) ?_
        rw [turn_next hp this, swp_none (of_decide_eq_false h2), wrap64 (by omega) (by omega), show (89 : Int) - ((k + 1 : Nat) : Int) = 89 - (k : Int) - 1 by omega]
        (refine ⟨?_, rfl, ?_, ?_, ?_, rfl⟩ <;> repeat' (first | exact trivial | (refine ⟨rfl, ?_⟩) | fail))
      · rename_i h1
        have := of_decide_eq_false h1
        exact chk_s (by rw [List.take_of_length_le (by rw [turn_len hb.len]; omega)])
  · cases hcr
end
end Go.X

namespace Go.X
open Go
theorem lv : Lv := by
  refine ⟨?_, trivial, trivial⟩
  unfold spLive
  rw [live_takes, live_guarded, live_guarded', live_can, live_can', empty_takes]
  rfl
end Go.X
