/-
  Parts of the proof.
-/
import Derived.Test.YtfjbjjeekhcboaaGreatDoorA2
import Derived.Lib.AtoiAllCases
import Derived.Lib.ItoaNum

set_option linter.unusedSimpArgs false
set_option linter.unusedVariables false

namespace Go.X
open Go

def swp (c : Int) : Int := if spSide c = 0 then c + 32 else if spSide c = 1 then c - 32 else c
def dTurn (b : List Int) : List Int := (b.map swp).reverse
theorem swp_tab : ∀ n : Nat, n < 256 → (0 ≤ swp n ∧ swp n < 256 ∧ (spSide n = 0 → spSide (swp n) = 1) ∧ (spSide n = 1 → spSide (swp n) = 0) ∧ (spSide n = -1 → spSide (swp n) = -1) ∧ spKind (swp n) = spKind n ∧ (swp n = 46 ↔ (n : Int) = 46) ∧ swp (swp n) = n ∧ (spIsCell (n : Int) = true → spIsCell (swp n) = true)) := by decide +kernel
theorem swp_ok {c : Int} (h : BY c) : 0 ≤ swp c ∧ swp c < 256 ∧ (spSide c = 0 → spSide (swp c) = 1) ∧ (spSide c = 1 → spSide (swp c) = 0) ∧ (spSide c = -1 → spSide (swp c) = -1) ∧ spKind (swp c) = spKind c ∧ (swp c = 46 ↔ c = 46) ∧ swp (swp c) = c ∧ (spIsCell c = true → spIsCell (swp c) = true) := by
  have h1 := h.lo; have h2 := h.hi
  have := swp_tab c.toNat (by omega)
  rwa [show ((c.toNat : Nat) : Int) = c by omega] at this
theorem swp_inj {c d : Int} (h : BY c) (h' : BY d) (e : swp c = swp d) : c = d := by rw [← (swp_ok h).2.2.2.2.2.2.2.1, e, (swp_ok h').2.2.2.2.2.2.2.1]
structure BL (b : List Int) : Prop where
  len : b.length = 90
  by' : ∀ n, BY (bAt b n)
theorem turn_len {b : List Int} (h : b.length = 90) : (dTurn b).length = 90 := by unfold dTurn; rw [List.length_reverse, List.length_map]; exact h
theorem Sqr.turn {n : Int} (h : Sqr n) : Sqr (89 - n) := by have := h.lo; have := h.hi; exact ⟨by omega, by omega⟩
theorem bAt_turn {b : List Int} (h : b.length = 90) {n : Int} (hn : Sqr n) : bAt (dTurn b) n = swp (bAt b (89 - n)) := by
  have h1 := hn.lo; have h2 := hn.hi
  obtain ⟨g, e⟩ := bAt_get h hn.turn
  obtain ⟨g', e'⟩ := bAt_get (turn_len h) hn
  rw [e, e']
  have g2 : n.toNat < (b.map swp).reverse.length := g'
  show (b.map swp).reverse[n.toNat]'g2 = _
  rw [List.getElem_reverse, List.getElem_map]
  congr 2
  rw [List.length_map, h]; omega
theorem BL.turn {b : List Int} (h : BL b) : BL (dTurn b) := by
  refine ⟨turn_len h.len, fun n => ?_⟩
  by_cases hn : n.toNat < 90
  · have e : bAt (dTurn b) n = bAt (dTurn b) (n.toNat : Int) := by unfold bAt; rw [Int.toNat_natCast]
    rw [e, bAt_turn h.len ⟨by omega, by omega⟩]
    have := swp_ok (h.by' (89 - (n.toNat : Int)))
    exact ⟨this.1, this.2.1, trivial⟩
  · have : bAt (dTurn b) n = 0 := by
      unfold bAt
      rw [List.getD_eq_getElem?_getD, List.getElem?_eq_none (by rw [turn_len h.len]; omega)]; rfl
    rw [this]; exact ⟨by decide, by decide, trivial⟩
theorem side_turn {b : List Int} (h : BL b) {n s : Int} (hn : Sqr n) (hs : SD s) : (spSide (bAt (dTurn b) n) == 1 - s) = (spSide (bAt b (89 - n)) == s) := by
  rw [bAt_turn h.len hn]
  have hb := side_bd (bAt b (89 - n))
  have hw := swp_ok (h.by' (89 - n))
  rw [Bool.eq_iff_iff, beq_iff_eq, beq_iff_eq]
  have : spSide (bAt b (89 - n)) = -1 ∨ spSide (bAt b (89 - n)) = 0 ∨ spSide (bAt b (89 - n)) = 1 := by omega
  rcases hs.is with rfl | rfl <;> rcases this with e | e | e
  · have := hw.2.2.2.2.1 e; omega
  · have := hw.2.2.1 e; omega
  · have := hw.2.2.2.1 e; omega
  · have := hw.2.2.2.2.1 e; omega
  · have := hw.2.2.1 e; omega
  · have := hw.2.2.2.1 e; omega
def cntR (f : Nat → Bool) (k : Nat) : Nat := ((List.range k).filter f).length
theorem cntR_rev (f : Nat → Bool) (k : Nat) : cntR (fun i => f (k - 1 - i)) k = cntR f k := by
  unfold cntR
  have e : List.range k = ((List.range k).map fun i => k - 1 - i).reverse := by
    apply List.ext_getElem
    · simp
    · intro i h1 h2
      simp only [List.length_range] at h1
      rw [List.getElem_reverse]
      simp only [List.getElem_map, List.getElem_range, List.length_map, List.length_range]
      omega
  conv => rhs; rw [e, List.filter_reverse, List.length_reverse, List.filter_map, List.length_map]
  rfl
theorem cntR_congr {f g : Nat → Bool} {k : Nat} (h : ∀ i, i < k → f i = g i) : cntR f k = cntR g k := by
  unfold cntR
  congr 1
  exact List.filter_congr fun i hi => h i (List.mem_range.1 hi)
theorem dCount_cntR (b : List Int) (s : Int) : ∀ (k : Nat) (lo : Int), dCount b s k lo = (cntR (fun i => bAt b (lo + i * s) != 46) k : Nat) := by
  intro k
  induction k with
  | zero => intro lo; rfl
  | succ k ih =>
    intro lo
    rw [dCount, ih]
    unfold cntR
    rw [List.range_succ_eq_map]
    have e0 : lo + ((0 : Nat) : Int) * s = lo := by simp
    have e : (List.filter (fun i : Nat => bAt b (lo + i * s) != 46) ((List.range k).map Nat.succ)).length = (List.filter (fun i : Nat => bAt b (lo + s + i * s) != 46) (List.range k)).length := by
      rw [List.filter_map, List.length_map]
      congr 1
      apply List.filter_congr
      intro i _
      show (bAt b (lo + ((i + 1 : Nat) : Int) * s) != 46) = _
      rw [show ((i + 1 : Nat) : Int) = (i : Int) + 1 by omega, Int.add_mul, Int.one_mul, show lo + ((i : Int) * s + s) = lo + s + i * s by omega]
    by_cases h : bAt b lo = 46
    · rw [if_pos h, List.filter_cons_of_neg (by rw [e0]; simp [h]), e]; omega
    · rw [if_neg h, List.filter_cons_of_pos (by rw [e0]; simpa using h), List.length_cons, e]; omega
theorem count_turn {b : List Int} (h : BL b) (s : Int) (k : Nat) (lo : Int) (hq : ∀ i : Nat, i < k → Sqr (lo + i * s)) : dCount (dTurn b) s k (89 - lo - ((k : Int) - 1) * s) = dCount b s k lo := by
  rw [dCount_cntR, dCount_cntR, ← cntR_rev (fun i => bAt b (lo + i * s) != 46)]
  congr 1
  apply cntR_congr
  intro i hi
  have e : lo + ((k - 1 - i : Nat) : Int) * s = 89 - (89 - lo - ((k : Int) - 1) * s + (i : Int) * s) := by
    rw [show ((k - 1 - i : Nat) : Int) = (k : Int) - 1 - i by omega, Int.sub_mul ((k : Int) - 1) (i : Int) s]
    generalize ((k : Int) - 1) * s = x
    generalize (i : Int) * s = y
    omega
  have hs := hq (k - 1 - i) (by omega)
  have hs' : Sqr (89 - lo - ((k : Int) - 1) * s + (i : Int) * s) := by
    rw [e] at hs
    have := hs.turn
    rwa [show (89 : Int) - (89 - (89 - lo - ((k : Int) - 1) * s + (i : Int) * s)) = 89 - lo - ((k : Int) - 1) * s + (i : Int) * s by omega] at this
  rw [bAt_turn h.len hs', e, Bool.eq_iff_iff, bne_iff_ne, bne_iff_ne, Ne, Ne, (swp_ok (h.by' _)).2.2.2.2.2.2.1]
theorem between_turn {b : List Int} (h : BL b) {fr to : Int} (hf : Sqr fr) (ht : Sqr to) : dBetween (dTurn b) (89 - fr) (89 - to) = dBetween b fr to := by
  have f1 := hf.lo; have f2 := hf.hi; have t1 := ht.lo; have t2 := ht.hi
  have hmm : (imin fr to = fr ∧ imax fr to = to ∧ fr ≤ to ∧ imin (89 - fr) (89 - to) = 89 - to ∧ imax (89 - fr) (89 - to) = 89 - fr) ∨ (imin fr to = to ∧ imax fr to = fr ∧ to ≤ fr ∧ imin (89 - fr) (89 - to) = 89 - fr ∧ imax (89 - fr) (89 - to) = 89 - to) := by
    unfold imin imax; split <;> split <;> (try split) <;> (try split) <;> omega
  unfold dBetween
  by_cases he : fr = to
  · rw [if_pos he, if_pos (by omega)]
  · rw [if_neg he, if_neg (by omega)]
    by_cases hr : fr / 9 = to / 9
    · rw [if_pos hr, if_pos (by omega)]
      rcases hmm with ⟨e1, e2, e3, e4, e5⟩ | ⟨e1, e2, e3, e4, e5⟩
      · rw [e1, e2, e4, e5, show (89 - fr - (89 - to) - 1).toNat = (to - fr - 1).toNat by omega]
        have := count_turn h 1 (to - fr - 1).toNat (fr + 1) (fun i hi => ⟨by omega, by omega⟩)
        rw [← this]; congr 1; omega
      · rw [e1, e2, e4, e5, show (89 - to - (89 - fr) - 1).toNat = (fr - to - 1).toNat by omega]
        have := count_turn h 1 (fr - to - 1).toNat (to + 1) (fun i hi => ⟨by omega, by omega⟩)
        rw [← this]; congr 1; omega
    · rw [if_neg hr, if_neg (by omega)]
      by_cases hc : fr % 9 = to % 9
      · rw [if_pos hc, if_pos (by omega)]
        rcases hmm with ⟨e1, e2, e3, e4, e5⟩ | ⟨e1, e2, e3, e4, e5⟩
        · rw [e1, e2, e4, e5, show ((89 - fr - (89 - to)) / 9 - 1).toNat = ((to - fr) / 9 - 1).toNat by omega]
          have := count_turn h 9 ((to - fr) / 9 - 1).toNat (fr + 9) (fun i hi => ⟨by omega, by omega⟩)
          rw [← this]; congr 1; omega
        · rw [e1, e2, e4, e5, show ((89 - to - (89 - fr)) / 9 - 1).toNat = ((fr - to) / 9 - 1).toNat by omega]
          have := count_turn h 9 ((fr - to) / 9 - 1).toNat (to + 9) (fun i hi => ⟨by omega, by omega⟩)
          rw [← this]; congr 1; omega
      · rw [if_neg hc, if_neg (by omega)]
theorem may_tab : ∀ c ∈ letL, ∀ n : Nat, n < 90 → spMay (swp c) (89 - (n : Int)) = spMay c n := by decide +kernel
theorem let_tab : ∀ n : Nat, n < 256 → 0 ≤ spSide (n : Int) → (n : Int) ∈ letL := by decide +kernel
theorem may_turn {c n : Int} (hc : BY c) (hs : 0 ≤ spSide c) (hn : Sqr n) : spMay (swp c) (89 - n) = spMay c n := by
  have h1 := hc.lo; have h2 := hc.hi; have h3 := hn.lo; have h4 := hn.hi
  have hl := let_tab c.toNat (by omega)
  rw [show ((c.toNat : Nat) : Int) = c by omega] at hl
  have := may_tab c (hl hs) n.toNat (by omega)
  rwa [show ((n.toNat : Nat) : Int) = n by omega] at this
theorem over_tab : ∀ n : Nat, n < 90 → spOver (89 - (n : Int)) 1 = spOver n 0 ∧ spOver (89 - (n : Int)) 0 = spOver n 1 := by decide +kernel
theorem over_turn {n s : Int} (hn : Sqr n) (hs : SD s) : spOver (89 - n) (1 - s) = spOver n s := by
  have h3 := hn.lo; have h4 := hn.hi
  have := over_tab n.toNat (by omega)
  rw [show ((n.toNat : Nat) : Int) = n by omega] at this
  rcases hs.is with rfl | rfl
  · exact this.1
  · exact this.2
theorem away_turn {a b k : Int} : away (k - a) (k - b) = away a b := by unfold away; split <;> split <;> omega
theorem files {n : Int} (hn : Sqr n) : (89 - n) % 9 = 8 - n % 9 ∧ (89 - n) / 9 = 9 - n / 9 := by
  have h3 := hn.lo; have h4 := hn.hi
  omega
theorem horse_turn {b : List Int} (h : BL b) {fr to : Int} (hf : Sqr fr) (ht : Sqr to) : dHorse (dTurn b) (89 - fr) (89 - to) = dHorse b fr to := by
  have f1 := hf.lo; have f2 := hf.hi; have t1 := ht.lo; have t2 := ht.hi
  unfold dHorse
  rw [(files hf).1, (files ht).1, (files hf).2, (files ht).2, away_turn, away_turn]
  have key : ∀ n : Int, Sqr n → (bAt (dTurn b) (89 - n) == 46) = (bAt b n == 46) := fun n hn => by
    rw [bAt_turn h.len hn.turn, show 89 - (89 - n) = n by omega, Bool.eq_iff_iff, beq_iff_eq, beq_iff_eq, (swp_ok (h.by' _)).2.2.2.2.2.2.1]
  by_cases h1 : away (fr % 9) (to % 9) = 1 ∧ away (fr / 9) (to / 9) = 2
  · rw [if_pos h1, if_pos h1]
    simp only [away1, away2] at h1
    by_cases h2 : to / 9 > fr / 9
    · rw [if_pos h2, if_neg (by omega), show 89 - fr - 9 = 89 - (fr + 9) by omega, key _ ⟨by omega, by omega⟩]
    · rw [if_neg h2, if_pos (by omega), show 89 - fr + 9 = 89 - (fr - 9) by omega, key _ ⟨by omega, by omega⟩]
  · rw [if_neg h1, if_neg h1]
    by_cases h1 : away (fr % 9) (to % 9) = 2 ∧ away (fr / 9) (to / 9) = 1
    · rw [if_pos h1, if_pos h1]
      simp only [away1, away2] at h1
      by_cases h2 : to % 9 > fr % 9
      · rw [if_pos h2, if_neg (by omega), show 89 - fr - 1 = 89 - (fr + 1) by omega, key _ ⟨by omega, by omega⟩]
      · rw [if_neg h2, if_pos (by omega), show 89 - fr + 1 = 89 - (fr - 1) by omega, key _ ⟨by omega, by omega⟩]
    · rw [if_neg h1, if_neg h1]
theorem pawn_turn {s fr to : Int} (hf : Sqr fr) (ht : Sqr to) (hs : SD s) : dPawnCan (1 - s) (89 - fr) (89 - to) = dPawnCan s fr to := by
  unfold dPawnCan
  rw [over_turn hf hs, (files hf).2, (files ht).2, away_turn]
  have e1 : (89 - to == 89 - fr + if 1 - s = 1 then -9 else 9) = (to == fr + if s = 1 then -9 else 9) := by
    rw [Bool.eq_iff_iff, beq_iff_eq, beq_iff_eq]
    rcases hs.is with rfl | rfl
    · rw [if_pos (by decide), if_neg (by decide)]; omega
    · rw [if_neg (by decide), if_pos (by decide)]; omega
  have e2 : ((9 : Int) - fr / 9 == 9 - to / 9) = (fr / 9 == to / 9) := by rw [Bool.eq_iff_iff, beq_iff_eq, beq_iff_eq]; omega
  rw [e1, e2]
theorem dot_turn {b : List Int} (h : BL b) {n : Int} (hn : Sqr n) : (bAt (dTurn b) (89 - n) = 46) ↔ bAt b n = 46 := by
  rw [bAt_turn h.len hn.turn, show 89 - (89 - n) = n by omega, (swp_ok (h.by' _)).2.2.2.2.2.2.1]
theorem reach_turn {b : List Int} (h : BL b) {pc fr to : Int} (hp : BY pc) (hs : 0 ≤ spSide pc) (hf : Sqr fr) (ht : Sqr to) : dReach (dTurn b) (swp pc) (89 - fr) (89 - to) = dReach b pc fr to := by
  have f1 := hf.lo; have f2 := hf.hi; have t1 := ht.lo; have t2 := ht.hi
  have hw := swp_ok hp
  have hsd := side_bd pc
  have hside : spSide (swp pc) = 1 - spSide pc := by
    have : spSide pc = 0 ∨ spSide pc = 1 := by omega
    rcases this with e | e
    · rw [hw.2.2.1 e, e]; rfl
    · rw [hw.2.2.2.1 e, e]; rfl
  unfold dReach
  rw [hw.2.2.2.2.2.1, (files hf).1, (files ht).1, (files hf).2, (files ht).2, away_turn, away_turn, may_turn hp hs ht, horse_turn h hf ht, between_turn h hf ht, hside, pawn_turn hf ht ⟨by omega, trivial, trivial⟩]
  have hd := dot_turn h ht
  have e1 : (bAt (dTurn b) (89 - to) == 46) = (bAt b to == 46) := by rw [Bool.eq_iff_iff, beq_iff_eq, beq_iff_eq]; exact hd
  have e2 : (bAt (dTurn b) (89 - to) != 46) = (bAt b to != 46) := by rw [bne, bne, e1]
  rw [e1, e2]
  by_cases hk : spKind pc = 66
  · rw [if_neg (by omega), if_neg (by omega), if_pos hk, if_neg (by omega), if_neg (by omega), if_pos hk]
    by_cases hq : (away (fr % 9) (to % 9) == 2) = true ∧ (away (fr / 9) (to / 9) == 2) = true
    · have q1 := away2.1 (beqT hq.1); have q2 := away2.1 (beqT hq.2)
      have hm : Sqr ((fr + to) / 2) := ⟨by omega, by omega⟩
      have e3 : (89 - fr + (89 - to)) / 2 = 89 - (fr + to) / 2 := by omega
      rw [e3]
      congr 1
      rw [Bool.eq_iff_iff, beq_iff_eq, beq_iff_eq]; exact dot_turn h hm
    · have : ((away (fr % 9) (to % 9) == 2) && (away (fr / 9) (to / 9) == 2)) = false := by
        cases h1 : (away (fr % 9) (to % 9) == 2) <;> cases h2 : (away (fr / 9) (to / 9) == 2) <;> simp_all
      rw [this]; simp
  · simp only [if_neg hk]
theorem fast_turn {b : List Int} (h : BL b) {fr to : Int} (hf : Sqr fr) (ht : Sqr to) : dFast (dTurn b) (89 - fr) (89 - to) = dFast b fr to := by
  unfold dFast
  rw [bAt_turn h.len hf.turn, bAt_turn h.len ht.turn, show 89 - (89 - fr) = fr by omega, show 89 - (89 - to) = to by omega]
  have hw := swp_ok (h.by' fr); have hw' := swp_ok (h.by' to)
  have hb := side_bd (bAt b fr); have hb' := side_bd (bAt b to)
  by_cases hs : 0 ≤ spSide (bAt b fr)
  · rw [reach_turn h (h.by' fr) hs hf ht]
    have c1 : spSide (bAt b fr) = 0 ∨ spSide (bAt b fr) = 1 := by omega
    have c2 : spSide (bAt b to) = -1 ∨ spSide (bAt b to) = 0 ∨ spSide (bAt b to) = 1 := by omega
    congr 1
    rcases c1 with e | e <;> rcases c2 with e' | e' | e'
    · rw [e, e', hw.2.2.1 e, hw'.2.2.2.2.1 e']; rfl
    · rw [e, e', hw.2.2.1 e, hw'.2.2.1 e']; rfl
    · rw [e, e', hw.2.2.1 e, hw'.2.2.2.1 e']; rfl
    · rw [e, e', hw.2.2.2.1 e, hw'.2.2.2.2.1 e']; rfl
    · rw [e, e', hw.2.2.2.1 e, hw'.2.2.1 e']; rfl
    · rw [e, e', hw.2.2.2.1 e, hw'.2.2.2.1 e']; rfl
  · have : spSide (bAt b fr) = -1 := by omega
    rw [hw.2.2.2.2.1 this, this]; rfl
end Go.X

namespace Go.X
open Go

theorem ext_bAt {b c : List Int} (hb : b.length = 90) (hc : c.length = 90) (h : ∀ n, Sqr n → bAt b n = bAt c n) : b = c := by
  rw [← bAt_list hb, ← bAt_list hc]
  exact List.map_congr_left fun n hn => h n ⟨(mem_sqs.1 hn).1, (mem_sqs.1 hn).2⟩
theorem turn_turn {b : List Int} (h : BL b) : dTurn (dTurn b) = b := by
  refine ext_bAt (turn_len (turn_len h.len)) h.len fun n hn => ?_
  rw [bAt_turn (turn_len h.len) hn, bAt_turn h.len hn.turn, show 89 - (89 - n) = n by omega, (swp_ok (h.by' n)).2.2.2.2.2.2.2.1]
theorem sqs_turn : sqs = (sqs.reverse).map (89 - ·) := by decide
theorem filter_turn (f : Int → Bool) : sqs.filter (fun n => f (89 - n)) = ((sqs.filter f).reverse).map (89 - ·) := by
  have e : sqs.filter (fun n => f (89 - n)) = ((sqs.reverse).map (89 - ·)).filter (fun n => f (89 - n)) := by rw [← sqs_turn]
  rw [e, List.filter_map, ← List.filter_reverse]
  congr 2
  funext n
  show f (89 - (89 - n)) = f n
  rw [show 89 - (89 - n) = n by omega]
theorem filter_turn' {f g : Int → Bool} (h : ∀ n, Sqr n → g n = f (89 - n)) : sqs.filter g = ((sqs.filter f).reverse).map (89 - ·) := by
  rw [← filter_turn]
  exact List.filter_congr fun n hn => h n ⟨(mem_sqs.1 hn).1, (mem_sqs.1 hn).2⟩
structure OneG (b : List Int) : Prop where
  red : dCnt b 75 ≤ 1
  black : dCnt b 107 ≤ 1
def kOf (s : Int) : Int := if s = 0 then 75 else 107
theorem kOf_by (s : Int) : BY (kOf s) := by unfold kOf; split <;> exact ⟨by decide, by decide, trivial⟩
theorem kOf_swp {s : Int} (h : SD s) : swp (kOf s) = kOf (1 - s) := by rcases h.is with rfl | rfl <;> decide
theorem OneG.of {b : List Int} (h : OneG b) (s : Int) : dCnt b (kOf s) ≤ 1 := by unfold kOf; split; exact h.red; exact h.black
theorem OneG.turn {b : List Int} (h : BL b) (hu : OneG b) : OneG (dTurn b) := by
  have key : ∀ s, SD s → dCnt (dTurn b) (kOf (1 - s)) = dCnt b (kOf s) := fun s hs => by
    unfold dCnt
    rw [filter_turn' (f := fun n => bAt b n == kOf s), List.length_map, List.length_reverse]
    intro n hn
    rw [bAt_turn h.len hn, ← kOf_swp hs, Bool.eq_iff_iff, beq_iff_eq, beq_iff_eq]
    exact ⟨fun e => swp_inj (h.by' _) (kOf_by s) e, fun e => by rw [e]⟩
  refine ⟨?_, ?_⟩
  · have := key 1 ⟨.inr rfl, trivial, trivial⟩
    rw [show dCnt (dTurn b) 75 = dCnt (dTurn b) (kOf (1 - 1)) from rfl, this]; exact hu.black
  · have := key 0 ⟨.inl rfl, trivial, trivial⟩
    rw [show dCnt (dTurn b) 107 = dCnt (dTurn b) (kOf (1 - 0)) from rfl, this]; exact hu.red
theorem general_def {b : List Int} {s : Int} (h : SD s) : dGeneral b s = (sqs.filter fun n => bAt b n == kOf s).headD (-1) := by
  unfold dGeneral kOf; rw [if_pos h.is]
theorem general_turn {b : List Int} (h : BL b) (hu : OneG b) {s : Int} (hs : SD s) : (dGeneral b s = -1 ∧ dGeneral (dTurn b) (1 - s) = -1) ∨ ∃ g, Sqr g ∧ dGeneral b s = g ∧ dGeneral (dTurn b) (1 - s) = 89 - g := by
  have hl := hu.of s
  unfold dCnt at hl
  have e : (sqs.filter fun n => bAt (dTurn b) n == kOf (1 - s)) = ((sqs.filter fun n => bAt b n == kOf s).reverse).map (89 - ·) := by
    refine filter_turn' (f := fun n => bAt b n == kOf s) fun n hn => ?_
    rw [bAt_turn h.len hn, ← kOf_swp hs, Bool.eq_iff_iff, beq_iff_eq, beq_iff_eq]
    exact ⟨fun e => swp_inj (h.by' _) (kOf_by s) e, fun e => by rw [e]⟩
  rw [general_def hs, general_def hs.turn, e]
  generalize hL : (sqs.filter fun n => bAt b n == kOf s) = L at hl
  cases L with
  | nil => left; exact ⟨rfl, rfl⟩
  | cons g L =>
    cases L with
    | cons x L => simp only [List.length_cons] at hl; omega
    | nil =>
      right
      have hg : g ∈ sqs.filter fun n => bAt b n == kOf s := by rw [hL]; simp
      have := mem_sqs.1 (List.mem_filter.1 hg).1
      exact ⟨g, ⟨this.1, this.2⟩, rfl, rfl⟩
theorem set_turn {b : List Int} (h : BL b) {n c : Int} (hn : Sqr n) : dTurn (b.set n.toNat c) = (dTurn b).set (89 - n).toNat (swp c) := by
  have hl : (b.set n.toNat c).length = 90 := by rw [List.length_set]; exact h.len
  refine ext_bAt (turn_len hl) (by rw [List.length_set]; exact turn_len h.len) fun m hm => ?_
  rw [bAt_turn hl hm, bAt_set h.len hn hm.turn.lo, bAt_set (turn_len h.len) hn.turn hm.lo, bAt_turn h.len hm]
  by_cases e : m = 89 - n
  · rw [if_pos e, if_pos (by omega)]
  · rw [if_neg e, if_neg (by omega)]
theorem BL.set {b : List Int} (h : BL b) {n c : Int} (hn : Sqr n) (hc : BY c) : BL (b.set n.toNat c) := by
  refine ⟨by rw [List.length_set]; exact h.len, fun m => ?_⟩
  have e : bAt (b.set n.toNat c) m = bAt (b.set n.toNat c) (m.toNat : Int) := by unfold bAt; rw [Int.toNat_natCast]
  rw [e, bAt_set h.len hn (by omega)]
  split
  · exact hc
  · exact h.by' _
def pOf (s : Int) : Int := if s = 0 then 112 else 80
theorem pOf_swp {s : Int} (h : SD s) : swp (pOf s) = pOf (1 - s) := by rcases h.is with rfl | rfl <;> decide
theorem pOf_by (s : Int) : BY (pOf s) := by unfold pOf; split <;> exact ⟨by decide, by decide, trivial⟩
theorem att_def {b : List Int} {n s : Int} (h : SD s) : dAttackers b n s = sqs.filter fun fr => (spSide (bAt (b.set n.toNat (pOf s)) fr) == s) && dFast (b.set n.toNat (pOf s)) fr n := by
  unfold dAttackers pOf; rw [if_pos h.is]
theorem att_turn {b : List Int} (h : BL b) {n s : Int} (hn : Sqr n) (hs : SD s) : dAttackers (dTurn b) (89 - n) (1 - s) = ((dAttackers b n s).reverse).map (89 - ·) := by
  have hb := h.set hn (pOf_by s)
  rw [att_def hs, att_def hs.turn, ← pOf_swp hs, ← set_turn h hn]
  refine filter_turn' (f := fun fr => (spSide (bAt (b.set n.toNat (pOf s)) fr) == s) && dFast (b.set n.toNat (pOf s)) fr n) fun fr hfr => ?_
  rw [side_turn hb hfr hs]
  have := fast_turn hb hfr.turn hn
  rw [show 89 - (89 - fr) = fr by omega] at this
  rw [this]
theorem in_turn {b : List Int} (h : BL b) (hu : OneG b) {s : Int} (hs : SD s) : dIn (dTurn b) (1 - s) = dIn b s := by
  unfold dIn
  rcases general_turn h hu hs with ⟨e1, e2⟩ | ⟨g, hg, e1, e2⟩
  · rw [e1, e2]; rfl
  · rw [e1, e2, att_turn h hg hs.turn, decide_eq_true hg.lo, decide_eq_true hg.turn.lo]
    congr 2
    cases dAttackers b g (1 - s) <;> simp
theorem between_comm (b : List Int) (x y : Int) : dBetween b x y = dBetween b y x := by
  have e1 : imin x y = imin y x := by unfold imin; split <;> split <;> omega
  have e2 : imax x y = imax y x := by unfold imax; split <;> split <;> omega
  unfold dBetween
  rw [e1, e2]
  by_cases h : x = y
  · rw [if_pos h, if_pos h.symm]
  · rw [if_neg h, if_neg (show ¬ y = x from fun e => h e.symm)]
    by_cases h : x / 9 = y / 9
    · rw [if_pos h, if_pos h.symm]
    · rw [if_neg h, if_neg (show ¬ y / 9 = x / 9 from fun e => h e.symm)]
      by_cases h : x % 9 = y % 9
      · rw [if_pos h, if_pos h.symm]
      · rw [if_neg h, if_neg (show ¬ y % 9 = x % 9 from fun e => h e.symm)]
theorem facing_turn {b : List Int} (h : BL b) (hu : OneG b) : dFacing (dTurn b) = dFacing b := by
  have h0 := general_turn h hu (s := 0) ⟨.inl rfl, trivial, trivial⟩
  have h1 := general_turn h hu (s := 1) ⟨.inr rfl, trivial, trivial⟩
  rw [show (1 : Int) - 0 = 1 from rfl] at h0
  rw [show (1 : Int) - 1 = 0 from rfl] at h1
  unfold dFacing
  rcases h0 with ⟨e1, e2⟩ | ⟨g, hg, e1, e2⟩
  · rw [e1, e2]; simp
  · rcases h1 with ⟨e3, e4⟩ | ⟨k, hk, e3, e4⟩
    · rw [e3, e4]; simp
    · rw [e1, e2, e3, e4, between_turn h hk hg, between_comm, decide_eq_true hg.lo, decide_eq_true hg.turn.lo, decide_eq_true hk.lo, decide_eq_true hk.turn.lo, (files hg).1, (files hk).1]
      congr 2
      rw [Bool.eq_iff_iff, beq_iff_eq, beq_iff_eq]; omega
theorem BL.moved {b : List Int} (h : BL b) {fr to : Int} (hf : Sqr fr) (ht : Sqr to) : BL (dMoved b fr to) := (h.set ht (h.by' fr)).set hf ⟨by decide, by decide, trivial⟩
theorem moved_turn {b : List Int} (h : BL b) {fr to : Int} (hf : Sqr fr) (ht : Sqr to) : dMoved (dTurn b) (89 - fr) (89 - to) = dTurn (dMoved b fr to) := by
  unfold dMoved
  rw [set_turn (h.set ht (h.by' fr)) hf, set_turn h ht, bAt_turn h.len hf.turn, show 89 - (89 - fr) = fr by omega]
  rfl
theorem OneG.moved {b : List Int} (h : BL b) (hu : OneG b) {fr to : Int} (hf : Sqr fr) (ht : Sqr to) (hne : to ≠ fr) : OneG (dMoved b fr to) := by
  refine ⟨?_, ?_⟩
  · rw [cnt_moved h.len hf ht hne (by decide)]; have := hu.red; split <;> omega
  · rw [cnt_moved h.len hf ht hne (by decide)]; have := hu.black; split <;> omega
theorem can_turn {b : List Int} (h : BL b) (hu : OneG b) {s fr to : Int} (hf : Sqr fr) (ht : Sqr to) (hs : SD s) : dCan (dTurn b) (1 - s) (89 - fr) (89 - to) = dCan b s fr to := by
  unfold dCan
  rw [fast_turn h hf ht]
  cases hq : dFast b fr to with
  | false => simp
  | true =>
    have hne := (fast_ne hq).1
    have hm := h.moved hf ht
    have hum := hu.moved h hf ht hne
    have := side_turn h hf.turn hs
    rw [show 89 - (89 - fr) = fr by omega] at this
    rw [this]
    unfold dSafe' dSafeB
    rw [moved_turn h hf ht, facing_turn hm hum, in_turn hm hum hs, bAt_turn h.len ht.turn, show 89 - (89 - to) = to by omega, (swp_ok (h.by' to)).2.2.2.2.2.1]
    rcases hs.is with rfl | rfl <;> rfl
theorem side_turned {b : List Int} (h : BL b) {fr : Int} (hf : Sqr fr) (hs : SD (spSide (bAt b fr))) : spSide (bAt (dTurn b) (89 - fr)) = 1 - spSide (bAt b fr) := by
  have := side_turn h hf.turn hs
  rw [show 89 - (89 - fr) = fr by omega, beq_self_eq_true] at this
  exact beqT this
theorem guarded_turn {b : List Int} (h : BL b) (hu : OneG b) {fr to : Int} (hf : Sqr fr) (ht : Sqr to) : dGuarded (dTurn b) (89 - fr) (89 - to) = dGuarded b fr to := by
  by_cases hs : SD (spSide (bAt b fr))
  · unfold dGuarded
    rw [side_turned h hf hs, can_turn h hu hf ht hs]
    cases hq : dCan b (spSide (bAt b fr)) fr to with
    | false => simp
    | true =>
      rw [Bool.true_and, Bool.true_and, moved_turn h hf ht]
      have hne := (fast_ne (by unfold dCan at hq; simp only [Bool.and_eq_true] at hq; exact hq.1.2 : dFast b fr to = true)).1
      have hm := h.moved hf ht
      have hum := hu.moved h hf ht hne
      rw [Bool.eq_iff_iff, List.any_eq_true, List.any_eq_true]
      have key : ∀ n, Sqr n → ((spSide (bAt (dTurn (dMoved b fr to)) (89 - n)) == 1 - (1 - spSide (bAt b fr))) && dCan (dTurn (dMoved b fr to)) (1 - (1 - spSide (bAt b fr))) (89 - n) (89 - to)) = ((spSide (bAt (dMoved b fr to) n) == 1 - spSide (bAt b fr)) && dCan (dMoved b fr to) (1 - spSide (bAt b fr)) n to) := fun n hn => by
        have e := side_turn hm hn.turn hs.turn
        rw [show 89 - (89 - n) = n by omega] at e
        rw [e, can_turn hm hum hn ht hs.turn]
      constructor
      · rintro ⟨n, hn, e⟩
        have hn' : Sqr n := ⟨(mem_sqs.1 hn).1, (mem_sqs.1 hn).2⟩
        refine ⟨89 - n, mem_sqs.2 ⟨hn'.turn.lo, hn'.turn.hi⟩, ?_⟩
        rw [← key _ hn'.turn, show 89 - (89 - n) = n by omega]; exact e
      · rintro ⟨n, hn, e⟩
        have hn' : Sqr n := ⟨(mem_sqs.1 hn).1, (mem_sqs.1 hn).2⟩
        refine ⟨89 - n, mem_sqs.2 ⟨hn'.turn.lo, hn'.turn.hi⟩, ?_⟩
        rw [key _ hn']; exact e
  · have hb := side_bd (bAt b fr)
    have hm1 : spSide (bAt b fr) = -1 := by
      refine Classical.byContradiction fun e => hs ⟨by omega, trivial, trivial⟩
    have hm2 : spSide (bAt (dTurn b) (89 - fr)) = -1 := by
      rw [bAt_turn h.len hf.turn, show 89 - (89 - fr) = fr by omega]; exact (swp_ok (h.by' fr)).2.2.2.2.1 hm1
    unfold dGuarded dCan
    rw [hm1, hm2]; rfl
def rTurn (p : ByteArray) : ByteArray := if spIs p then bytesOf (dTurn (bytesL p)) else ByteArray.empty
theorem bl_bytes {p : ByteArray} (hp : spIs p = true) : BL (bytesL p) := ⟨(bytesL_len p).trans (spIs_size hp), bAt_by p⟩
theorem rTurn_is {p : ByteArray} (hp : spIs p = true) : spIs (rTurn p) = true ∧ bytesL (rTurn p) = dTurn (bytesL p) := by
  have hb := bl_bytes hp
  have e : bytesL (bytesOf (dTurn (bytesL p))) = dTurn (bytesL p) := bytesL_of fun x hx => by
    unfold dTurn at hx
    rw [List.mem_reverse, List.mem_map] at hx
    obtain ⟨y, hy, rfl⟩ := hx
    have h := bytesL_bound p y hy
    have := swp_ok (c := y) ⟨h.1, h.2, trivial⟩
    exact ⟨this.1, this.2.1⟩
  have hq : rTurn p = bytesOf (dTurn (bytesL p)) := by unfold rTurn; rw [if_pos hp]
  rw [hq]
  refine ⟨is_iff.2 ⟨(size_bytesOf _).trans (turn_len hb.len), fun n hn => ?_⟩, e⟩
  have h1 := bAt_turn hb.len (n := n) ⟨by omega, by omega⟩
  have h2 := bAt_bytes (bytesOf (dTurn (bytesL p))) (n : Int)
  rw [e, Int.toNat_natCast] at h2
  rw [← h2, h1]
  have hc := (is_iff.1 hp).2 (89 - n) (by omega)
  refine (swp_ok (hb.by' _)).2.2.2.2.2.2.2.2 ?_
  rw [bAt_bytes, show (89 - (n : Int)).toNat = 89 - n by omega]; exact hc
theorem gcan_turn {p : ByteArray} (hp : spIs p = true) (hu : OneG (bytesL p)) {s fr to : Int} (hf : Sqr fr) (ht : Sqr to) (hs : SD s) : spGCan (rTurn p) (1 - s) (89 - fr) (89 - to) = spGCan p s fr to := by
  obtain ⟨h1, h2⟩ := rTurn_is hp
  rw [gcan_canon h1 hf.turn ht.turn, gcan_canon hp hf ht, h2, can_turn (bl_bytes hp) hu hf ht hs]
theorem spGuarded_turn {p : ByteArray} (hp : spIs p = true) (hu : OneG (bytesL p)) {fr to : Int} (hf : Sqr fr) (ht : Sqr to) : spGuarded (rTurn p) (89 - fr) (89 - to) = spGuarded p fr to := by
  obtain ⟨h1, h2⟩ := rTurn_is hp
  rw [guarded_canon h1 hf.turn ht.turn, guarded_canon hp hf ht, h2, guarded_turn (bl_bytes hp) hu hf ht]
theorem lex_eq : ∀ {l m : List (Int × Int)}, l.Pairwise Lex → m.Pairwise Lex → (∀ x, x ∈ l ↔ x ∈ m) → l = m := by
  have irr : ∀ x y : Int × Int, Lex x y → Lex y x → False := fun x y h h' => by unfold Lex at h h'; omega
  intro l
  induction l with
  | nil =>
    intro m _ _ h
    cases m with
    | nil => rfl
    | cons y m => exact absurd ((h y).2 (by simp)) (by simp)
  | cons x l ih =>
    intro m hl hm h
    cases m with
    | nil => exact absurd ((h x).1 (by simp)) (by simp)
    | cons y m =>
      rw [List.pairwise_cons] at hl hm
      have hxy : x = y := by
        have h1 := (h x).1 (by simp)
        have h2 := (h y).2 (by simp)
        rw [List.mem_cons] at h1 h2
        rcases h1 with h1 | h1
        · exact h1
        · rcases h2 with h2 | h2
          · exact h2.symm
          · exact (irr x y (hl.1 y h2) (hm.1 x h1)).elim
      subst hxy
      congr 1
      refine ih hl.2 hm.2 (fun z => ?_)
      have := h z
      rw [List.mem_cons, List.mem_cons] at this
      constructor
      · intro hz
        rcases this.1 (.inr hz) with e | e
        · subst e; exact (irr z z (hl.1 z hz) (hl.1 z hz)).elim
        · exact e
      · intro hz
        rcases this.2 (.inr hz) with e | e
        · subst e; exact (irr z z (hm.1 z hz) (hm.1 z hz)).elim
        · exact e
theorem takes_mem {p : ByteArray} {s : Int} (hp : spIs p = true) (hs : SD s) {m : Int × Int} : m ∈ spTakes p s ↔ spGCan p s m.1 m.2 = true ∧ bAt (bytesL p) m.2 ≠ 46 := by
  rw [← takes_of hp hs.is, List.mem_filter, rOf_mem hp hs.is, bne_iff_ne]
def mvT (m : Int × Int) : Int × Int := (89 - m.1, 89 - m.2)
theorem takes_turn {p : ByteArray} {s : Int} (hp : spIs p = true) (hu : OneG (bytesL p)) (hs : SD s) : spTakes (rTurn p) (1 - s) = ((spTakes p s).reverse).map mvT := by
  obtain ⟨h1, h2⟩ := rTurn_is hp
  refine lex_eq (takes_rising _ _) ?_ fun m => ?_
  · rw [List.pairwise_map, List.pairwise_reverse]
    refine (takes_rising p s).imp fun {a b} h => ?_
    unfold Lex at h ⊢
    unfold mvT
    dsimp only
    omega
  · rw [takes_mem h1 hs.turn, List.mem_map]
    constructor
    · rintro ⟨e1, e2⟩
      obtain ⟨_, q1, q2, _⟩ := gcan_ok e1
      refine ⟨(89 - m.1, 89 - m.2), ?_, by unfold mvT; dsimp only; rw [show 89 - (89 - m.1) = m.1 by omega, show 89 - (89 - m.2) = m.2 by omega]⟩
      rw [List.mem_reverse, takes_mem hp hs]
      have := gcan_turn hp hu q1.turn q2.turn hs
      rw [show 89 - (89 - m.1) = m.1 by omega, show 89 - (89 - m.2) = m.2 by omega] at this
      refine ⟨by rw [← this]; exact e1, fun e => e2 ?_⟩
      have := (dot_turn (bl_bytes hp) q2.turn).2 e
      rw [show 89 - (89 - m.2) = m.2 by omega] at this
      rw [h2]; exact this
    · rintro ⟨k, hk, rfl⟩
      rw [List.mem_reverse, takes_mem hp hs] at hk
      obtain ⟨_, q1, q2, _⟩ := gcan_ok hk.1
      unfold mvT
      dsimp only
      refine ⟨by rw [gcan_turn hp hu q1 q2 hs]; exact hk.1, fun e => hk.2 ?_⟩
      rw [h2] at e
      exact (dot_turn (bl_bytes hp) q2).1 e
theorem empty_is : spIs ByteArray.empty = false := by
  cases h : spIs ByteArray.empty with
  | false => rfl
  | true => have := spIs_size h; cases this
theorem rTurn_bad {p : ByteArray} (hp : spIs p = false) : rTurn p = ByteArray.empty := by unfold rTurn; rw [if_neg (by rw [hp]; exact Bool.noConfusion)]
theorem takes_turn0 {p : ByteArray} (hu : spIs p = true → OneG (bytesL p)) : spTakes (rTurn p) 1 = ((spTakes p 0).reverse).map mvT := by
  cases hp : spIs p with
  | true =>
    have h := takes_turn hp (hu hp) ⟨.inl rfl, trivial, trivial⟩
    rw [show (1 : Int) - 0 = 1 from rfl] at h
    exact h
  | false => rw [takes_bad hp, rTurn_bad hp, takes_bad empty_is]; rfl
end Go.X

namespace Go.X
open Go

theorem pArg_eq {p : ByteArray} {side clock full : Int} : (!spIs p || ((side != 0) && (side != 1)) || decide (clock < 0) || decide (clock > 120) || decide (full < 1) || decide (full > 9999)) = rArg p side clock full := by
  have e : ((side != 0) && (side != 1)) = (decide (side < 0) || decide (side > 1)) := by
    rw [Bool.eq_iff_iff]; simp only [Bool.and_eq_true, bne_iff_ne, Bool.or_eq_true, decide_eq_true_eq]; omega
  unfold rArg
  rw [e]
  simp only [Bool.or_assoc]
theorem pArg_t {p : ByteArray} {side clock full : Int} (h : (!spIs p || ((side != 0) && (side != 1)) || decide (clock < 0) || decide (clock > 120) || decide (full < 1) || decide (full > 9999)) = true) : rArg p side clock full = true := pArg_eq ▸ h
theorem pArg_f {p : ByteArray} {side clock full : Int} (h : (!spIs p || ((side != 0) && (side != 1)) || decide (clock < 0) || decide (clock > 120) || decide (full < 1) || decide (full > 9999)) = false) : rArg p side clock full = false := pArg_eq ▸ h
def cntT (b : List Int) (i : Nat) : List Int := (List.range 256).map fun c : Nat => (((b.take i).count (c : Int) : Nat) : Int)
theorem cntT_len (b : List Int) (i : Nat) : (cntT b i).length = 256 := by simp [cntT]
theorem cntT_zero (b : List Int) : cntT b 0 = List.replicate 256 0 := by
  unfold cntT
  simp only [List.take_zero, List.count_nil]
  rw [List.map_const', List.length_range]; rfl
theorem cntT_get (b : List Int) (i : Nat) {c : Int} (hc : BY c) : (cntT b i).getD c.toNat 0 = (((b.take i).count c : Nat) : Int) := by
  have h1 := hc.lo; have h2 := hc.hi
  unfold cntT
  rw [List.getD_eq_getElem?_getD, List.getElem?_map, List.getElem?_range (by omega)]
  show (((b.take i).count ((c.toNat : Nat) : Int) : Nat) : Int) = _
  rw [show ((c.toNat : Nat) : Int) = c by omega]
set_option maxRecDepth 10000 in
theorem cntT_next {b : List Int} {i : Nat} (h : i < b.length) (hc : BY (b.getD i 0)) : cntT b (i + 1) = (cntT b i).set (b.getD i 0).toNat ((cntT b i).getD (b.getD i 0).toNat 0 + 1) := by
  have h1 := hc.lo; have h2 := hc.hi
  have e : b.getD i 0 = b[i] := by rw [List.getD_eq_getElem?_getD, List.getElem?_eq_getElem h]; rfl
  obtain ⟨x, hx⟩ : ∃ x, (cntT b i).getD (b.getD i 0).toNat 0 = x := ⟨_, rfl⟩
  rw [hx]
  rw [cntT_get b i hc] at hx
  refine List.ext_getElem (by rw [List.length_set, cntT_len, cntT_len]) fun k hk1 hk2 => ?_
  have hk : k < 256 := by rw [cntT_len] at hk1; exact hk1
  subst hx
  have el : ∀ j (hj : k < (cntT b j).length), (cntT b j)[k] = (((b.take j).count (k : Int) : Nat) : Int) := fun j hj => by
    have := cntT_get b j (c := (k : Int)) ⟨by omega, by omega, trivial⟩
    rw [List.getD_eq_getElem?_getD, Int.toNat_natCast, List.getElem?_eq_getElem hj] at this
    exact this
  rw [List.getElem_set, el, el, List.take_succ_eq_append_getElem h, List.count_append, List.count_singleton, ← e]
  by_cases hkc : (b.getD i 0).toNat = k
  · rw [if_pos hkc, show ((k : Nat) : Int) = b.getD i 0 by omega]; simp
  · rw [if_neg hkc, if_neg (by rw [beq_iff_eq]; omega)]; simp
theorem cntT_all {b : List Int} (hb : b.length = 90) {c : Int} (hc : BY c) : (cntT b 90).getD c.toNat 0 = dCnt b c := by
  rw [cntT_get b 90 hc, List.take_of_length_le (by omega), dCnt_count hb]
theorem cntT_bd (b : List Int) (i : Nat) (h : b.length = 90) {c : Int} (hc : BY c) : 0 ≤ (cntT b i).getD c.toNat 0 ∧ (cntT b i).getD c.toNat 0 ≤ 90 := by
  rw [cntT_get b i hc]
  have := List.count_le_length (a := c) (l := b.take i)
  rw [List.length_take] at this
  omega
def rightTo (b : List Int) (i : Nat) : Bool := !((List.range i).any fun k => dBadP b (Int.ofNat k))
theorem rightTo_next (b : List Int) (i : Nat) : rightTo b (i + 1) = (rightTo b i && ((bAt b (Int.ofNat i) == 46) || spMay (bAt b (Int.ofNat i)) (Int.ofNat i))) := by
  unfold rightTo
  rw [List.range_succ, List.any_append, Bool.not_or]
  congr 1
  simp only [List.any_cons, List.any_nil, Bool.or_false, dBadP, Bool.not_and, Bool.not_not]
  unfold bne
  rw [Bool.not_not]
theorem rightTo_all (b : List Int) : rightTo b 90 = !(sqs.any (dBadP b)) := by
  unfold rightTo sqs; rw [List.any_map]; rfl
theorem letL_by : ∀ i, i < 14 → BY (letL.getD i 0) := fun i hi => by
  have : ∀ i, i < 14 → 0 ≤ letL.getD i 0 ∧ letL.getD i 0 < 256 := by decide
  exact ⟨(this i hi).1, (this i hi).2, trivial⟩
theorem rightTo_zero (b : List Int) : rightTo b 0 = true := rfl
end Go.X

namespace Go.X
open Go
structure WL (p : ByteArray) (side clock full : Int) : Prop where
  is : rWell p side clock full = 0
  u : True
  v : True
theorem or_l {a c : Bool} (h : (!a) = false) : (a || c) = true := by cases a <;> simp_all
theorem or_r {a c x : Bool} (h : (!a) = true) (hc : c = x) : (a || c) = x := by cases a <;> simp_all
theorem LB_all (p : ByteArray) (fr : Int) : LB (spAll p fr) := Nat.le_trans (all_len p fr) (by decide)
theorem sp_byte {p : ByteArray} {n : Int} (hp : spIs p = true) (hn : Sqr n) : spAt p n = bAt (bytesL p) n := by
  unfold spAt; rw [hn.is, hp, bAt_bytes]; rfl
theorem sq_of {n : Int} (h : ¬ Sqr n) : spIsSquare n = false := by
  cases e : spIsSquare n with
  | false => rfl
  | true => have := isSquare_iff.1 e; exact absurd ⟨this.1, this.2⟩ h
theorem can_sq {p : ByteArray} {fr to : Int} (h : spCan p fr to = true) : Sqr fr ∧ Sqr to := by
  have := all_is (can_mem.1 h)
  exact ⟨⟨this.2.1.1, this.2.1.2⟩, ⟨this.2.2.1, this.2.2.2⟩⟩
theorem apply_form {p : ByteArray} {side fr to : Int} (hp : spIs p = true) : ((!(spSide (spAt p fr) == side)) || (spKind (spAt p to) == 75) || !((spAll p fr).any fun x => to == x)) = !rOkM (bytesL p) side fr to := by
  show ((!(spSide (spAt p fr) == side)) || (spKind (spAt p to) == 75) || !spCan p fr to) = _
  by_cases h : Sqr fr ∧ Sqr to
  · obtain ⟨hf, ht⟩ := h
    rw [sp_byte hp hf, sp_byte hp ht, can_canon hp hf ht]
    unfold rOkM bne
    rw [hf.is, ht.is]
    generalize (spSide (bAt (bytesL p) fr) == side) = a
    generalize (spKind (bAt (bytesL p) to) == 75) = b
    generalize dFast (bytesL p) fr to = c
    cases a <;> cases b <;> cases c <;> rfl
  · have h1 : spCan p fr to = false := by
      cases e : spCan p fr to with
      | false => rfl
      | true => exact absurd (can_sq e) h
    have h2 : rOkM (bytesL p) side fr to = false := by
      unfold rOkM
      by_cases hf : Sqr fr
      · rw [sq_of (fun ht => h ⟨hf, ht⟩)]; simp
      · rw [sq_of hf]; simp
    rw [h1, h2]; simp
theorem apply_2 {p : ByteArray} {side clock full fr to : Int} (h : (rCheck p side clock full != 0) = false) (h2 : ((!(spSide (spAt p fr) == side)) || (spKind (spAt p to) == 75) || !((spAll p fr).any fun x => to == x)) = true) : 7 = rAppE p side clock full fr to ∧ ¬ rAppE p side clock full fr to = 0 := by
  rw [apply_form (pos_ok (bneF h)).is] at h2
  unfold rAppE; rw [if_neg (by simpa using bneF h), if_neg (by rw [bt h2]; exact Bool.noConfusion)]; exact ⟨rfl, by decide⟩
structure AppOk (p : ByteArray) (side clock full fr to : Int) : Prop where
  e : rAppE p side clock full fr to = 0
  pos : PosOk p side clock full
  sf : Sqr fr
  st : Sqr to
  at' : spAt p to = bAt (bytesL p) to
theorem apply_0 {p : ByteArray} {side clock full fr to : Int} (h : (rCheck p side clock full != 0) = false) (h2 : ((!(spSide (spAt p fr) == side)) || (spKind (spAt p to) == 75) || !((spAll p fr).any fun x => to == x)) = false) : AppOk p side clock full fr to := by
  have ho := pos_ok (bneF h)
  rw [apply_form ho.is] at h2
  have hr := bn h2
  have hsq : Sqr fr ∧ Sqr to := by
    unfold rOkM at hr
    simp only [Bool.and_eq_true, isSquare_iff] at hr
    exact ⟨⟨hr.1.1.1.1.1, hr.1.1.1.1.2⟩, ⟨hr.1.1.1.2.1, hr.1.1.1.2.2⟩⟩
  exact ⟨by unfold rAppE; rw [if_neg (by simpa using bneF h), if_pos hr], ho, hsq.1, hsq.2, sp_byte ho.is hsq.2⟩
theorem nC_t {p : ByteArray} {clock to : Int} (e : spAt p to = bAt (bytesL p) to) (h : (spAt p to == 46) = true) (hc : 0 ≤ clock ∧ clock ≤ 120) : nClock (bytesL p) clock to = if 120 < IntKind.i64.wrap (clock + 1) then 120 else IntKind.i64.wrap (clock + 1) := nClock_f (by rw [← e, beqT h]; rfl) hc
theorem nC_f {p : ByteArray} {clock to : Int} (e : spAt p to = bAt (bytesL p) to) (h : (spAt p to == 46) = false) : nClock (bytesL p) clock to = 0 := nClock_t (by rw [← e]; simpa using beqF h)
theorem nT_t {p : ByteArray} {to : Int} (e : spAt p to = bAt (bytesL p) to) (h : (spAt p to == 46) = true) : nTaken (bytesL p) to = 0 := nTaken_f (by rw [← e, beqT h]; rfl)
theorem nT_f {p : ByteArray} {to : Int} (e : spAt p to = bAt (bytesL p) to) (h : (spAt p to == 46) = false) : nTaken (bytesL p) to = spAt p to := (nTaken_t (by rw [← e]; simpa using beqF h)).trans e.symm
theorem lsafe_form {p : ByteArray} {side clock full fr to : Int} (hw : rWell p side clock full = 0) : ((rAppE p side clock full fr to == 0) && (rWell (if rAppE p side clock full fr to = 0 then spMoved p fr to else ByteArray.empty) (if rAppE p side clock full fr to = 0 then 1 - side else 0) (if rAppE p side clock full fr to = 0 then nClock (bytesL p) clock to else 0) (if rAppE p side clock full fr to = 0 then nFull side full else 0) == 0)) = spGCan p side fr to := by
  have hg := make_app (fr := fr) (to := to) hw
  have he := app_well (fr := fr) (to := to) (show (rWell p side clock full != 0) = false by rw [hw]; rfl)
  cases hr : rOkM (bytesL p) side fr to with
  | false =>
    rw [hr, if_neg Bool.noConfusion] at he
    rw [hg, hr, he]; rfl
  | true =>
    rw [hr, if_pos rfl] at he
    rw [he]
    simp only [if_true, beq_self_eq_true, Bool.true_and]
    rw [Bool.eq_iff_iff, beq_iff_eq]
    constructor
    · intro h
      obtain ⟨_, h1, h2⟩ := rWell_check h
      rw [show 1 - (1 - side) = side by omega] at h2
      rw [hg, hr, h1, h2]; rfl
    · intro h; exact well_moved hw h
theorem make_p2 {p : ByteArray} {side clock full fr to : Int} (h : (rWell p side clock full != 0) = false) (h2 : (!spGCan p side fr to) = true) : 7 = rMakeE p side clock full fr to ∧ ¬ rMakeE p side clock full fr to = 0 := by
  unfold rMakeE; rw [if_neg (by simpa using bneF h), if_neg (by rw [bt h2]; exact Bool.noConfusion)]; exact ⟨rfl, by decide⟩
theorem make_p0 {p : ByteArray} {side clock full fr to : Int} (h : (rWell p side clock full != 0) = false) (h2 : (!spGCan p side fr to) = false) : rMakeE p side clock full fr to = 0 ∧ rAppE p side clock full fr to = 0 := by
  have hg := make_app (fr := fr) (to := to) (bneF h)
  have he := app_well (fr := fr) (to := to) h
  refine ⟨by unfold rMakeE; rw [if_neg (by simpa using bneF h), if_pos (bn h2)], ?_⟩
  rw [bn h2] at hg
  rw [he, if_pos]
  cases hr : rOkM (bytesL p) side fr to with
  | true => rfl
  | false => rw [hr] at hg; cases hg
end Go.X

namespace Go.X
open Go
def rSq (f r : Int) : Int := if 65 ≤ f ∧ f ≤ 73 then spSquare (f - 65) (r - 48) else if 97 ≤ f ∧ f ≤ 105 then spSquare (f - 97) (r - 48) else -1
theorem square_eq (a b : Int) : spSquare a b = if 0 ≤ a ∧ a < 9 ∧ 0 ≤ b ∧ b < 10 then b * 9 + a else -1 := by
  unfold spSquare
  simp only [Bool.and_eq_true, decide_eq_true_eq, and_assoc]
theorem rSq_eq {f r : Int} : rSq f r = if 65 ≤ f ∧ f ≤ 73 ∧ 48 ≤ r ∧ r ≤ 57 then (r - 48) * 9 + (f - 65) else if 97 ≤ f ∧ f ≤ 105 ∧ 48 ≤ r ∧ r ≤ 57 then (r - 48) * 9 + (f - 97) else -1 := by
  unfold rSq
  rw [square_eq, square_eq]
  repeat' split
  all_goals first | omega | rfl
theorem rSq_hi {f r : Int} : -1 ≤ rSq f r ∧ rSq f r < 90 := by
  rw [rSq_eq]
  repeat' split
  all_goals omega
def iS (s : ByteArray) : ByteArray := if (((s.size : Int) == 5) && (byteAt s 2 == 45)) = true then s.extract 0 2 ++ s.extract 3 s.size else s
def iF (s : ByteArray) : Int := rSq (byteAt (iS s) 0) (byteAt (iS s) 1)
def iT (s : ByteArray) : Int := rSq (byteAt (iS s) 2) (byteAt (iS s) 3)
def iOk (s : ByteArray) : Bool := ((iS s).size : Int) == 4 && !(decide (iF s < 0) || decide (iT s < 0))
def iErr (s : ByteArray) : Int := if iOk s = true then 0 else 6
def iFr (s : ByteArray) : Int := if iOk s = true then iF s else 0
def iTo (s : ByteArray) : Int := if iOk s = true then iT s else 0
structure S2 (s : ByteArray) : Prop where
  le : 2 ≤ s.size
  u : True
  v : True
theorem iS_t {s : ByteArray} (h : (((s.size : Int) == 5) && (byteAt s 2 == 45)) = true) : iS s = s.extract 0 2 ++ s.extract 3 s.size := if_pos h
theorem iS_f {s : ByteArray} (h : (((s.size : Int) == 5) && (byteAt s 2 == 45)) = false) : iS s = s := if_neg (by rw [h]; exact Bool.noConfusion)
theorem size5 {s : ByteArray} (h : (((s.size : Int) == 5) && (byteAt s 2 == 45)) = true) : s.size = 5 := by
  simp only [Bool.and_eq_true, beq_iff_eq] at h; omega
theorem ok_4 {s : ByteArray} (h : (((iS s).size : Int) != 4) = true) : iErr s = 6 ∧ iFr s = 0 ∧ iTo s = 0 := by
  have : iOk s = false := by unfold iOk; rw [Bool.and_eq_false_iff]; exact .inl (by simpa using h)
  unfold iErr iFr iTo; rw [this]; simp
theorem ok_n {s : ByteArray} (h : (decide (iF s < 0) || decide (iT s < 0)) = true) : iErr s = 6 ∧ iFr s = 0 ∧ iTo s = 0 := by
  have : iOk s = false := by unfold iOk; rw [h]; simp
  unfold iErr iFr iTo; rw [this]; simp
theorem ok_y {s : ByteArray} (h4 : (((iS s).size : Int) != 4) = false) (h : (decide (iF s < 0) || decide (iT s < 0)) = false) : iErr s = 0 ∧ iFr s = iF s ∧ iTo s = iT s := by
  have : iOk s = true := by unfold iOk; rw [h]; simp only [Bool.not_false, Bool.and_true]; simpa using h4
  unfold iErr iFr iTo; rw [this]; simp
theorem ok_or {s : ByteArray} (h : (((iS s).size : Int) != 4 || decide (iF s < 0) || decide (iT s < 0)) = true) : iErr s = 6 ∧ iFr s = 0 ∧ iTo s = 0 := by
  simp only [Bool.or_assoc] at h
  rcases Bool.or_eq_true .. ▸ h with h | h
  · exact ok_4 h
  · exact ok_n h
theorem ok_and {s : ByteArray} (h : (((iS s).size : Int) != 4 || decide (iF s < 0) || decide (iT s < 0)) = false) : iErr s = 0 ∧ iFr s = iF s ∧ iTo s = iT s := by
  simp only [Bool.or_assoc] at h
  have h := Bool.or_eq_false_iff.1 h
  exact ok_y h.1 h.2
theorem okX_4 {s X : ByteArray} (e : iS s = X) (h : ((X.size : Int) != 4) = true) : iErr s = 6 ∧ iFr s = 0 ∧ iTo s = 0 := by subst e; exact ok_4 h
theorem okX_n {s X : ByteArray} (e : iS s = X) (h : (decide (rSq (byteAt X 0) (byteAt X 1) < 0) || decide (rSq (byteAt X 2) (byteAt X 3) < 0)) = true) : iErr s = 6 ∧ iFr s = 0 ∧ iTo s = 0 := by subst e; exact ok_n h
theorem okX_y {s X : ByteArray} (e : iS s = X) (h4 : ((X.size : Int) != 4) = false) (h : (decide (rSq (byteAt X 0) (byteAt X 1) < 0) || decide (rSq (byteAt X 2) (byteAt X 3) < 0)) = false) : iErr s = 0 ∧ iFr s = rSq (byteAt X 0) (byteAt X 1) ∧ iTo s = rSq (byteAt X 2) (byteAt X 3) := by subst e; exact ok_y h4 h
theorem ne4 {X : ByteArray} (h : ((X.size : Int) != 4) = false) : X.size = 4 := by
  have h2 : (X.size : Int) = 4 := bneF h
  omega
theorem byteAt_ext {X : ByteArray} {i j k : Nat} (h : i + k < j) (hj : j ≤ X.size) : byteAt (X.extract i j) k = byteAt X (i + k) := by
  unfold byteAt
  rw [ByteArray.data_extract, Array.toList_extract, List.extract_eq_take_drop, List.getD_eq_getElem?_getD, List.getD_eq_getElem?_getD, List.getElem?_take, if_pos (by omega), List.getElem?_drop]
theorem size4 {X : ByteArray} (h : (!((X.size : Int) != 4)) = true) : X.size = 4 := ne4 (bt h)
theorem size4o {X : ByteArray} {b : Bool} (h : (!((X.size : Int) != 4 || b)) = true) : X.size = 4 := ne4 (Bool.or_eq_false_iff.1 (bt h)).1
theorem size4f {X : ByteArray} {b c : Bool} (h : ((X.size : Int) != 4 || b || c) = false) : X.size = 4 := ne4 (Bool.or_eq_false_iff.1 (Bool.or_eq_false_iff.1 h).1).1
theorem ext4 {X : ByteArray} (h : X.size = 4) : byteAt (X.extract 0 2) 0 = byteAt X 0 ∧ byteAt (X.extract 0 2) 1 = byteAt X 1 ∧ byteAt (X.extract 2 X.size) 0 = byteAt X 2 ∧ byteAt (X.extract 2 X.size) 1 = byteAt X 3 :=
  ⟨byteAt_ext (by omega) (by omega), byteAt_ext (by omega) (by omega), byteAt_ext (by omega) (by omega), byteAt_ext (by omega) (by omega)⟩
theorem okE_or {s X : ByteArray} (e : iS s = X) (h : ((X.size : Int) != 4 || decide (rSq (byteAt (X.extract 0 2) 0) (byteAt (X.extract 0 2) 1) < 0) || decide (rSq (byteAt (X.extract 2 X.size) 0) (byteAt (X.extract 2 X.size) 1) < 0)) = true) : iErr s = 6 ∧ iFr s = 0 ∧ iTo s = 0 := by
  cases h4 : (X.size : Int) != 4 with
  | true => exact okX_4 e h4
  | false =>
    obtain ⟨e1, e2, e3, e4⟩ := ext4 (ne4 h4)
    rw [h4, e1, e2, e3, e4, Bool.false_or] at h
    exact okX_n e h
theorem okE_and {s X : ByteArray} (e : iS s = X) (h : ((X.size : Int) != 4 || decide (rSq (byteAt (X.extract 0 2) 0) (byteAt (X.extract 0 2) 1) < 0) || decide (rSq (byteAt (X.extract 2 X.size) 0) (byteAt (X.extract 2 X.size) 1) < 0)) = false) : iErr s = 0 ∧ iFr s = rSq (byteAt (X.extract 0 2) 0) (byteAt (X.extract 0 2) 1) ∧ iTo s = rSq (byteAt (X.extract 2 X.size) 0) (byteAt (X.extract 2 X.size) 1) := by
  cases h4 : (X.size : Int) != 4 with
  | true => rw [h4] at h; cases h
  | false =>
    obtain ⟨e1, e2, e3, e4⟩ := ext4 (ne4 h4)
    rw [h4, e1, e2, e3, e4, Bool.false_or] at h
    rw [e1, e2, e3, e4]
    exact okX_y e h4 h
def pr4 (f t : Int) : List Int := [97 + f % 9, 48 + f / 9, 97 + t % 9, 48 + t / 9]
def spPrint (f t : Int) : ByteArray := if spIsSquare f = true ∧ spIsSquare t = true then bytesOf (pr4 f t) else ByteArray.empty
theorem print_no {f t : Int} (h : ¬ (spIsSquare f = true ∧ spIsSquare t = true)) : spPrint f t = ⟨#[]⟩ := if_neg h
theorem print_yes {f t : Int} (hf : Sqr f) (ht : Sqr t) : spPrint f t = bytesOf [97 + f % 9, 48 + f / 9] ++ bytesOf [97 + t % 9, 48 + t / 9] := by
  unfold spPrint
  rw [if_pos ⟨hf.is, ht.is⟩]
  apply ByteArray.ext
  apply Array.toList_inj.1
  rw [ByteArray.data_append, Array.toList_append, bytesOf_list, bytesOf_list, bytesOf_list]; rfl
theorem bytesOf_size (l : List Int) : (bytesOf l).size = l.length := by
  have h := congrArg List.length (bytesOf_list l)
  rw [List.length_map] at h
  exact h
theorem fileA_neg {n : Int} (h : decide (spFile n < 0) = true) : spIsSquare n = false := by
  have h := of_decide_eq_true h
  cases e : spIsSquare n with
  | false => rfl
  | true => unfold spFile at h; rw [if_pos e] at h; have := isSquare_iff.1 e; omega
theorem fileA_pos {n : Int} (h : decide (spFile n < 0) = false) : Sqr n ∧ spFile n = n % 9 ∧ spRank n = n / 9 := by
  have h := of_decide_eq_false h
  cases e : spIsSquare n with
  | false => unfold spFile at h; rw [e] at h; simp at h
  | true => have := isSquare_iff.1 e; exact ⟨⟨this.1, this.2⟩, by unfold spFile; rw [if_pos e], by unfold spRank; rw [if_pos e]⟩
theorem pr_w {n : Int} (h : decide (spFile n < 0) = false) : Sqr n ∧ [IntKind.u8.wrap (IntKind.i64.wrap (97 + spFile n)), IntKind.u8.wrap (IntKind.i64.wrap (48 + spRank n))] = [97 + n % 9, 48 + n / 9] := by
  obtain ⟨hs, e1, e2⟩ := fileA_pos h
  have h1 := hs.lo; have h2 := hs.hi
  refine ⟨hs, ?_⟩
  rw [e1, e2, wrap64 (x := 97 + n % 9) (by omega) (by omega), wrap64 (x := 48 + n / 9) (by omega) (by omega), wrapB (by omega) (by omega), wrapB (by omega) (by omega)]
theorem print_4 {f t : Int} (hf : Sqr f) (ht : Sqr t) : spPrint f t = bytesOf ((pr4 f t).take (2 * 2)) := if_pos ⟨hf.is, ht.is⟩
theorem print_n1 {f t : Int} (h : decide (spFile f < 0) = true) : spPrint f t = ⟨#[]⟩ := print_no (by rw [fileA_neg h]; simp)
theorem print_n2 {f t : Int} (h : decide (spFile t < 0) = true) : spPrint f t = ⟨#[]⟩ := print_no (by rw [fileA_neg h]; simp)
attribute [irreducible] iS iF iT iOk iErr iFr iTo rSq spPrint
end Go.X

namespace Go.X
open Go

structure S1 (s : ByteArray) : Prop where
  is : s.size = 1
  u : True
  v : True
theorem toList_loop (b : ByteArray) : ∀ (k i : Nat) (r : List UInt8), b.size - i = k → ByteArray.toList.loop b i r = r.reverse ++ b.data.toList.drop i := by
  intro k
  induction k with
  | zero =>
    intro i r h
    unfold ByteArray.toList.loop
    rw [if_neg (by omega), List.drop_of_length_le (by have : b.data.toList.length = b.size := rfl; omega), List.append_nil]
  | succ k ih =>
    intro i r h
    unfold ByteArray.toList.loop
    rw [if_pos (by omega), ih (i + 1) _ (by omega), List.reverse_cons, List.append_assoc]
    have hi : i < b.data.toList.length := by have : b.data.toList.length = b.size := rfl; omega
    rw [List.drop_eq_getElem_cons hi]
    congr 2
    have hi' : i < b.data.size := hi
    show b.data[i]! :: _ = _
    rw [getElem!_pos b.data i hi']; rfl
theorem toList_data (b : ByteArray) : b.toList = b.data.toList := toList_loop b _ 0 [] rfl
theorem strEq_eq {x y : ByteArray} (h : strEq x y = true) : x = y := by
  unfold strEq at h
  have h := beq_iff_eq.1 h
  rw [toList_data, toList_data] at h
  exact ByteArray.ext (Array.toList_inj.1 h)
theorem idx_self {s t : ByteArray} (h1 : t.size = 1) (h : strEq t s = true) : spIdxB s.data.toList (byteAt t 0) = 0 := by
  have := strEq_eq h
  subst this
  obtain ⟨⟨l⟩⟩ := t
  match l, h1 with
  | [x], _ =>
    unfold spIdxB byteAt
    simp [Lib.indexByte]
def prM (m : Int × Int) : ByteArray := spPrint m.1 m.2
def spText (l : List (Int × Int)) : ByteArray := if (l.all fun m => !strEq (prM m) ⟨#[]⟩) = true then joinS (l.map prM) ⟨#[32]⟩ else ⟨#[]⟩
theorem text_bad {l : List (Int × Int)} {i : Nat} (hi : i < l.length) (h : strEq (prM (l.getD i (0, 0))) ⟨#[]⟩ = true) : spText l = ⟨#[]⟩ := by
  unfold spText
  rw [if_neg]
  intro ha
  rw [List.all_eq_true] at ha
  have := ha (l.getD i (0, 0)) (by rw [List.getD_eq_getElem?_getD, List.getElem?_eq_getElem hi]; exact List.getElem_mem hi)
  rw [h] at this; cases this
theorem text_ok {l : List (Int × Int)} (h : ∀ j, j < l.length → strEq (prM (l.getD j (0, 0))) ⟨#[]⟩ = false) : spText l = joinS (l.map prM) ⟨#[32]⟩ := by
  unfold spText
  rw [if_pos]
  rw [List.all_eq_true]
  intro m hm
  obtain ⟨j, hj, rfl⟩ := List.mem_iff_getElem.1 hm
  have := h j hj
  rw [List.getD_eq_getElem?_getD, List.getElem?_eq_getElem hj] at this
  simp only [Option.getD_some] at this
  rw [this]; rfl
theorem take_map_next {α β : Type} (f : α → β) (d : α) {l : List α} {i : Nat} (hi : i < l.length) : (l.take (i + 1)).map f = (l.take i).map f ++ [f (l.getD i d)] := by
  rw [List.take_succ_eq_append_getElem hi, List.map_append, List.getD_eq_getElem?_getD, List.getElem?_eq_getElem hi]; rfl
structure LML (l : List (Int × Int)) : Prop where
  le : l.length ≤ 4096
  u : True
  v : True
theorem print_len (f t : Int) : (spPrint f t).size ≤ 4 := by
  unfold spPrint
  split
  · rw [bytesOf_size]; exact Nat.le_refl _
  · exact Nat.zero_le _
theorem join_len (sep : List UInt8) : ∀ L : List (List UInt8), (∀ x ∈ L, x.length ≤ 4) → (Lib.join L sep).length ≤ (4 + sep.length) * L.length := by
  intro L
  induction L with
  | nil => intro _; simp [Lib.join]
  | cons x L ih =>
    intro h
    have hx := h x (by simp)
    have := ih fun y hy => h y (by simp [hy])
    cases L with
    | nil => simp [Lib.join]; omega
    | cons y L =>
      have e : Lib.join (x :: y :: L) sep = x ++ (sep ++ Lib.join (y :: L) sep) := by simp [Lib.join, List.intercalate]
      rw [e, List.length_append, List.length_append, List.length_cons, Nat.mul_succ]
      omega
theorem text_lj {l : List (Int × Int)} (h : l.length ≤ 4096) : LJ (l.map prM) ⟨#[32]⟩ := by
  refine ⟨by rw [List.length_map]; omega, ?_, trivial⟩
  refine Nat.le_trans (join_len _ _ ?_) ?_
  · intro x hx
    simp only [List.map_map, List.mem_map] at hx
    obtain ⟨m, _, rfl⟩ := hx
    exact print_len m.1 m.2
  · simp only [List.length_map]
    show 5 * l.length ≤ _
    omega
def sameM (l m : List (Int × Int)) : Bool := decide (l = m)
structure LL (l m : List (Int × Int)) : Prop where
  l : l.length ≤ 1000000
  m : m.length ≤ 1000000
  v : True
theorem same_len {l m : List (Int × Int)} (h : ((l.length : Int) != (m.length : Int)) = true) : sameM l m = false := by
  unfold sameM
  rw [decide_eq_false_iff_not]
  intro e
  subst e
  simp at h
theorem same_no {l m : List (Int × Int)} {i : Nat} (hi : i < l.length) (hm : i < m.length) (h : (!(EK.eqb (.pair (.int .i64) (.int .i64)) (l.getD i (0, 0)) (m.getD i (0, 0)))) = true) : sameM l m = false := by
  unfold sameM
  rw [decide_eq_false_iff_not]
  intro e
  subst e
  simp [EK.eqb] at h
theorem same_yes {l m : List (Int × Int)} (hl : l.length = m.length) (h : ∀ j, j < l.length → l.getD j (0, 0) = m.getD j (0, 0)) : sameM l m = true := by
  unfold sameM
  rw [decide_eq_true_eq]
  refine List.ext_getElem hl fun j h1 h2 => ?_
  have := h j h1
  rwa [List.getD_eq_getElem?_getD, List.getD_eq_getElem?_getD, List.getElem?_eq_getElem h1, List.getElem?_eq_getElem h2] at this
theorem pair_eq {x y : Int × Int} (h : (!(EK.eqb (.pair (.int .i64) (.int .i64)) x y)) = false) : x = y := by
  have h := bn h
  simp [EK.eqb] at h
  exact Prod.ext h.1 h.2
end Go.X

namespace Go.X
open Go

def atoiV (s : ByteArray) : Int := match Lib.atoiAll s.data.toList with
  | .ok v => v
  | .range => Lib.atoiSat s.data.toList
  | _ => 0
def atoiOk (s : ByteArray) : Bool := match Lib.atoiAll s.data.toList with
  | .ok _ => true
  | _ => false
def itoaB (n : Int) : ByteArray := ⟨(Lib.itoa n).toArray⟩
def numOk (s : ByteArray) : Bool := ((atoiOk s && decide (atoiV s ≥ 0)) && decide ((s.size : Int) ≤ 4)) && strEq (itoaB (atoiV s)) s
theorem atoiV_bounds (s : ByteArray) : -9223372036854775808 ≤ atoiV s ∧ atoiV s ≤ 9223372036854775807 := by
  unfold atoiV
  split
  · rename_i v h; exact Lib.atoiAll_bounds h
  · exact Lib.atoiSat_bounds _
  · exact ⟨by decide, by decide⟩
abbrev Pos4 : Type := ByteArray × Int × Int × Int
def fld (s : ByteArray) (i : Nat) : ByteArray := (pieces 32 s).getD i ByteArray.empty
def wrb : ByteArray := ⟨#[119, 114, 98]⟩
def sideP (t : ByteArray) : Int := IntKind.i64.wrap (Int.tdiv (Lib.index wrb.data.toList t.data.toList) 2)
def sideOk (t : ByteArray) : Bool := decide (t.size = 1) && Lib.contains wrb.data.toList t.data.toList
def rdBody (s : ByteArray) (k f : Int) : Option Pos4 := if cellsOk (bytesL (fld s 0)) = true ∧ sideOk (fld s 1) = true then some (bytesOf (cellsT (bytesL (fld s 0))), sideP (fld s 1), k, f) else none
def rdP (s : ByteArray) : Option Pos4 :=
  if (pieces 32 s).length = 6 then (if numOk (fld s 4) = true ∧ numOk (fld s 5) = true ∧ fld s 2 = ⟨#[45]⟩ ∧ fld s 3 = ⟨#[45]⟩ then rdBody s (atoiV (fld s 4)) (atoiV (fld s 5)) else none)
  else if (pieces 32 s).length = 2 then rdBody s 0 1 else none
def ckP (o : Option Pos4) : Pos4 × Int := match o with
  | none => ((ByteArray.empty, 0, 0, 0), 6)
  | some (b, sd, k, f) => if rCheck b sd k f = 0 then ((b, sd, k, f), 0) else ((ByteArray.empty, 0, 0, 0), rCheck b sd k f)
def parseP (s : ByteArray) : Pos4 × Int := ckP (rdP s)
theorem strEq_iff (x y : ByteArray) : strEq x y = true ↔ x = y := ⟨strEq_eq, fun h => by subst h; unfold strEq; rw [beq_self_eq_true]⟩
theorem len_is6 {l : List ByteArray} (h : (Int.ofNat l.length == 6) = true) : l.length = 6 := by exact Int.ofNat.inj (beq_iff_eq.1 h)
theorem len_is2 {l : List ByteArray} (h : (Int.ofNat l.length == 2) = true) : l.length = 2 := by exact Int.ofNat.inj (beq_iff_eq.1 h)
theorem len_not6 {l : List ByteArray} (h : (Int.ofNat l.length == 6) = false) : l.length ≠ 6 := fun e => by rw [e] at h; exact Bool.noConfusion h
theorem len_not2 {l : List ByteArray} (h : (Int.ofNat l.length == 2) = false) : l.length ≠ 2 := fun e => by rw [e] at h; exact Bool.noConfusion h
theorem parse_bad {s : ByteArray} (h : rdP s = none) : parseP s = ((ByteArray.empty, 0, 0, 0), 6) := by unfold parseP; rw [h]; rfl
theorem rd_no {s : ByteArray} (h6 : (pieces 32 s).length ≠ 6) (h2 : (pieces 32 s).length ≠ 2) : rdP s = none := by unfold rdP; rw [if_neg h6, if_neg h2]
theorem rd_two {s : ByteArray} (h2 : (pieces 32 s).length = 2) : rdP s = rdBody s 0 1 := by unfold rdP; rw [if_neg (by omega), if_pos h2]
theorem rd_bad {s : ByteArray} (h6 : (pieces 32 s).length = 6) (hb : (!numOk (fld s 4) || !numOk (fld s 5) || !strEq (fld s 2) ⟨#[45]⟩ || !strEq (fld s 3) ⟨#[45]⟩) = true) : rdP s = none := by
  unfold rdP
  rw [if_pos h6, if_neg]
  rintro ⟨h1, h2, h3, h4⟩
  rw [h1, h2, (strEq_iff _ _).2 h3, (strEq_iff _ _).2 h4] at hb
  exact Bool.noConfusion hb
theorem rd_six {s : ByteArray} (h6 : (pieces 32 s).length = 6) (hb : (!numOk (fld s 4) || !numOk (fld s 5) || !strEq (fld s 2) ⟨#[45]⟩ || !strEq (fld s 3) ⟨#[45]⟩) = false) : rdP s = rdBody s (atoiV (fld s 4)) (atoiV (fld s 5)) := by
  unfold rdP
  simp only [Bool.or_eq_false_iff, Bool.not_eq_false', strEq_iff] at hb
  rw [if_pos h6, if_pos ⟨hb.1.1.1, hb.1.1.2, hb.1.2, hb.2⟩]
theorem body_bad0 {s : ByteArray} {k f : Int} (h : (!cellsOk (bytesL (fld s 0))) = true) : rdBody s k f = none := by
  unfold rdBody
  rw [if_neg]
  rintro ⟨h1, _⟩
  rw [h1] at h; exact Bool.noConfusion h
theorem body_bad1 {s : ByteArray} {k f : Int} (h : (((fld s 1).size : Int) != 1 || !Lib.contains wrb.data.toList (fld s 1).data.toList) = true) : rdBody s k f = none := by
  unfold rdBody
  rw [if_neg]
  rintro ⟨_, h1⟩
  simp only [sideOk, Bool.and_eq_true, decide_eq_true_eq] at h1
  rw [h1.2] at h
  simp [h1.1] at h
theorem body_ok {s : ByteArray} {k f : Int} (h0 : (!cellsOk (bytesL (fld s 0))) = false) (h : (((fld s 1).size : Int) != 1 || !Lib.contains wrb.data.toList (fld s 1).data.toList) = false) : rdBody s k f = some (bytesOf (cellsT (bytesL (fld s 0))), sideP (fld s 1), k, f) := by
  unfold rdBody
  simp only [Bool.or_eq_false_iff, Bool.not_eq_false', bne_eq_false_iff_eq] at h0 h
  rw [if_pos]
  refine ⟨h0, ?_⟩
  simp only [sideOk, Bool.and_eq_true, decide_eq_true_eq]
  exact ⟨by omega, h.2⟩
theorem parse_chk {s b : ByteArray} {sd k f : Int} (h : rdP s = some (b, sd, k, f)) (hc : (rCheck b sd k f != 0) = true) : parseP s = ((ByteArray.empty, 0, 0, 0), rCheck b sd k f) := by
  unfold parseP; rw [h]; unfold ckP; simp only; rw [if_neg (by simpa using hc)]
theorem parse_ok {s b : ByteArray} {sd k f : Int} (h : rdP s = some (b, sd, k, f)) (hc : (rCheck b sd k f != 0) = false) : parseP s = ((b, sd, k, f), 0) := by
  unfold parseP; rw [h]; unfold ckP; simp only; rw [if_pos (by simpa using hc)]
theorem fld_tz {s : ByteArray} (h : s.size ≤ 4000000) (i : Nat) : (fld s i).size ≤ 4000000 := by
  unfold fld
  rw [List.getD_eq_getElem?_getD]
  cases hi : (pieces 32 s)[i]? with
  | none => exact Nat.zero_le _
  | some t =>
    have := pieces_short (List.mem_of_getElem? hi)
    show t.size ≤ _; omega
end Go.X

namespace Go.X
open Go
structure CZ4 (s : ByteArray) : Prop where
  le : s.size ≤ 4000000
  u : True
  v : True
theorem bL_at (s : ByteArray) (n : Nat) : (bytesL s).getD n 0 = byteAt s n := by
  unfold bytesL byteAt
  simp only [List.getD_eq_getElem?_getD, List.getElem?_map]
  cases s.data.toList[n]? <;> rfl
theorem bL_len (s : ByteArray) : (bytesL s).length = s.size := by simp [bytesL]
theorem bytesOf_app (a b : List Int) : bytesOf (a ++ b) = bytesOf a ++ bytesOf b := by
  apply ByteArray.ext
  apply Array.toList_inj.1
  rw [ByteArray.data_append, Array.toList_append, bytesOf_list, bytesOf_list, bytesOf_list, List.map_append]
theorem bytesOf_dot (a : List Int) : bytesOf a ++ ⟨#[46]⟩ = bytesOf (a ++ [46]) := by rw [bytesOf_app]; rfl
theorem cut_pieces {c : Int} {s : ByteArray} {D : List (List Int)} {j : Nat} (h : CutInv c (bytesL s) D j (bytesL s).length) : D.map bytesOf ++ [s.extract j s.size] = pieces c s := by
  unfold pieces
  rw [h.done, List.map_append, List.map_singleton, extract_part s (by rw [← bL_len]; exact h.le) (Nat.le_refl _), bL_len]
theorem rep_next (a : List Int) (k : Nat) : a ++ List.replicate k 46 ++ [46] = a ++ List.replicate (k + 1) 46 := by rw [List.append_assoc, List.replicate_succ', ]
end Go.X

namespace Go.X
open Go

def cells4T (b : List Int) : List Int := match cellsGo b with | some o => o | none => []
def cells4Ok (b : List Int) : Bool := match cellsGo b with | some _ => true | none => false
theorem cells4_len {s : ByteArray} (h : (pieces 47 s).length ≠ 10) : cells4T (bytesL s) = [] ∧ cells4Ok (bytesL s) = false := by
  have : cellsGo (bytesL s) = none := by unfold cellsGo; rw [if_neg (by rw [← pieces_length]; exact h)]
  unfold cells4T cells4Ok
  rw [this]; exact ⟨rfl, rfl⟩
theorem cells4_go {s : ByteArray} (h : (pieces 47 s).length = 10) : cellsGo (bytesL s) = cellsR (bytesL s) := by
  unfold cellsGo
  rw [if_pos (by rw [← pieces_length]; exact h)]; rfl
theorem cells4_done {s : ByteArray} {acc : List Int} (h10 : (pieces 47 s).length = 10) (h : ((pieces 47 s).reverse.take (pieces 47 s).reverse.length).foldl cstepB (some []) = some acc) : cells4T (bytesL s) = acc ∧ cells4Ok (bytesL s) = true := by
  rw [List.take_length, cells_fold] at h
  unfold cells4T cells4Ok
  rw [cells4_go h10, h]; exact ⟨rfl, rfl⟩
theorem cells4_bad {s : ByteArray} {i : Nat} {acc : List Int} (h10 : (pieces 47 s).length = 10) (hi : i < (pieces 47 s).reverse.length) (h : ((pieces 47 s).reverse.take i).foldl cstepB (some []) = some acc) (hr : rankOk (bytesL ((pieces 47 s).reverse.getD i ByteArray.empty)) = false) : cells4T (bytesL s) = [] ∧ cells4Ok (bytesL s) = false := by
  have h2 := (cells_bad hi h hr).2
  unfold cellsOk at h2
  have : cellsR (bytesL s) = none := by
    cases hc : cellsR (bytesL s) with
    | none => rfl
    | some o => rw [hc, ← pieces_length] at h2; simp [h10] at h2
  unfold cells4T cells4Ok
  rw [cells4_go h10, this]; exact ⟨rfl, rfl⟩
theorem rev_at {L : List ByteArray} {k : Nat} (h : L.length = 10) (hk : k < 10) : L.reverse.getD k ByteArray.empty = L.getD (9 - k) ByteArray.empty := by
  rw [List.getD_eq_getElem?_getD, List.getD_eq_getElem?_getD, List.getElem?_reverse (by omega), h]

theorem len10_t {l : List ByteArray} (h : (Int.ofNat l.length != 10) = true) : l.length ≠ 10 := fun e => by rw [e] at h; exact Bool.noConfusion h
theorem len10_f {l : List ByteArray} (h : (Int.ofNat l.length != 10) = false) : l.length = 10 := Int.ofNat.inj (by simpa using h)

def num4V (b : List Int) : Int := match numGo b with | some n => n | none => 0
def num4Ok (b : List Int) : Bool := match numGo b with | some _ => true | none => false
theorem num4_no {b : List Int} (h : numGo b = none) : num4V b = 0 ∧ num4Ok b = false := by unfold num4V num4Ok; rw [h]; exact ⟨rfl, rfl⟩
theorem num4_head {s : ByteArray} (h : (strEq s ⟨#[]⟩ || decide ((s.size : Int) > 4) || (byteAt s 0 == 48 && decide ((s.size : Int) > 1))) = true) : num4V (bytesL s) = 0 ∧ num4Ok (bytesL s) = false := by
  refine num4_no ?_
  unfold numGo
  rw [if_pos]
  simp only [Bool.or_eq_true, Bool.and_eq_true, decide_eq_true_eq, beq_iff_eq] at h
  rcases h with (h | h) | ⟨h1, h2⟩
  · exact .inl (by rw [strEq_eq h]; rfl)
  · exact .inr (.inl (by rw [bL_len]; omega))
  · exact .inr (.inr ⟨by rw [bL_at]; exact h1, by rw [bL_len]; omega⟩)
theorem num4_start {s : ByteArray} (h : (strEq s ⟨#[]⟩ || decide ((s.size : Int) > 4) || (byteAt s 0 == 48 && decide ((s.size : Int) > 1))) = false) : numGo (bytesL s) = (bytesL s).foldl nstep (some 0) ∧ 1 ≤ s.size ∧ s.size ≤ 4 := by
  simp only [Bool.or_eq_false_iff, Bool.and_eq_false_iff, decide_eq_false_iff_not, beq_eq_false_iff_ne] at h
  have hne : s.size ≠ 0 := by
    intro h0
    have : s = ⟨#[]⟩ := ByteArray.ext (Array.eq_empty_of_size_eq_zero h0)
    rw [(strEq_iff _ _).2 this] at h
    exact Bool.noConfusion h.1.1
  refine ⟨?_, by omega, by omega⟩
  unfold numGo
  rw [if_neg]
  rintro (h1 | h1 | ⟨h1, h2⟩)
  · have := bL_len s; rw [h1] at this; exact hne this.symm
  · rw [bL_len] at h1; omega
  · rw [bL_at] at h1; rw [bL_len] at h2
    rcases h.2 with h3 | h3
    · exact h3 h1
    · omega
theorem num_next {l : List Int} {i : Nat} {n m : Int} (hi : i < l.length) (h : (l.take i).foldl nstep (some 0) = some n) (hn : nstep (some n) (l.getD i 0) = some m) : (l.take (i + 1)).foldl nstep (some 0) = some m := by
  rw [List.take_succ_eq_append_getElem hi, List.foldl_append, h]
  have e : l[i] = l.getD i 0 := by rw [List.getD_eq_getElem?_getD, List.getElem?_eq_getElem hi]; rfl
  rw [List.foldl_cons, List.foldl_nil, e, hn]
theorem num_rest {l : List Int} {i : Nat} {n : Int} (hi : i < l.length) (h : (l.take i).foldl nstep (some 0) = some n) (hn : nstep (some n) (l.getD i 0) = none) : l.foldl nstep (some 0) = none := by
  conv => lhs; rw [← List.take_append_drop (i + 1) l]
  rw [List.foldl_append, List.take_succ_eq_append_getElem hi, List.foldl_append, h]
  have e : l[i] = l.getD i 0 := by rw [List.getD_eq_getElem?_getD, List.getElem?_eq_getElem hi]; rfl
  rw [List.foldl_cons, List.foldl_nil, e, hn, nstep_none]
theorem nstep_t {n c : Int} (h : 48 ≤ c ∧ c ≤ 57) : nstep (some n) c = some (10 * n + (c - 48)) := by unfold nstep; simp only; rw [if_pos h]
theorem nstep_f {n c : Int} (h : ¬ (48 ≤ c ∧ c ≤ 57)) : nstep (some n) c = none := by unfold nstep; simp only; rw [if_neg h]
end Go.X

namespace Go.X
open Go

def aggQ (p : Pos4) : RT := .agg [.a (.s p.1), .a (.i .i64 p.2.1), .a (.i .i64 p.2.2.1), .a (.i .i64 p.2.2.2)]
theorem fld_list {s : ByteArray} {n : Nat} (h : (pieces 32 s).length = n) : cutAt 32 (bytesL s) = (List.range n).map fun i => bytesL (fld s i) := by
  rw [← pieces_map]
  apply List.ext_getElem
  · simp [h]
  · intro i h1 h2
    simp only [List.getElem_map, List.getElem_range]
    unfold fld
    rw [List.getD_eq_getElem?_getD, List.getElem?_eq_getElem (by simpa using h1)]; rfl
theorem form_long {s : ByteArray} (h : decide ((s.size : Int) > 1000) = true) : form4 s = none := by
  have := of_decide_eq_true h
  unfold form4; rw [if_pos (by omega)]
theorem form_two {s : ByteArray} (hz : decide ((s.size : Int) > 1000) = false) (h : (pieces 32 s).length = 2) : form4 s = match cellsGo (bytesL (fld s 0)), sideGo (bytesL (fld s 1)) with | some b, some sd => some (b, sd, 0, 1) | _, _ => none := by
  have := of_decide_eq_false hz
  unfold form4; rw [if_neg (by omega), fld_list h]; rfl
theorem form_six {s : ByteArray} (hz : decide ((s.size : Int) > 1000) = false) (h : (pieces 32 s).length = 6) : form4 s = match cellsGo (bytesL (fld s 0)), sideGo (bytesL (fld s 1)), numGo (bytesL (fld s 4)), numGo (bytesL (fld s 5)) with | some b, some sd, some n, some m => if bytesL (fld s 2) = [45] ∧ bytesL (fld s 3) = [45] then some (b, sd, n, m) else none | _, _, _, _ => none := by
  have := of_decide_eq_false hz
  unfold form4; rw [if_neg (by omega), fld_list h]; rfl
theorem form_other {s : ByteArray} (h : (Int.ofNat (pieces 32 s).length != 2 && Int.ofNat (pieces 32 s).length != 6) = true) : form4 s = none := by
  unfold form4
  split
  · rfl
  · have e : (cutAt 32 (bytesL s)).length = (pieces 32 s).length := (pieces_length 32 s).symm
    unfold formGo
    split
    · rename_i hx; rw [hx] at e; rw [← e] at h; exact Bool.noConfusion h
    · rename_i hx; rw [hx] at e; rw [← e] at h; exact Bool.noConfusion h
    · rfl
theorem len26 {s : ByteArray} (h : (Int.ofNat (pieces 32 s).length != 2 && Int.ofNat (pieces 32 s).length != 6) = false) : (pieces 32 s).length = 2 ∨ (pieces 32 s).length = 6 := by
  simp only [Bool.and_eq_false_iff, bne_eq_false_iff_eq] at h
  rcases h with h | h
  · exact .inl (Int.ofNat.inj h)
  · exact .inr (Int.ofNat.inj h)
theorem one_iff {t : ByteArray} {n : UInt8} : bytesL t = [(n.toNat : Int)] ↔ strEq t ⟨#[n]⟩ = true := by
  rw [strEq_iff]
  constructor
  · intro h
    have h2 := congrArg bytesOf h
    have e : bytesOf (bytesL t) = t := by
      apply ByteArray.ext
      apply Array.toList_inj.1
      rw [bytesOf_list, of_bytesL]
    rw [e] at h2
    rw [h2]
    apply ByteArray.ext
    apply Array.toList_inj.1
    rw [bytesOf_list]; simp
  · rintro rfl; rfl
theorem side_w {t : ByteArray} (h : strEq t ⟨#[119]⟩ = true) : sideGo (bytesL t) = some 0 := by unfold sideGo; rw [if_pos (.inl (one_iff.2 h))]
theorem side_r {t : ByteArray} (h : strEq t ⟨#[114]⟩ = true) : sideGo (bytesL t) = some 0 := by unfold sideGo; rw [if_pos (.inr (one_iff.2 h))]
theorem side_b {t : ByteArray} (h1 : strEq t ⟨#[119]⟩ = false) (h2 : strEq t ⟨#[114]⟩ = false) (h : strEq t ⟨#[98]⟩ = true) : sideGo (bytesL t) = some 1 := by
  unfold sideGo
  have hb : bytesL t = [98] := one_iff.2 h
  rw [if_neg, if_pos hb]
  rintro (h' | h')
  · rw [one_iff.1 h'] at h1; exact Bool.noConfusion h1
  · rw [one_iff.1 h'] at h2; exact Bool.noConfusion h2
theorem side_n {t : ByteArray} (h1 : strEq t ⟨#[119]⟩ = false) (h2 : strEq t ⟨#[114]⟩ = false) (h : strEq t ⟨#[98]⟩ = false) : sideGo (bytesL t) = none := by
  unfold sideGo
  rw [if_neg, if_neg]
  · intro h'; rw [one_iff.1 h'] at h; exact Bool.noConfusion h
  · rintro (h' | h')
    · rw [one_iff.1 h'] at h1; exact Bool.noConfusion h1
    · rw [one_iff.1 h'] at h2; exact Bool.noConfusion h2
theorem p4_bad {s : ByteArray} (h : form4 s = none) : pos4 s = (ByteArray.empty, 0, 0, 0) ∧ err4 s = 6 := by unfold pos4 err4; rw [h]; exact ⟨rfl, rfl⟩
theorem p4_chk {s : ByteArray} {b : List Int} {sd k f : Int} (h : form4 s = some (b, sd, k, f)) (hc : (rCheck (bytesOf b) sd k f != 0) = true) : pos4 s = (ByteArray.empty, 0, 0, 0) ∧ err4 s = rCheck (bytesOf b) sd k f := by
  unfold pos4 err4; rw [h]; dsimp only; rw [if_neg (by simpa using hc)]; exact ⟨rfl, rfl⟩
theorem p4_ok {s : ByteArray} {b : List Int} {sd k f : Int} (h : form4 s = some (b, sd, k, f)) (hc : (rCheck (bytesOf b) sd k f != 0) = false) : pos4 s = (bytesOf b, sd, k, f) ∧ err4 s = 0 := by
  unfold pos4 err4; rw [h]; simp only; rw [if_pos (by simpa using hc)]; exact ⟨rfl, by simpa using hc⟩
theorem two_none {s : ByteArray} (hz : decide ((s.size : Int) > 1000) = false) (h : (pieces 32 s).length = 2) (hs : sideGo (bytesL (fld s 1)) = none ∨ (!cells4Ok (bytesL (fld s 0))) = true) : form4 s = none := by
  rw [form_two hz h]
  rcases hs with hs | hs
  · rw [hs]; cases cellsGo (bytesL (fld s 0)) <;> rfl
  · cases hc : cellsGo (bytesL (fld s 0)) with
    | none => rfl
    | some b => unfold cells4Ok at hs; rw [hc] at hs; exact Bool.noConfusion hs
theorem two_some {s : ByteArray} {sd : Int} (hz : decide ((s.size : Int) > 1000) = false) (h : (pieces 32 s).length = 2) (hs : sideGo (bytesL (fld s 1)) = some sd) (hc : (!cells4Ok (bytesL (fld s 0))) = false) : form4 s = some (cells4T (bytesL (fld s 0)), sd, 0, 1) := by
  rw [form_two hz h, hs]
  unfold cells4Ok at hc; unfold cells4T
  cases h0 : cellsGo (bytesL (fld s 0)) with
  | none => rw [h0] at hc; exact Bool.noConfusion hc
  | some b => rfl
theorem six_none {s : ByteArray} (hz : decide ((s.size : Int) > 1000) = false) (h : (pieces 32 s).length = 6) (hs : sideGo (bytesL (fld s 1)) = none ∨ (!(cells4Ok (bytesL (fld s 0)) && num4Ok (bytesL (fld s 4)) && num4Ok (bytesL (fld s 5)) && strEq (fld s 2) ⟨#[45]⟩ && strEq (fld s 3) ⟨#[45]⟩)) = true) : form4 s = none := by
  rw [form_six hz h]
  cases h0 : cellsGo (bytesL (fld s 0)) with
  | none => rfl
  | some b => cases h1 : sideGo (bytesL (fld s 1)) with
    | none => rfl
    | some sd => cases h4 : numGo (bytesL (fld s 4)) with
      | none => rfl
      | some n => cases h5 : numGo (bytesL (fld s 5)) with
        | none => rfl
        | some m =>
          simp only
          rw [if_neg]
          rintro ⟨h2, h3⟩
          rcases hs with hs | hs
          · rw [h1] at hs; cases hs
          · unfold cells4Ok num4Ok at hs
            rw [h0, h4, h5, one_iff.1 h2, one_iff.1 h3] at hs; exact Bool.noConfusion hs
theorem six_some {s : ByteArray} {sd : Int} (hz : decide ((s.size : Int) > 1000) = false) (h : (pieces 32 s).length = 6) (hs : sideGo (bytesL (fld s 1)) = some sd) (hc : (!(cells4Ok (bytesL (fld s 0)) && num4Ok (bytesL (fld s 4)) && num4Ok (bytesL (fld s 5)) && strEq (fld s 2) ⟨#[45]⟩ && strEq (fld s 3) ⟨#[45]⟩)) = false) : form4 s = some (cells4T (bytesL (fld s 0)), sd, num4V (bytesL (fld s 4)), num4V (bytesL (fld s 5))) := by
  simp only [Bool.not_eq_false', Bool.and_eq_true] at hc
  obtain ⟨⟨⟨⟨c0, c4⟩, c5⟩, c2⟩, c3⟩ := hc
  rw [form_six hz h, hs]
  unfold cells4Ok at c0; unfold num4Ok at c4 c5; unfold cells4T num4V
  cases h0 : cellsGo (bytesL (fld s 0)) with
  | none => rw [h0] at c0; exact Bool.noConfusion c0
  | some b => cases h4 : numGo (bytesL (fld s 4)) with
    | none => rw [h4] at c4; exact Bool.noConfusion c4
    | some n => cases h5 : numGo (bytesL (fld s 5)) with
      | none => rw [h5] at c5; exact Bool.noConfusion c5
      | some m =>
        simp only
        rw [if_pos ⟨one_iff.2 c2, one_iff.2 c3⟩]
end Go.X

namespace Go.X
open Go

abbrev iL (l : List UInt8) : List Int := l.map fun b => (b.toNat : Int)
theorem iL_app (a b : List UInt8) : iL (a ++ b) = iL a ++ iL b := List.map_append ..
theorem dig_nat {k : Nat} (h : k < 10) : (((UInt8.ofNat (48 + k)).toNat : Nat) : Int) = 48 + k := by
  rw [UInt8.toNat_ofNat']; omega
theorem dec_val (u : Nat) : (iL (Lib.decDigits u)).foldl nstep (some 0) = some (u : Int) := by
  induction u using Nat.strongRecOn with
  | _ u ih =>
    rw [Lib.decDigits]
    split
    · rename_i h
      show nstep (some 0) (((UInt8.ofNat (48 + u)).toNat : Nat) : Int) = _
      rw [dig_nat h, nstep_t (by omega)]; congr 1; omega
    · rw [iL_app, List.foldl_append, ih _ (by omega)]
      show nstep (some _) (((UInt8.ofNat (48 + u % 10)).toNat : Nat) : Int) = _
      rw [dig_nat (Nat.mod_lt _ (by decide)), nstep_t (by omega)]; congr 1; omega
theorem head_app {a b : List UInt8} (h : a ≠ []) : (a ++ b).head? = a.head? := by
  cases a with
  | nil => exact absurd rfl h
  | cons x a => rfl
theorem dec_ne (u : Nat) : Lib.decDigits u ≠ [] := by
  rw [Lib.decDigits]; split <;> simp
theorem dec_head (u : Nat) : (Lib.decDigits u).head? = some 48 → u = 0 := by
  induction u using Nat.strongRecOn with
  | _ u ih =>
    rw [Lib.decDigits]
    split
    · rename_i h
      intro h2
      simp only [List.head?_cons, Option.some.injEq] at h2
      have := congrArg UInt8.toNat h2
      rw [UInt8.toNat_ofNat'] at this
      have e : (48 : UInt8).toNat = 48 := rfl
      omega
    · intro h2
      rw [head_app (dec_ne _)] at h2
      have := ih _ (by omega) h2
      omega
theorem dec_digit (u : Nat) : ∀ c ∈ Lib.decDigits u, 48 ≤ c.toNat ∧ c.toNat ≤ 57 := by
  induction u using Nat.strongRecOn with
  | _ u ih =>
    rw [Lib.decDigits]
    split
    · rename_i h
      intro c hc
      rw [List.mem_singleton.1 hc, UInt8.toNat_ofNat']; omega
    · intro c hc
      rcases List.mem_append.1 hc with hc | hc
      · exact ih _ (by omega) c hc
      · rw [List.mem_singleton.1 hc, UInt8.toNat_ofNat']; omega
theorem iL_head {l : List UInt8} (h : (iL l).getD 0 0 = 48) : l.head? = some 48 := by
  cases l with
  | nil => exact absurd h (by decide)
  | cons x l =>
    have h2 : ((x.toNat : Nat) : Int) = 48 := h
    simp only [List.head?_cons, Option.some.injEq]
    exact UInt8.toNat_inj.1 (by have e : (48 : UInt8).toNat = 48 := rfl; omega)
theorem head_iL {l : List UInt8} (h : l.head? = some 48) : (iL l).getD 0 0 = 48 := by
  cases l with
  | nil => cases h
  | cons x l => simp only [List.head?_cons, Option.some.injEq] at h; subst h; rfl
theorem num_dec {u : Nat} (h : (Lib.decDigits u).length ≤ 4) : numGo (iL (Lib.decDigits u)) = some (u : Int) := by
  unfold numGo
  rw [if_neg, dec_val]
  rintro (h1 | h1 | ⟨h1, h2⟩)
  · exact dec_ne u (List.map_eq_nil_iff.1 h1)
  · rw [List.length_map] at h1; omega
  · have := dec_head u (iL_head h1)
    subst this
    rw [Lib.decDigits_one (by decide)] at h2
    exact absurd h2 (by decide)
theorem nfold_bounds : ∀ (l : List Int) (a n : Int), 0 ≤ a → l.foldl nstep (some a) = some n → 0 ≤ n ∧ n + 1 ≤ (a + 1) * 10 ^ l.length := by
  intro l
  induction l with
  | nil => intro a n ha h; cases h; simp; omega
  | cons x l ih =>
    intro a n ha h
    rw [List.foldl_cons] at h
    by_cases hx : 48 ≤ x ∧ x ≤ 57
    · rw [nstep_t hx] at h
      obtain ⟨h1, h2⟩ := ih _ _ (by omega) h
      refine ⟨h1, Int.le_trans h2 ?_⟩
      rw [List.length_cons, Int.pow_succ, Int.mul_comm _ 10, ← Int.mul_assoc]
      exact Int.mul_le_mul_of_nonneg_right (by omega) (Int.pow_nonneg (by decide))
    · rw [nstep_f hx, nstep_none] at h; cases h
theorem dec_of : ∀ (k : Nat) (l : List UInt8), l.length = k → ∀ n : Int, l ≠ [] → (l.head? = some 48 → l.length = 1) → (iL l).foldl nstep (some 0) = some n → Lib.decDigits n.toNat = l := by
  intro k
  induction k with
  | zero => intro l hl n hne; exact absurd (List.length_eq_zero_iff.1 hl) hne
  | succ k ih =>
    intro l hl n hne hh hn
    obtain ⟨m, c, rfl⟩ : ∃ m c, l = m ++ [c] := ⟨l.dropLast, l.getLast hne, (List.dropLast_concat_getLast hne).symm⟩
    rw [iL_app, List.foldl_append] at hn
    have hc : 48 ≤ ((c.toNat : Nat) : Int) ∧ ((c.toNat : Nat) : Int) ≤ 57 := by
      cases hv : (iL m).foldl nstep (some 0) with
      | none => rw [hv] at hn; exact absurd hn (by rw [nstep_none]; simp)
      | some v =>
        rw [hv] at hn
        by_cases hx : 48 ≤ ((c.toNat : Nat) : Int) ∧ ((c.toNat : Nat) : Int) ≤ 57
        · exact hx
        · have : nstep (some v) ((c.toNat : Nat) : Int) = some n := hn
          rw [nstep_f hx] at this; cases this
    cases hv : (iL m).foldl nstep (some 0) with
    | none => rw [hv] at hn; exact absurd hn (by rw [nstep_none]; simp)
    | some v =>
      rw [hv] at hn
      have hn' : nstep (some v) ((c.toNat : Nat) : Int) = some n := hn
      rw [nstep_t hc] at hn'
      cases hn'
      have hv0 := (nfold_bounds _ _ _ (by decide) hv).1
      by_cases hm : m = []
      · subst hm
        have : v = 0 := by cases hv; rfl
        subst this
        rw [Lib.decDigits_one (by omega)]
        show [_] = [c]
        congr 1
        apply UInt8.toNat_inj.1
        rw [UInt8.toNat_ofNat']; omega
      · have hd := ih m (by rw [List.length_append] at hl; simp only [List.length_singleton] at hl; omega) v hm (by
          intro h48
          have := hh (by rw [head_app hm]; exact h48)
          rw [List.length_append] at this
          have h3 : m.length ≠ 0 := fun e => hm (List.length_eq_zero_iff.1 e)
          simp only [List.length_singleton] at this
          omega) hv
        have hv1 : 1 ≤ v := by
          rcases Int.lt_or_le 0 v with h | h
          · omega
          · have e0 : v = 0 := by omega
            subst e0
            have e1 : m = [48] := by rw [← hd]; exact Lib.decDigits_one (by decide)
            subst e1
            have := hh rfl
            simp at this
        rw [Lib.decDigits, dif_neg (by omega), show (10 * v + (((c.toNat : Nat) : Int) - 48)).toNat / 10 = v.toNat by omega, hd]
        congr 2
        apply UInt8.toNat_inj.1
        rw [UInt8.toNat_ofNat']; omega
abbrev noNum : Lib.NumEnd Nat := Lib.parseMag []
theorem parse_fold : ∀ (l : List UInt8) (a : Nat), (a + 1) * 10 ^ l.length ≤ 1000000000000000000 → Lib.parseUint10 a l = match (iL l).foldl nstep (some (a : Int)) with | some n => .ok n.toNat | none => noNum := by
  intro l
  induction l with
  | nil => intro a _; rfl
  | cons c l ih =>
    intro a ha
    rw [List.length_cons, Nat.pow_succ] at ha
    have hp : 1 ≤ 10 ^ l.length := Nat.one_le_pow _ _ (by decide)
    have ha2 : (a + 1) * 10 ≤ 1000000000000000000 := by
      refine Nat.le_trans ?_ ha
      rw [Nat.mul_comm (10 ^ l.length) 10, ← Nat.mul_assoc]
      exact Nat.le_mul_of_pos_right _ hp
    show Lib.parseUint10 a (c :: l) = match (iL l).foldl nstep (nstep (some (a : Int)) ((c.toNat : Nat) : Int)) with | some n => .ok n.toNat | none => noNum
    rw [Lib.parseUint10]
    by_cases hc : 48 ≤ c.toNat ∧ c.toNat ≤ 57
    · rw [if_pos hc, if_neg (by omega), if_neg (by omega), ih, nstep_t (by omega)]
      · rw [show ((a * 10 + (c.toNat - 48) : Nat) : Int) = 10 * (a : Int) + ((c.toNat : Int) - 48) by omega]
      · refine Nat.le_trans ?_ ha
        rw [Nat.mul_comm (10 ^ l.length) 10, ← Nat.mul_assoc]
        exact Nat.mul_le_mul_right _ (by omega)
    · rw [if_neg hc, nstep_f (by omega), nstep_none]; rfl
theorem num_same (t : ByteArray) : numOk t = num4Ok (bytesL t) ∧ (numOk t = true → atoiV t = num4V (bytesL t)) := by
  have e0 : bytesL t = iL t.data.toList := rfl
  have es : t.data.toList.length = t.size := rfl
  have fwd : numOk t = true → numGo (bytesL t) = some (atoiV t) := by
    intro h
    unfold numOk at h
    simp only [Bool.and_eq_true, decide_eq_true_eq] at h
    obtain ⟨⟨⟨_, h0⟩, h4⟩, h5⟩ := h
    have h6 : Lib.itoa (atoiV t) = t.data.toList := by
      have := congrArg (fun x : ByteArray => x.data.toList) (strEq_eq h5)
      simpa [itoaB] using this
    unfold Lib.itoa at h6
    rw [if_neg (by omega)] at h6
    rw [e0, ← h6, num_dec (by rw [h6, es]; omega)]
    congr 1; omega
  have bwd : ∀ n, numGo (bytesL t) = some n → numOk t = true := by
    intro n h
    unfold numGo at h
    split at h
    · cases h
    · rename_i hh
      have hne : t.data.toList ≠ [] := fun e => hh (.inl (by rw [e0, e]; rfl))
      have hl : t.data.toList.length ≤ 4 := by
        have h1 : ¬ 4 < (bytesL t).length := fun e => hh (.inr (.inl e))
        rw [e0, List.length_map] at h1; omega
      have hb := nfold_bounds _ _ _ (by decide) h
      have hp : (10 : Int) ^ (bytesL t).length ≤ 10 ^ 4 := by
        rw [e0, List.length_map]
        have : t.data.toList.length = 0 ∨ t.data.toList.length = 1 ∨ t.data.toList.length = 2 ∨ t.data.toList.length = 3 ∨ t.data.toList.length = 4 := by omega
        rcases this with e | e | e | e | e <;> rw [e] <;> decide
      have hd := dec_of _ t.data.toList rfl n hne (by
        intro h48
        rcases Nat.lt_or_ge 1 t.data.toList.length with h2 | h2
        · exact absurd (.inr (.inr ⟨by rw [e0]; exact head_iL h48, by rw [e0, List.length_map]; exact h2⟩)) hh
        · have : t.data.toList.length ≠ 0 := fun e => hne (List.length_eq_zero_iff.1 e)
          omega) h
      have hu : Lib.parseUint10 0 t.data.toList = .ok n.toNat := by
        rw [parse_fold]
        · rw [e0] at h
          show (match List.foldl nstep (some 0) (iL t.data.toList) with | some n => Lib.NumEnd.ok n.toNat | none => noNum) = _
          rw [h]
        · have : 10 ^ t.data.toList.length ≤ 10 ^ 4 := Nat.pow_le_pow_right (by decide) hl
          omega
      have ha : Lib.atoiAll t.data.toList = .ok n := by
        cases hL : t.data.toList with
        | nil => exact absurd hL hne
        | cons c r =>
          have hc := dec_digit n.toNat c (by rw [hd, hL]; simp)
          rw [Lib.atoiAll_plain c r (by omega) (by omega), ← hL]
          unfold Lib.parseMag
          rw [if_neg hne, hu]
          unfold Lib.signless
          simp only
          rw [if_neg (by omega)]
          congr 1; omega
      have hv : atoiV t = n := by unfold atoiV; rw [ha]
      have ho : atoiOk t = true := by unfold atoiOk; rw [ha]
      unfold numOk
      rw [hv, ho]
      have h1 : strEq (itoaB n) t = true := by
        rw [strEq_iff]
        unfold itoaB Lib.itoa
        rw [if_neg (by omega), hd]
      rw [h1]
      simp only [Bool.and_true, Bool.true_and, Bool.and_eq_true, decide_eq_true_eq]
      exact ⟨by omega, by omega⟩
  constructor
  · cases hg : numGo (bytesL t) with
    | some n => rw [bwd n hg]; unfold num4Ok; rw [hg]
    | none =>
      unfold num4Ok; rw [hg]
      cases ho : numOk t with
      | false => rfl
      | true => rw [fwd ho] at hg; cases hg
  · intro h
    unfold num4V
    rw [fwd h]

theorem wrb_tab : ∀ n : Nat, n < 256 → sideGo [(n : Int)] = if Lib.contains wrb.data.toList [UInt8.ofNat n] = true then some (IntKind.i64.wrap (Int.tdiv (Lib.index wrb.data.toList [UInt8.ofNat n]) 2)) else none := by decide +kernel
theorem side_same (t : ByteArray) : sideGo (bytesL t) = if sideOk t = true then some (sideP t) else none := by
  by_cases h1 : t.size = 1
  · obtain ⟨c, rfl, _⟩ := one_byte h1
    have := wrb_tab c.toNat (UInt8.toNat_lt c)
    rw [UInt8.ofNat_toNat] at this
    unfold sideOk sideP
    rw [show (decide ((⟨#[c]⟩ : ByteArray).size = 1)) = true from rfl, Bool.true_and]
    exact this
  · have h2 : sideOk t = false := by unfold sideOk; rw [decide_eq_false h1, Bool.false_and]
    rw [h2, if_neg (by decide)]
    unfold sideGo
    have hl : (bytesL t).length ≠ 1 := by rw [bL_len]; exact h1
    rw [if_neg, if_neg]
    · intro h; rw [h] at hl; exact hl rfl
    · rintro (h | h) <;> (rw [h] at hl; exact hl rfl)
theorem cells_same (b : List Int) : cellsGo b = if cellsOk b = true then some (cellsT b) else none := by
  unfold cellsGo cellsOk cellsT
  show (if _ then cellsR b else none) = _
  cases h : cellsR b with
  | none => simp
  | some o => by_cases h10 : (cutAt 47 b).length = 10 <;> simp [h10]
def toP4 (o : Option (List Int × Int × Int × Int)) : Option Pos4 := o.map fun x => (bytesOf x.1, x.2.1, x.2.2.1, x.2.2.2)
theorem rd_form {s : ByteArray} (hs : s.size ≤ 1000) : rdP s = toP4 (form4 s) := by
  have hz : decide ((s.size : Int) > 1000) = false := decide_eq_false (by omega)
  unfold rdP
  by_cases h6 : (pieces 32 s).length = 6
  · rw [if_pos h6, form_six hz h6, cells_same, side_same]
    obtain ⟨n4, v4⟩ := num_same (fld s 4)
    obtain ⟨n5, v5⟩ := num_same (fld s 5)
    unfold rdBody
    unfold num4Ok at n4 n5; unfold num4V at v4 v5
    have e2 : bytesL (fld s 2) = [45] ↔ fld s 2 = ⟨#[45]⟩ := (one_iff (n := 45)).trans (strEq_iff _ _)
    have e3 : bytesL (fld s 3) = [45] ↔ fld s 3 = ⟨#[45]⟩ := (one_iff (n := 45)).trans (strEq_iff _ _)
    cases hc : cellsOk (bytesL (fld s 0)) <;> cases hsd : sideOk (fld s 1) <;> cases h4 : numGo (bytesL (fld s 4)) <;> cases h5 : numGo (bytesL (fld s 5)) <;> rw [h4] at n4 v4 <;> rw [h5] at n5 v5 <;> simp only [n4, n5, e2, e3, toP4] <;> simp
    rw [v4 n4, v5 n5]
  · rw [if_neg h6]
    by_cases h2 : (pieces 32 s).length = 2
    · rw [if_pos h2, form_two hz h2, cells_same, side_same]
      unfold rdBody
      cases hc : cellsOk (bytesL (fld s 0)) <;> cases hsd : sideOk (fld s 1) <;> simp [toP4]
    · rw [if_neg h2, form_other (by
        simp only [Bool.and_eq_true, bne_iff_ne, ne_eq]
        exact ⟨fun e => h2 (Int.ofNat.inj e), fun e => h6 (Int.ofNat.inj e)⟩)]
      rfl
theorem parse_same {s : ByteArray} (hs : s.size ≤ 1000) : parseP s = (pos4 s, err4 s) := by
  unfold parseP
  rw [rd_form hs]
  unfold pos4 err4
  cases h : form4 s with
  | none => rfl
  | some x =>
    obtain ⟨b, sd, k, f⟩ := x
    show ckP (some (bytesOf b, sd, k, f)) = _
    unfold ckP
    simp only
    by_cases hc : rCheck (bytesOf b) sd k f = 0
    · rw [if_pos hc, if_pos hc, hc]
    · rw [if_neg hc, if_neg hc]
end Go.X

namespace Go.X
open Go

def digL (n : Int) : List Int := iL (Lib.decDigits n.toNat)
theorem iL_bytes (l : List UInt8) : bytesOf (iL l) = ⟨l.toArray⟩ := by
  apply ByteArray.ext
  apply Array.toList_inj.1
  rw [bytesOf_list]
  show (l.map _).map _ = l
  rw [List.map_map]
  conv => rhs; rw [← List.map_id l]
  refine List.map_congr_left fun c _ => ?_
  show UInt8.ofNat ((c.toNat : Int)).toNat = c
  rw [Int.toNat_natCast, UInt8.ofNat_toNat]
theorem itoa_dig {n : Int} (h : 0 ≤ n) : itoaB n = bytesOf (digL n) := by
  unfold itoaB Lib.itoa digL
  rw [if_neg (by omega), iL_bytes]
theorem dig_one {n : Int} (h0 : 0 ≤ n) (h : n < 10) : digL n = [48 + n] := by
  unfold digL
  rw [Lib.decDigits_one (by omega)]
  show [(((UInt8.ofNat (48 + n.toNat)).toNat : Nat) : Int)] = _
  rw [dig_nat (by omega)]; congr 1; omega
theorem dig_more {n : Int} (h : 10 ≤ n) : digL n = digL (n / 10) ++ [48 + n % 10] := by
  unfold digL
  rw [Lib.decDigits, dif_neg (by omega), iL_app, show (n / 10).toNat = n.toNat / 10 by omega]
  congr 1
  show [(((UInt8.ofNat (48 + n.toNat % 10)).toNat : Nat) : Int)] = _
  rw [dig_nat (Nat.mod_lt _ (by decide))]; congr 1; omega
theorem dig_bd (n : Int) : ∀ c ∈ digL n, 48 ≤ c ∧ c ≤ 57 := by
  intro c hc
  obtain ⟨x, hx, rfl⟩ := List.mem_map.1 hc
  have := dec_digit _ x hx
  omega
theorem dig_num {n : Int} (h0 : 0 ≤ n) (h : n ≤ 9999) : numGo (digL n) = some n ∧ (digL n).length ≤ 4 := by
  have hl : (Lib.decDigits n.toNat).length ≤ 4 := by
    rw [Lib.decDigits_length]
    have h1 : ∀ u, u < 10 → Lib.nDigits u = 1 := fun u hu => Lib.nDigits_small hu
    have h2 : ∀ u, u < 100 → Lib.nDigits u ≤ 2 := fun u hu => by
      by_cases hh : u < 10
      · rw [h1 u hh]; decide
      · rw [Lib.nDigits_big hh, h1 _ (by omega)]; exact Nat.le_refl _
    have h3 : ∀ u, u < 1000 → Lib.nDigits u ≤ 3 := fun u hu => by
      by_cases hh : u < 10
      · rw [h1 u hh]; decide
      · rw [Lib.nDigits_big hh]; have := h2 (u / 10) (by omega); omega
    by_cases hh : n.toNat < 10
    · rw [h1 _ hh]; decide
    · rw [Lib.nDigits_big hh]; have := h3 (n.toNat / 10) (by omega); omega
  constructor
  · unfold digL
    rw [num_dec hl]; congr 1; omega
  · unfold digL; rw [List.length_map]; exact hl

def gapL (k : Int) : List Int := if 0 < k then digL k else []
def rowStep (st : List Int × Int) (c : Int) : List Int × Int := if c = 46 then (st.1, st.2 + 1) else (st.1 ++ gapL st.2 ++ [c], 0)
def rowEnd (st : List Int × Int) : List Int := st.1 ++ gapL st.2
def rowT (l : List Int) : List Int := rowEnd (l.foldl rowStep ([], 0))
def cellsB (l : List Int) : Prop := ∀ c ∈ l, spIsCell c = true ∧ 0 ≤ c ∧ c < 256
theorem piece_tab : ∀ n : Nat, n < 256 → 0 ≤ spSide (n : Int) → letter4 n = n ∧ ¬ (49 ≤ (n : Int) ∧ (n : Int) ≤ 57) ∧ (n : Int) ≠ 46 ∧ (n : Int) ≠ 47 ∧ (n : Int) ≠ 32 := by decide +kernel
theorem piece_at {c : Int} (hb : 0 ≤ c ∧ c < 256) (h : 0 ≤ spSide c) : letter4 c = c ∧ ¬ (49 ≤ c ∧ c ≤ 57) ∧ c ≠ 46 ∧ c ≠ 47 ∧ c ≠ 32 := by
  have := piece_tab c.toNat (by omega)
  rw [show ((c.toNat : Nat) : Int) = c by omega] at this
  exact this h
theorem cell_two {c : Int} (h : spIsCell c = true) : c = 46 ∨ 0 ≤ spSide c := by
  unfold spIsCell at h
  rw [Bool.or_eq_true, beq_iff_eq, decide_eq_true_eq] at h; exact h
theorem letter_dig : ∀ k : Nat, k < 10 → letter4 (48 + k) = 48 + (k : Int) := by decide
theorem gap_read {q : List Int} {k : Int} (h0 : 0 ≤ k) (h : k < 10) : (gapL k).foldl rstep (some q) = some (q ++ List.replicate k.toNat 46) := by
  unfold gapL
  split
  · rw [dig_one h0 h]
    show rstep (some q) (48 + k) = _
    have hl := letter_dig k.toNat (by omega)
    rw [show ((k.toNat : Nat) : Int) = k by omega] at hl
    unfold rstep
    simp only
    rw [hl, if_pos (by omega), show (48 + k - 48).toNat = k.toNat by omega]
  · have : k = 0 := by omega
    subst this; simp
theorem row_inv : ∀ (l p : List Int), cellsB (p ++ l) → (p ++ l).length ≤ 9 → ∀ (out : List Int) (k : Int), (∃ q, out.foldl rstep (some []) = some q ∧ 0 ≤ k ∧ p = q ++ List.replicate k.toNat 46) → ∃ q, (l.foldl rowStep (out, k)).1.foldl rstep (some []) = some q ∧ 0 ≤ (l.foldl rowStep (out, k)).2 ∧ p ++ l = q ++ List.replicate (l.foldl rowStep (out, k)).2.toNat 46 := by
  intro l
  induction l with
  | nil => intro p _ _ out k h; simpa using h
  | cons c l ih =>
    intro p hc hl out k ⟨q, h1, h2, h3⟩
    have hk : k < 10 := by
      have := congrArg List.length h3
      simp only [List.length_append, List.length_replicate, List.length_cons] at this hl
      omega
    have hcc := hc c (by simp)
    rw [List.foldl_cons, show p ++ c :: l = (p ++ [c]) ++ l by simp]
    rw [show p ++ c :: l = (p ++ [c]) ++ l by simp] at hc hl
    by_cases h46 : c = 46
    · rw [show rowStep (out, k) c = (out, k + 1) by unfold rowStep; rw [if_pos h46]]
      refine ih (p ++ [c]) hc hl out (k + 1) ⟨q, h1, by omega, ?_⟩
      rw [h3, h46, show (k + 1).toNat = k.toNat + 1 by omega, List.replicate_succ', List.append_assoc]
    · rw [show rowStep (out, k) c = (out ++ gapL k ++ [c], 0) by unfold rowStep; rw [if_neg h46]]
      have hs : 0 ≤ spSide c := (cell_two hcc.1).resolve_left h46
      have hp := piece_at hcc.2 hs
      refine ih (p ++ [c]) hc hl _ 0 ⟨p ++ [c], ?_, by decide, by simp⟩
      rw [List.foldl_append, List.foldl_append, h1, gap_read h2 hk, ← h3]
      show rstep (some p) c = _
      unfold rstep
      simp only
      rw [hp.1, if_neg hp.2.1, if_pos hs]
theorem row_read {l : List Int} (h : cellsB l) (hl : l.length ≤ 9) : rankGo (rowT l) = some l := by
  obtain ⟨q, h1, h2, h3⟩ := row_inv l [] (by simpa using h) (by simpa using hl) [] 0 ⟨[], rfl, by decide, rfl⟩
  rw [List.nil_append] at h3
  unfold rowT rowEnd rankGo
  generalize l.foldl rowStep ([], 0) = st at h1 h2 h3
  have hk : st.2 < 10 := by
    have := congrArg List.length h3
    rw [List.length_append, List.length_replicate] at this
    omega
  rw [List.foldl_append, h1, gap_read h2 hk, ← h3]
def cntStep (n c : Int) : Int := if c = 47 then n else if 49 ≤ c ∧ c ≤ 57 then n + (c - 48) else n + 1
theorem rstep_byte : ∀ n : Nat, n < 256 → (49 ≤ letter4 n ∧ letter4 n ≤ 57) ∨ 0 ≤ spSide (letter4 n) → ((49 ≤ letter4 n ∧ letter4 n ≤ 57) ↔ (49 ≤ (n : Int) ∧ (n : Int) ≤ 57)) ∧ ((49 ≤ letter4 n ∧ letter4 n ≤ 57) → letter4 n = n) ∧ (n : Int) ≠ 47 ∧ (n : Int) ≠ 32 := by decide +kernel
theorem rank_cnt : ∀ (t a b : List Int), (∀ x ∈ t, 0 ≤ x ∧ x < 256) → t.foldl rstep (some a) = some b → (∀ x ∈ t, x ≠ 47 ∧ x ≠ 32) ∧ a.length + t.length ≤ b.length ∧ ∀ n, t.foldl cntStep n = n + ((b.length : Int) - (a.length : Int)) := by
  intro t
  induction t with
  | nil => intro a b _ h; cases h; exact ⟨by simp, by simp, fun n => by simp⟩
  | cons x t ih =>
    intro a b hb h
    rw [List.foldl_cons] at h
    have hx := hb x (by simp)
    have htab := rstep_byte x.toNat (by omega)
    rw [show ((x.toNat : Nat) : Int) = x by omega] at htab
    by_cases hd : 49 ≤ letter4 x ∧ letter4 x ≤ 57
    · have e : rstep (some a) x = some (a ++ List.replicate (letter4 x - 48).toNat 46) := by unfold rstep; simp only; rw [if_pos hd]
      rw [e] at h
      obtain ⟨i1, i2, i3⟩ := ih _ _ (fun y hy => hb y (by simp [hy])) h
      obtain ⟨t1, t2, t3, t4⟩ := htab (.inl hd)
      rw [List.length_append, List.length_replicate, t2 hd] at i2 i3
      rw [t2 hd] at hd
      refine ⟨fun y hy => ?_, ?_, fun n => ?_⟩
      · rcases List.mem_cons.1 hy with rfl | hy
        · exact ⟨t3, t4⟩
        · exact i1 y hy
      · rw [List.length_cons]; omega
      · rw [List.foldl_cons, i3]; unfold cntStep; rw [if_neg t3, if_pos hd]; omega
    · by_cases hs : 0 ≤ spSide (letter4 x)
      · have e : rstep (some a) x = some (a ++ [letter4 x]) := by unfold rstep; simp only; rw [if_neg hd, if_pos hs]
        rw [e] at h
        obtain ⟨i1, i2, i3⟩ := ih _ _ (fun y hy => hb y (by simp [hy])) h
        obtain ⟨t1, t2, t3, t4⟩ := htab (.inr hs)
        rw [List.length_append, List.length_singleton] at i2 i3
        refine ⟨fun y hy => ?_, ?_, fun n => ?_⟩
        · rcases List.mem_cons.1 hy with rfl | hy
          · exact ⟨t3, t4⟩
          · exact i1 y hy
        · rw [List.length_cons]; omega
        · rw [List.foldl_cons, i3]; unfold cntStep; rw [if_neg t3, if_neg (fun e => hd (t1.2 e))]; omega
      · have e : rstep (some a) x = none := by unfold rstep; simp only; rw [if_neg hd, if_neg hs]
        rw [e, rstep_none] at h; cases h
theorem gap_bd (k : Int) : ∀ c ∈ gapL k, 0 ≤ c ∧ c < 256 := by
  unfold gapL
  split
  · intro c hc; have := dig_bd k c hc; omega
  · simp
theorem row_bd {l : List Int} (h : cellsB l) : ∀ c ∈ rowT l, 0 ≤ c ∧ c < 256 := by
  have key : ∀ (l : List Int), cellsB l → ∀ st : List Int × Int, (∀ c ∈ st.1, 0 ≤ c ∧ c < 256) → ∀ c ∈ (l.foldl rowStep st).1, 0 ≤ c ∧ c < 256 := by
    intro l
    induction l with
    | nil => intro _ st h; exact h
    | cons x l ih =>
      intro hc st h
      rw [List.foldl_cons]
      refine ih (fun y hy => hc y (by simp [hy])) _ ?_
      unfold rowStep
      split
      · exact h
      · intro c hc2
        rcases List.mem_append.1 hc2 with hc2 | hc2
        · rcases List.mem_append.1 hc2 with hc2 | hc2
          · exact h c hc2
          · exact gap_bd _ c hc2
        · rw [List.mem_singleton.1 hc2]; exact (hc x (by simp)).2
  intro c hc
  unfold rowT rowEnd at hc
  rcases List.mem_append.1 hc with hc | hc
  · exact key l h ([], 0) (by simp) c hc
  · exact gap_bd _ c hc

def joinI (s : Int) : List (List Int) → List Int
  | [] => []
  | [x] => x
  | x :: y :: l => x ++ s :: joinI s (y :: l)
theorem joinI_cons (s : Int) (x : List Int) {L : List (List Int)} (h : L ≠ []) : joinI s (x :: L) = x ++ s :: joinI s L := by
  cases L with
  | nil => exact absurd rfl h
  | cons y l => rfl
theorem joinI_snoc (s : Int) (x : List Int) : ∀ {L : List (List Int)}, L ≠ [] → joinI s (L ++ [x]) = joinI s L ++ s :: x := by
  intro L
  induction L with
  | nil => intro h; exact absurd rfl h
  | cons y L ih =>
    intro _
    by_cases hL : L = []
    · subst hL; rfl
    · rw [List.cons_append, joinI_cons s y (by simp), ih hL, joinI_cons s y hL]; simp
theorem cut_skip (c : Int) : ∀ (x l : List Int), (∀ y ∈ x, y ≠ c) → cutAt c (x ++ c :: l) = x :: cutAt c l := by
  intro x l
  induction x with
  | nil => intro _; show cutAt c (c :: l) = _; rw [cutAt, if_pos rfl]
  | cons y x ih =>
    intro h
    show cutAt c (y :: (x ++ c :: l)) = _
    rw [cutAt, if_neg (h y (by simp)), ih fun z hz => h z (by simp [hz])]; rfl
theorem cut_only (c : Int) : ∀ (x : List Int), (∀ y ∈ x, y ≠ c) → cutAt c x = [x] := by
  intro x
  induction x with
  | nil => intro _; rfl
  | cons y x ih =>
    intro h
    rw [cutAt, if_neg (h y (by simp)), ih fun z hz => h z (by simp [hz])]; rfl
theorem cut_join (c : Int) : ∀ {L : List (List Int)}, L ≠ [] → (∀ x ∈ L, ∀ y ∈ x, y ≠ c) → cutAt c (joinI c L) = L := by
  intro L
  induction L with
  | nil => intro h; exact absurd rfl h
  | cons x L ih =>
    intro _ h
    by_cases hL : L = []
    · subst hL; exact cut_only c x (h x (by simp))
    · rw [joinI_cons c x hL, cut_skip c x _ (h x (by simp)), ih hL fun z hz => h z (by simp [hz])]
theorem joinI_bd (s : Int) (hs : 0 ≤ s ∧ s < 256) : ∀ {L : List (List Int)}, (∀ x ∈ L, ∀ c ∈ x, 0 ≤ c ∧ c < 256) → ∀ c ∈ joinI s L, 0 ≤ c ∧ c < 256 := by
  intro L
  induction L with
  | nil => intro _ c hc; cases hc
  | cons x L ih =>
    intro h c hc
    by_cases hL : L = []
    · subst hL; exact h x (by simp) c hc
    · rw [joinI_cons s x hL] at hc
      rcases List.mem_append.1 hc with hc | hc
      · exact h x (by simp) c hc
      · rcases List.mem_cons.1 hc with rfl | hc
        · exact hs
        · exact ih (fun z hz => h z (by simp [hz])) c hc
theorem join_cut (c : Int) : ∀ (l : List Int), joinI c (cutAt c l) = l := by
  intro l
  induction l with
  | nil => rfl
  | cons x l ih =>
    rw [cutAt]
    split
    · rename_i h; subst h
      rw [joinI_cons _ _ (cutAt_ne _ _), ih]; rfl
    · cases hc : cutAt c l with
      | nil => exact absurd hc (cutAt_ne _ _)
      | cons y L =>
        rw [hc] at ih
        by_cases hL : L = []
        · subst hL; show joinI c [[x] ++ y] = _; rw [← ih]; rfl
        · show joinI c (([x] ++ y) :: L) = _
          rw [joinI_cons _ _ hL, ← ih, joinI_cons _ _ hL]; rfl

def rk (b : List Int) (r : Nat) : List Int := rowT (part b (9 * r) (9 * r + 9))
def rksL (b : List Int) : List (List Int) := ((List.range 10).map (rk b)).reverse
def boardT (b : List Int) : List Int := joinI 47 (rksL b)
theorem part_cells {b : List Int} (h : cellsB b) (i j : Nat) : cellsB (part b i j) := fun c hc => h c (List.mem_of_mem_drop (List.mem_of_mem_take hc))
theorem part_len {b : List Int} (hb : b.length = 90) {r : Nat} (hr : r < 10) : (part b (9 * r) (9 * r + 9)).length = 9 := by
  unfold part; rw [List.length_take, List.length_drop]; omega
theorem rk_read {b : List Int} (h : cellsB b) (hb : b.length = 90) {r : Nat} (hr : r < 10) : rankGo (rk b r) = some (part b (9 * r) (9 * r + 9)) := row_read (part_cells h _ _) (by rw [part_len hb hr]; exact Nat.le_refl _)
theorem rk_bd {b : List Int} (h : cellsB b) (r : Nat) : ∀ c ∈ rk b r, 0 ≤ c ∧ c < 256 := row_bd (part_cells h _ _)
theorem rk_cnt {b : List Int} (h : cellsB b) (hb : b.length = 90) {r : Nat} (hr : r < 10) : (∀ x ∈ rk b r, x ≠ 47 ∧ x ≠ 32) ∧ (rk b r).length ≤ 9 ∧ ∀ n, (rk b r).foldl cntStep n = n + 9 := by
  obtain ⟨h1, h2, h3⟩ := rank_cnt _ _ _ (rk_bd h r) (rk_read h hb hr)
  rw [part_len hb hr] at h2 h3
  exact ⟨h1, by simpa using h2, fun n => by rw [h3]; simp⟩
theorem rks_mem {b x : List Int} (h : x ∈ rksL b) : ∃ r, r < 10 ∧ x = rk b r := by
  obtain ⟨r, hr, rfl⟩ := List.mem_map.1 (List.mem_reverse.1 h)
  exact ⟨r, List.mem_range.1 hr, rfl⟩
theorem rks_ne (b : List Int) : rksL b ≠ [] := by simp [rksL]
theorem board_cut {b : List Int} (h : cellsB b) (hb : b.length = 90) : cutAt 47 (boardT b) = rksL b := cut_join 47 (rks_ne b) fun x hx y hy => by
  obtain ⟨r, hr, rfl⟩ := rks_mem hx
  exact ((rk_cnt h hb hr).1 y hy).1
theorem board_bd {b : List Int} (h : cellsB b) : ∀ c ∈ boardT b, 0 ≤ c ∧ c < 256 := joinI_bd 47 (by decide) fun x hx => by
  obtain ⟨r, _, rfl⟩ := rks_mem hx
  exact rk_bd h r
theorem joinI_prop {P : Int → Prop} (s : Int) (hs : P s) : ∀ {L : List (List Int)}, (∀ x ∈ L, ∀ c ∈ x, P c) → ∀ c ∈ joinI s L, P c := by
  intro L
  induction L with
  | nil => intro _ c hc; cases hc
  | cons x L ih =>
    intro h c hc
    by_cases hL : L = []
    · subst hL; exact h x (by simp) c hc
    · rw [joinI_cons s x hL] at hc
      rcases List.mem_append.1 hc with hc | hc
      · exact h x (by simp) c hc
      · rcases List.mem_cons.1 hc with rfl | hc
        · exact hs
        · exact ih (fun z hz => h z (by simp [hz])) c hc
theorem board_32 {b : List Int} (h : cellsB b) (hb : b.length = 90) : ∀ c ∈ boardT b, c ≠ 32 := joinI_prop 47 (by decide) fun x hx y hy => by
  obtain ⟨r, hr, rfl⟩ := rks_mem hx
  exact ((rk_cnt h hb hr).1 y hy).2
theorem cells_take {b : List Int} (h : cellsB b) (hb : b.length = 90) : ∀ k, k ≤ 10 → ((List.range k).map (rk b)).foldl cstep4 (some []) = some (b.take (9 * k)) := by
  intro k
  induction k with
  | zero => intro _; rfl
  | succ k ih =>
    intro hk
    rw [List.range_succ, List.map_append, List.foldl_append, ih (by omega)]
    show cstep4 (some _) (rk b k) = _
    unfold cstep4 rankR
    rw [rk_read h hb (by omega)]
    simp only
    rw [if_pos (part_len hb (by omega))]
    simp only
    congr 1
    unfold part
    rw [show 9 * k + 9 - 9 * k = 9 by omega, show 9 * (k + 1) = 9 * k + 9 by omega, List.take_add]
theorem board_read {b : List Int} (h : cellsB b) (hb : b.length = 90) : cellsGo (boardT b) = some b := by
  unfold cellsGo
  rw [board_cut h hb, if_pos (by simp [rksL])]
  unfold rksL
  rw [List.reverse_reverse, cells_take h hb 10 (Nat.le_refl _), List.take_of_length_le (by omega)]
theorem joinI_len (s : Int) (n : Nat) : ∀ {L : List (List Int)}, (∀ x ∈ L, x.length ≤ n) → (joinI s L).length ≤ (n + 1) * L.length := by
  intro L
  induction L with
  | nil => intro _; simp [joinI]
  | cons x L ih =>
    intro h
    have h1 := h x (by simp)
    have h2 := ih fun z hz => h z (by simp [hz])
    by_cases hL : L = []
    · subst hL; simp [joinI]; omega
    · rw [joinI_cons s x hL]
      simp only [List.length_append, List.length_cons, Nat.mul_succ]
      omega
theorem board_len {b : List Int} (h : cellsB b) (hb : b.length = 90) : (boardT b).length ≤ 100 := by
  have := joinI_len 47 9 (L := rksL b) fun x hx => by
    obtain ⟨r, hr, rfl⟩ := rks_mem hx
    exact (rk_cnt h hb hr).2.1
  rw [show (rksL b).length = 10 by simp [rksL]] at this
  exact this
theorem cnt_join {n0 : Int} : ∀ {L : List (List Int)}, (∀ x ∈ L, ∀ n, x.foldl cntStep n = n + n0) → ∀ n, (joinI 47 L).foldl cntStep n = n + n0 * L.length := by
  intro L
  induction L with
  | nil => intro _ n; simp [joinI]
  | cons x L ih =>
    intro h n
    by_cases hL : L = []
    · subst hL; show x.foldl cntStep n = _; rw [h x (by simp)]; simp
    · rw [joinI_cons _ x hL, List.foldl_append, h x (by simp), List.foldl_cons, show cntStep (n + n0) 47 = n + n0 from rfl, ih fun z hz => h z (by simp [hz])]
      simp only [List.length_cons, Int.natCast_add, Int.natCast_one, Int.mul_add]; omega
theorem board_cnt {b : List Int} (h : cellsB b) (hb : b.length = 90) : (boardT b).foldl cntStep 0 = 90 := by
  unfold boardT
  rw [cnt_join (n0 := 9) fun x hx => by obtain ⟨r, hr, rfl⟩ := rks_mem hx; exact (rk_cnt h hb hr).2.2]
  simp [rksL]

def sdL (sd : Int) : List Int := if sd = 1 then [98] else [119]
def fldsL (b : List Int) (sd k f : Int) : List (List Int) := [boardT b, sdL sd, [45], [45], digL k, digL f]
def printT (b : List Int) (sd k f : Int) : List Int := joinI 32 (fldsL b sd k f)
structure PrOk (b : List Int) (sd k f : Int) : Prop where
  c : cellsB b
  l : b.length = 90
  s : sd = 0 ∨ sd = 1
  k : 0 ≤ k ∧ k ≤ 120
  f : 1 ≤ f ∧ f ≤ 9999
theorem flds_32 {b : List Int} {sd k f : Int} (h : PrOk b sd k f) : ∀ x ∈ fldsL b sd k f, ∀ y ∈ x, y ≠ 32 ∧ 0 ≤ y ∧ y < 256 := by
  intro x hx y hy
  simp only [fldsL, List.mem_cons, List.not_mem_nil, or_false] at hx
  rcases hx with rfl | rfl | rfl | rfl | rfl | rfl
  · exact ⟨board_32 h.c h.l y hy, board_bd h.c y hy⟩
  · unfold sdL at hy; split at hy <;> (rw [List.mem_singleton.1 hy]; decide)
  · rw [List.mem_singleton.1 hy]; decide
  · rw [List.mem_singleton.1 hy]; decide
  · have := dig_bd _ y hy; omega
  · have := dig_bd _ y hy; omega
theorem print_cut {b : List Int} {sd k f : Int} (h : PrOk b sd k f) : cutAt 32 (printT b sd k f) = fldsL b sd k f := cut_join 32 (by simp [fldsL]) fun x hx y hy => (flds_32 h x hx y hy).1
theorem print_bd {b : List Int} {sd k f : Int} (h : PrOk b sd k f) : ∀ c ∈ printT b sd k f, 0 ≤ c ∧ c < 256 := joinI_bd 32 (by decide) fun x hx y hy => (flds_32 h x hx y hy).2
theorem side_read {sd : Int} (h : sd = 0 ∨ sd = 1) : sideGo (sdL sd) = some sd := by rcases h with rfl | rfl <;> decide
theorem print_form {b : List Int} {sd k f : Int} (h : PrOk b sd k f) : formGo (cutAt 32 (printT b sd k f)) = some (b, sd, k, f) := by
  rw [print_cut h]
  unfold fldsL formGo
  simp only
  rw [board_read h.c h.l, side_read h.s, (dig_num h.k.1 (by have := h.k.2; omega)).1, (dig_num (by have := h.f.1; omega) h.f.2).1]
  simp
theorem printT_len {b : List Int} {sd k f : Int} (h : PrOk b sd k f) : (printT b sd k f).length ≤ 606 := by
  refine Nat.le_trans (joinI_len 32 100 (L := fldsL b sd k f) ?_) (by simp [fldsL])
  intro x hx
  simp only [fldsL, List.mem_cons, List.not_mem_nil, or_false] at hx
  rcases hx with rfl | rfl | rfl | rfl | rfl | rfl
  · exact board_len h.c h.l
  · unfold sdL; split <;> decide
  · decide
  · decide
  · have := (dig_num h.k.1 (by have := h.k.2; omega)).2; omega
  · have := (dig_num (n := f) (by have := h.f.1; omega) h.f.2).2; omega
def prB (p : Pos4) : ByteArray := bytesOf (printT (bytesL p.1) p.2.1 p.2.2.1 p.2.2.2)
def ck (p : Pos4) : Int := rCheck p.1 p.2.1 p.2.2.1 p.2.2.2
def printP (p : Pos4) : ByteArray × Int := if ck p = 0 then (prB p, 0) else (ByteArray.empty, ck p)
theorem pr_ok {p : Pos4} (h : ck p = 0) : PrOk (bytesL p.1) p.2.1 p.2.2.1 p.2.2.2 := by
  obtain ⟨h1, h2, h3, h4, h5⟩ := rArg_f (rCheck_arg h).1
  obtain ⟨i1, i2⟩ := is_iff.1 h1
  refine ⟨fun c hc => ⟨?_, bytesL_bound _ c hc⟩, by rw [bL_len]; exact i1, h2, h3, ⟨h4, h5⟩⟩
  obtain ⟨n, hn, rfl⟩ := List.getElem_of_mem hc
  have hn' := hn
  rw [bL_len, i1] at hn'
  have := i2 n hn'
  rw [← bL_at, List.getD_eq_getElem?_getD, List.getElem?_eq_getElem hn] at this
  exact this
theorem prB_list {p : Pos4} (h : ck p = 0) : bytesL (prB p) = printT (bytesL p.1) p.2.1 p.2.2.1 p.2.2.2 := bytesL_of (print_bd (pr_ok h))
theorem prB_size {p : Pos4} (h : ck p = 0) : (prB p).size ≤ 606 := by
  unfold prB; rw [size_bytesOf]; exact printT_len (pr_ok h)
theorem form_pr {p : Pos4} (h : ck p = 0) : form4 (prB p) = some (bytesL p.1, p.2) := by
  unfold form4
  have := prB_size h
  rw [if_neg (by omega), prB_list h, print_form (pr_ok h)]
theorem back_pos {p : Pos4} (h : ck p = 0) : pos4 (prB p) = p ∧ err4 (prB p) = 0 := by
  unfold pos4 err4
  rw [form_pr h]
  simp only
  rw [bytesOf_bytesL]
  exact ⟨if_pos h, h⟩
theorem back_parse {p : Pos4} (h : ck p = 0) : parseP (prB p) = (p, 0) := by
  rw [parse_same (by have := prB_size h; omega), (back_pos h).1, (back_pos h).2]
theorem read_two (s : ByteArray) : (err4 s = 0 ∧ ck (pos4 s) = 0) ∨ (err4 s ≠ 0 ∧ pos4 s = (ByteArray.empty, 0, 0, 0)) := by
  unfold err4 pos4
  cases form4 s with
  | none => exact .inr ⟨by decide, rfl⟩
  | some x =>
    obtain ⟨b, sd, k, f⟩ := x
    simp only
    by_cases hc : rCheck (bytesOf b) sd k f = 0
    · rw [if_pos hc]; exact .inl ⟨hc, hc⟩
    · rw [if_neg hc]; exact .inr ⟨hc, rfl⟩
theorem print_apart {p q : Pos4} (hp : ck p = 0) (hq : ck q = 0) : prB p = prB q ↔ p = q :=
  ⟨fun h => by rw [← (back_pos hp).1, ← (back_pos hq).1, h], fun h => by rw [h]⟩
end Go.X

namespace Go.X
open Go

theorem joinI_set_len (s : Int) (x : List Int) : ∀ (L : List (List Int)) (i : Nat), (joinI s (L.set i x)).length ≤ (joinI s L).length + x.length := by
  intro L
  induction L with
  | nil => intro i; simp [joinI]
  | cons y L ih =>
    intro i
    cases i with
    | zero =>
      rw [List.set_cons_zero]
      by_cases hL : L = []
      · subst hL; simp [joinI]
      · rw [joinI_cons _ _ hL, joinI_cons _ _ hL]; simp only [List.length_append, List.length_cons]; omega
    | succ i =>
      rw [List.set_cons_succ]
      by_cases hL : L = []
      · subst hL; simp [joinI]
      · rw [joinI_cons _ _ hL, joinI_cons _ _ (by simpa using hL)]; simp only [List.length_append, List.length_cons]; have := ih i; omega
def sdX (sd : Int) : Int := if sd = 1 then 119 else 98
def turned (s : ByteArray) (sd : Int) : List (List Int) := (cutAt 32 (bytesL s)).set 1 [sdX sd]
theorem turned_mem {s : ByteArray} {sd : Int} {x : List Int} (h : x ∈ turned s sd) : ∀ y ∈ x, y ≠ 32 ∧ 0 ≤ y ∧ y < 256 := by
  intro y hy
  unfold turned at h
  rcases List.mem_or_eq_of_mem_set h with h | rfl
  · have h1 := cutAt_mem h y hy
    exact ⟨h1.2, bytesL_bound s y h1.1⟩
  · rw [List.mem_singleton.1 hy]; unfold sdX; split <;> decide
theorem turned_ne (s : ByteArray) (sd : Int) : turned s sd ≠ [] := by
  unfold turned
  intro h
  have h2 := congrArg List.length h
  rw [List.length_set] at h2
  exact cutAt_ne 32 (bytesL s) (List.length_eq_zero_iff.1 h2)
def turnT (s : ByteArray) (sd : Int) : ByteArray := bytesOf (joinI 32 (turned s sd))
theorem turnT_bytes (s : ByteArray) (sd : Int) : bytesL (turnT s sd) = joinI 32 (turned s sd) := bytesL_of (joinI_bd 32 (by decide) fun _ hx y hy => (turned_mem hx y hy).2)
theorem turnT_size (s : ByteArray) (sd : Int) : (turnT s sd).size ≤ s.size + 1 := by
  unfold turnT
  rw [size_bytesOf]
  unfold turned
  refine Nat.le_trans (joinI_set_len _ _ _ _) ?_
  rw [join_cut, bL_len]; exact Nat.le_refl _
theorem turn_form {L : List (List Int)} {b : List Int} {sd k f : Int} (h : formGo L = some (b, sd, k, f)) : (sd = 0 ∨ sd = 1) ∧ formGo (L.set 1 [sdX sd]) = some (b, 1 - sd, k, f) := by
  have hsx : ∀ t, sideGo t = some sd → (sd = 0 ∨ sd = 1) ∧ sideGo [sdX sd] = some (1 - sd) := by
    intro t ht
    unfold sideGo at ht
    split at ht
    · cases ht; exact ⟨.inl rfl, by decide⟩
    · split at ht
      · cases ht; exact ⟨.inr rfl, by decide⟩
      · cases ht
  unfold formGo at h
  split at h
  · rename_i a t
    split at h
    · rename_i b' s' h1 h2
      cases h
      obtain ⟨i1, i2⟩ := hsx t h2
      refine ⟨i1, ?_⟩
      rw [List.set_cons_succ, List.set_cons_zero]
      unfold formGo
      simp only
      rw [h1, i2]
    · cases h
  · rename_i a t x y k' f'
    split at h
    · rename_i b' s' n m h1 h2 h3 h4
      split at h
      · rename_i h5
        cases h
        obtain ⟨i1, i2⟩ := hsx t h2
        refine ⟨i1, ?_⟩
        rw [List.set_cons_succ, List.set_cons_zero]
        unfold formGo
        simp only
        rw [h1, i2, h3, h4]
        simp only
        rw [if_pos h5]
      · cases h
    · cases h
  · cases h
theorem check_turn {p : ByteArray} {sd k f : Int} (h : rCheck p sd k f = 0) : rCheck p (1 - sd) k f = 0 := by
  obtain ⟨h1, h2⟩ := rCheck_arg h
  obtain ⟨i1, i2, i3, i4, i5⟩ := rArg_f h1
  unfold rCheck
  rw [if_neg, h2]
  unfold rArg
  rw [i1]
  simp only [Bool.not_true, Bool.false_or, Bool.or_eq_true, decide_eq_true_eq, not_or]
  omega
theorem turn_read {s : ByteArray} (hs : s.size ≤ 500) (he : err4 s = 0) : parseP (turnT s (pos4 s).2.1) = (((pos4 s).1, 1 - (pos4 s).2.1, (pos4 s).2.2.1, (pos4 s).2.2.2), 0) ∧ ((pos4 s).2.1 = 0 ∨ (pos4 s).2.1 = 1) := by
  unfold err4 at he
  cases hf : form4 s with
  | none => rw [hf] at he; exact absurd he (by decide)
  | some x =>
    obtain ⟨b, sd, k, f⟩ := x
    rw [hf] at he
    have hp : pos4 s = (bytesOf b, sd, k, f) := by unfold pos4; rw [hf]; exact if_pos he
    rw [hp]
    have hg : formGo (cutAt 32 (bytesL s)) = some (b, sd, k, f) := by
      unfold form4 at hf
      rw [if_neg (by omega)] at hf; exact hf
    obtain ⟨i1, i2⟩ := turn_form hg
    refine ⟨?_, i1⟩
    have hz := turnT_size s sd
    have h4 : form4 (turnT s sd) = some (b, 1 - sd, k, f) := by
      unfold form4
      rw [if_neg (by omega), turnT_bytes, cut_join 32 (turned_ne s sd) fun x hx y hy => (turned_mem hx y hy).1]
      exact i2
    have hc : rCheck (bytesOf b) (1 - sd) k f = 0 := check_turn he
    rw [parse_same (show (turnT s sd).size ≤ 1000 by omega)]
    unfold pos4 err4
    dsimp only
    rw [h4]
    simp only
    rw [if_pos hc, hc]
theorem turned_len (s : ByteArray) (sd : Int) : (turned s sd).length = (pieces 32 s).length := by unfold turned; rw [List.length_set, pieces_length]
theorem turned_at {s : ByteArray} {sd : Int} {i : Nat} (hi : i < (pieces 32 s).length) (h1 : i ≠ 1) : (turned s sd)[i]? = some (bytesL ((pieces 32 s).getD i ByteArray.empty)) := by
  unfold turned
  rw [List.getElem?_set_ne (Ne.symm h1), ← pieces_map, List.getElem?_map, List.getD_eq_getElem?_getD, List.getElem?_eq_getElem hi]; rfl
theorem turned_two {s : ByteArray} {sd : Int} (h : 2 ≤ (pieces 32 s).length) : bytesOf (joinI 32 ((turned s sd).take 2)) = (pieces 32 s).getD 0 ByteArray.empty ++ bytesOf [32, sdX sd] := by
  have h0 := turned_at (sd := sd) (show 0 < (pieces 32 s).length by omega) (by decide)
  have h1 : (turned s sd)[1]? = some [sdX sd] := by
    unfold turned
    rw [List.getElem?_set_self (by rw [← pieces_length]; omega)]
  have e : (turned s sd).take 2 = [bytesL ((pieces 32 s).getD 0 ByteArray.empty), [sdX sd]] := by
    generalize turned s sd = L at *
    match L, h0, h1 with
    | a :: b :: L, h0, h1 => simp only [List.getElem?_cons_zero, List.getElem?_cons_succ, Option.some.injEq] at h0 h1; rw [h0, h1]; rfl
  rw [e]
  show bytesOf (bytesL _ ++ 32 :: [sdX sd]) = _
  rw [bytesOf_app, bytesOf_bytesL]
theorem turned_next {s : ByteArray} {sd : Int} {i : Nat} (h2 : 2 ≤ i) (hi : i < (pieces 32 s).length) : bytesOf (joinI 32 ((turned s sd).take (i + 1))) = bytesOf (joinI 32 ((turned s sd).take i)) ++ ⟨#[32]⟩ ++ (pieces 32 s).getD i ByteArray.empty := by
  rw [List.take_add_one, turned_at hi (by omega)]
  simp only [Option.toList_some]
  rw [joinI_snoc, bytesOf_app]
  · show _ ++ bytesOf ([32] ++ bytesL _) = _
    rw [bytesOf_app, bytesOf_bytesL, ← ByteArray.append_assoc]; rfl
  · intro h
    have h3 := congrArg List.length h
    rw [List.length_take, turned_len] at h3
    simp only [List.length_nil] at h3
    omega
theorem turned_done {s : ByteArray} {sd : Int} {i : Nat} (hi : (pieces 32 s).length ≤ i) : bytesOf (joinI 32 ((turned s sd).take i)) = turnT s sd := by
  unfold turnT
  rw [List.take_of_length_le (by rw [turned_len]; exact hi)]

theorem pr_pieces {p : Pos4} (h : ck p = 0) : pieces 32 (prB p) = (fldsL (bytesL p.1) p.2.1 p.2.2.1 p.2.2.2).map bytesOf := by
  unfold pieces
  rw [prB_list h, print_cut (pr_ok h)]
theorem pr_six {p : Pos4} (h : ck p = 0) : (pieces 32 (prB p)).length = 6 := by rw [pr_pieces h]; rfl
def bdB (p : Pos4) : ByteArray := bytesOf (boardT (bytesL p.1))
theorem pr_first {p : Pos4} (h : ck p = 0) : (pieces 32 (prB p)).getD 0 ByteArray.empty = bdB p := by rw [pr_pieces h]; rfl
theorem bd_list {p : Pos4} (h : ck p = 0) : bytesL (bdB p) = boardT (bytesL p.1) := bytesL_of (board_bd (pr_ok h).c)
theorem bd_size {p : Pos4} (h : ck p = 0) : (bdB p).size ≤ 100 := by unfold bdB; rw [size_bytesOf]; exact board_len (pr_ok h).c (pr_ok h).l
theorem bd_ten {p : Pos4} (h : ck p = 0) : (pieces 47 (bdB p)).length = 10 := by
  rw [pieces_length, bd_list h, board_cut (pr_ok h).c (pr_ok h).l]
  simp [rksL]
theorem bd_cnt {p : Pos4} (h : ck p = 0) : (bytesL (bdB p)).foldl cntStep 0 = 90 := by rw [bd_list h]; exact board_cnt (pr_ok h).c (pr_ok h).l
theorem cnt_next {l : List Int} {i : Nat} (hi : i < l.length) : (l.take (i + 1)).foldl cntStep 0 = cntStep ((l.take i).foldl cntStep 0) (l.getD i 0) := by
  rw [List.take_succ_eq_append_getElem hi, List.foldl_append, List.getD_eq_getElem?_getD, List.getElem?_eq_getElem hi]; rfl
end Go.X

namespace Go.X
open Go
structure DG (k : Nat) (n : Int) : Prop where
  lo : 0 ≤ n
  hi : n < 10 ^ k
  pos : 0 < k ∧ n ≤ 9999
theorem DG.of {n : Int} (h0 : 0 ≤ n) (h : n ≤ 9999) : DG 4 n := ⟨h0, by omega, by decide, h⟩
theorem dig_len {n : Int} (h0 : 0 ≤ n) (h : n ≤ 9999) : (digL n).length ≤ 4 := (dig_num h0 h).2
theorem dig_byte {n : Int} (h : 0 ≤ n) (h9 : n ≤ 9999) : IntKind.u8.wrap (IntKind.i64.wrap (48 + Int.tmod n 10)) = 48 + n % 10 := by
  rw [Int.tmod_eq_emod_of_nonneg h, wrap64 (by omega) (by omega), wrapB (by omega) (by omega)]
theorem DG.next {k : Nat} {n : Int} (h : DG (k + 1) n) (h10 : 10 ≤ n) : DG k (Int.tdiv n 10) := by
  have hp : (10 : Int) ^ (k + 1) = 10 * 10 ^ k := by rw [Int.pow_succ, Int.mul_comm]
  have h1 := h.hi
  have h9 := h.pos.2
  rw [hp] at h1
  refine ⟨?_, ?_, ?_, ?_⟩
  · rw [Int.tdiv_eq_ediv_of_nonneg h.lo]; omega
  · rw [Int.tdiv_eq_ediv_of_nonneg h.lo]; omega
  · rcases Nat.eq_zero_or_pos k with rfl | hk
    · simp at h1; omega
    · exact hk
  · rw [Int.tdiv_eq_ediv_of_nonneg h.lo]; omega
theorem dig_step {n : Int} (h : 10 ≤ n) : bytesOf (digL (Int.tdiv n 10)) ++ bytesOf [48 + n % 10] = bytesOf (digL n) := by
  rw [Int.tdiv_eq_ediv_of_nonneg (by omega), ← bytesOf_app, ← dig_more h]
theorem dig_all (n : Int) : ∀ c ∈ digL n, 0 ≤ c ∧ c < 256 := fun c hc => by have := dig_bd n c hc; omega

structure RW (b : ByteArray) (r : Int) : Prop where
  sz : b.size = 90
  lo : 0 ≤ r
  hi : r ≤ 9
def rst (b : List Int) (r i : Nat) : List Int × Int := (part b (9 * r) (9 * r + i)).foldl rowStep ([], 0)
structure RInv (b : List Int) (r i : Nat) : Prop where
  hi : i ≤ 9
  k0 : 0 ≤ (rst b r i).2
  k1 : (rst b r i).2 ≤ i
  len : (rst b r i).1.length ≤ 2 * i
theorem rst_next {b : List Int} (hb : b.length = 90) {r i : Nat} (hr : r ≤ 9) (hi : i < 9) : rst b r (i + 1) = rowStep (rst b r i) (b.getD (9 * r + i) 0) := by
  unfold rst
  rw [show 9 * r + (i + 1) = (9 * r + i) + 1 by omega, part_next (by omega) (by omega), List.foldl_append]; rfl
theorem gap_len {k : Int} (h0 : 0 ≤ k) (h : k ≤ 9) : (gapL k).length ≤ 1 := by
  unfold gapL
  split
  · rw [dig_one h0 (by omega)]; exact Nat.le_refl _
  · decide
theorem RInv.start (b : List Int) (r : Nat) : RInv b r 0 := by
  have : rst b r 0 = ([], 0) := by unfold rst; rw [show 9 * r + 0 = 9 * r from rfl, part_self]; rfl
  exact ⟨by decide, by rw [this]; decide, by rw [this]; decide, by rw [this]; decide⟩
theorem RInv.next {b : List Int} (hb : b.length = 90) {r i : Nat} (hr : r ≤ 9) (hi : i < 9) (h : RInv b r i) : RInv b r (i + 1) := by
  have h1 := h.k0; have h2 := h.k1; have h3 := h.len
  have hg := gap_len h1 (by omega)
  refine ⟨hi, ?_, ?_, ?_⟩ <;> rw [rst_next hb hr hi] <;> unfold rowStep <;> split
  · show (0 : Int) ≤ (rst b r i).2 + 1; omega
  · exact Int.le_refl _
  · show (rst b r i).2 + 1 ≤ _; omega
  · show (0 : Int) ≤ _; omega
  · show (rst b r i).1.length ≤ _; omega
  · show (_ ++ _ ++ [_] : List Int).length ≤ _; simp only [List.length_append, List.length_singleton]; omega
theorem step_dot {st : List Int × Int} {c : Int} (h : c = 46) : rowStep st c = (st.1, st.2 + 1) := if_pos h
theorem step_gap {st : List Int × Int} {c : Int} (h : c ≠ 46) (hk : 0 < st.2) : rowStep st c = (st.1 ++ digL st.2 ++ [c], 0) := by unfold rowStep gapL; rw [if_neg h, if_pos hk]
theorem step_no {st : List Int × Int} {c : Int} (h : c ≠ 46) (hk : ¬ 0 < st.2) : rowStep st c = (st.1 ++ [c], 0) := by unfold rowStep gapL; rw [if_neg h, if_neg hk, List.append_nil]
theorem rk_end (b : List Int) (r : Nat) : rk b r = rowEnd (rst b r 9) := rfl
theorem end_gap {st : List Int × Int} (hk : 0 < st.2) : rowEnd st = st.1 ++ digL st.2 := by unfold rowEnd gapL; rw [if_pos hk]
theorem end_no {st : List Int × Int} (hk : ¬ 0 < st.2) : rowEnd st = st.1 := by unfold rowEnd gapL; rw [if_neg hk, List.append_nil]

theorem rks_at {b : List Int} {i : Nat} (hi : i < 10) : (rksL b)[i]? = some (rk b (9 - i)) := by
  unfold rksL
  rw [List.getElem?_reverse (by simpa using hi), List.getElem?_map, List.length_map, List.length_range, List.getElem?_range (by omega)]; rfl
def rowsT (b : List Int) (n : Nat) : List Int := joinI 47 ((rksL b).take n)
theorem rows_one (b : List Int) : rowsT b 1 = rk b 9 := by
  unfold rowsT
  rw [List.take_add_one, rks_at (by decide)]; rfl
theorem rows_next {b : List Int} {n : Nat} (h1 : 1 ≤ n) (h : n < 10) : rowsT b (n + 1) = rowsT b n ++ [47] ++ rk b (9 - n) := by
  unfold rowsT
  rw [List.take_add_one, rks_at h]
  simp only [Option.toList_some]
  rw [joinI_snoc, List.append_assoc]; rfl
  intro h2
  have h3 := congrArg List.length h2
  rw [List.length_take, show (rksL b).length = 10 by simp [rksL]] at h3
  simp only [List.length_nil] at h3
  omega
theorem rows_all (b : List Int) : rowsT b 10 = boardT b := by
  unfold rowsT boardT
  rw [List.take_of_length_le (by simp [rksL])]
theorem rows_len {b : List Int} (h : cellsB b) (hb : b.length = 90) (n : Nat) : (rowsT b n).length ≤ 100 := by
  have := joinI_len 47 9 (L := (rksL b).take n) fun x hx => by
    obtain ⟨r, hr, rfl⟩ := rks_mem (List.mem_of_mem_take hx)
    exact (rk_cnt h hb hr).2.1
  rw [List.length_take, show (rksL b).length = 10 by simp [rksL]] at this
  unfold rowsT
  have h2 : min n 10 ≤ 10 := Nat.min_le_right _ _
  omega
theorem rk_len {b : List Int} (h : cellsB b) (hb : b.length = 90) {r : Nat} (hr : r < 10) : (rk b r).length ≤ 9 := (rk_cnt h hb hr).2.1
theorem printT_eq (b : List Int) (sd k f : Int) : printT b sd k f = boardT b ++ ([32] ++ sdL sd ++ [32, 45, 32, 45, 32]) ++ digL k ++ [32] ++ digL f := by
  unfold printT fldsL
  simp [joinI]
theorem side_t {sd : Int} (h : (sd == 1) = true) : bytesOf ([32] ++ sdL sd ++ [32, 45, 32, 45, 32]) = ⟨#[32, 98, 32, 45, 32, 45, 32]⟩ := by
  rw [beqT h]; rfl
theorem side_f {sd : Int} (h : (sd == 1) = false) : bytesOf ([32] ++ sdL sd ++ [32, 45, 32, 45, 32]) = ⟨#[32, 119, 32, 45, 32, 45, 32]⟩ := by
  unfold sdL
  rw [if_neg (beqF h)]; rfl
theorem print_chk {p : Pos4} (h : (ck p != 0) = true) : printP p = (ByteArray.empty, ck p) := by unfold printP; rw [if_neg (by simpa using h)]
theorem print_ok {p : Pos4} (h : (ck p != 0) = false) : printP p = (prB p, 0) := by unfold printP; rw [if_pos (by simpa using h)]
theorem prB_app (p : Pos4) : prB p = bytesOf (boardT (bytesL p.1)) ++ bytesOf ([32] ++ sdL p.2.1 ++ [32, 45, 32, 45, 32]) ++ bytesOf (digL p.2.2.1) ++ ⟨#[32]⟩ ++ bytesOf (digL p.2.2.2) := by
  unfold prB
  rw [printT_eq, bytesOf_app, bytesOf_app, bytesOf_app, bytesOf_app]; rfl
end Go.X

namespace Go.X
open Go

theorem rowF_shift (x : List Int) : ∀ (l : List Int) (out : List Int) (k : Int), l.foldl rowStep (x ++ out, k) = (x ++ (l.foldl rowStep (out, k)).1, (l.foldl rowStep (out, k)).2) := by
  intro l
  induction l with
  | nil => intro out k; rfl
  | cons c l ih =>
    intro out k
    rw [List.foldl_cons, List.foldl_cons]
    by_cases hc : c = 46
    · rw [step_dot hc, step_dot hc]; exact ih out (k + 1)
    · have e : ∀ y : List Int, rowStep (y, k) c = (y ++ gapL k ++ [c], 0) := fun y => by unfold rowStep; rw [if_neg hc]
      rw [e, e, List.append_assoc, List.append_assoc, ih, List.append_assoc]
theorem rowT_shift (x l : List Int) : rowEnd (l.foldl rowStep (x, 0)) = x ++ rowT l := by
  have := rowF_shift x l [] 0
  rw [List.append_nil] at this
  rw [this]; unfold rowT rowEnd; rw [List.append_assoc]
theorem rowT_piece {c : Int} {l : List Int} (h : c ≠ 46) : rowT (c :: l) = [c] ++ rowT l := by
  unfold rowT
  rw [List.foldl_cons, show rowStep ([], 0) c = ([c], 0) by unfold rowStep; rw [if_neg h]; rfl]
  exact rowT_shift [c] l
theorem dots_fold : ∀ (n : Nat) (k : Int), (List.replicate n 46).foldl rowStep ([], k) = ([], k + n) := by
  intro n
  induction n with
  | zero => intro k; simp
  | succ n ih =>
    intro k
    rw [List.replicate_succ, List.foldl_cons, show rowStep ([], k) 46 = ([], k + 1) from rfl, ih]
    congr 1; omega
theorem rowT_dots {n : Nat} {l : List Int} (hn : 0 < n) (h : ∀ c, l.head? = some c → c ≠ 46) : rowT (List.replicate n 46 ++ l) = digL n ++ rowT l := by
  have hg : gapL ((0 : Int) + (n : Int)) = digL n := by
    unfold gapL
    rw [if_pos (by omega)]; congr 1; omega
  unfold rowT
  rw [List.foldl_append, dots_fold]
  cases l with
  | nil => show [] ++ gapL ((0 : Int) + (n : Int)) = _ ++ (rowEnd ([], 0)); rw [hg]; show _ = digL n ++ []; simp
  | cons c l =>
    have hc := h c rfl
    rw [List.foldl_cons, List.foldl_cons, show rowStep ([], 0 + (n : Int)) c = (digL n ++ [c], 0) by unfold rowStep; rw [if_neg hc, hg]; rfl, show rowStep ([], 0) c = ([c], 0) by unfold rowStep; rw [if_neg hc]; rfl, rowT_shift, rowT_shift]
    simp
def nd (c : Int) : Bool := c != 46
theorem nd_f {c : Int} (h : nd c = false) : c = 46 := by unfold nd at h; simpa using h
theorem nd_t {c : Int} (h : nd c = true) : c ≠ 46 := by unfold nd at h; simpa using h
theorem all_dots {l : List Int} (h : ∀ x ∈ l, nd x = false) : l = List.replicate l.length 46 := List.eq_replicate_iff.2 ⟨rfl, fun x hx => nd_f (h x hx)⟩
structure FInv (b : List Int) (j m : Nat) (acc : List Int) : Prop where
  hi : m ≤ 9
  eq : acc ++ rowT (part b (9 * j + m) (9 * j + 9)) = rk b j
  len : acc.length ≤ m
  by_ : BYL acc
def rest (b : List Int) (j m : Nat) : List Int := part b (9 * j + m) (9 * j + 9)
theorem rest_len {b : List Int} (hb : b.length = 90) {j m : Nat} (hj : j < 10) (hm : m ≤ 9) : (rest b j m).length = 9 - m := by
  unfold rest part; rw [List.length_take, List.length_drop]; omega
theorem FInv.start (b : List Int) (j : Nat) : FInv b j 0 [] := ⟨by decide, rfl, by decide, ⟨by simp, trivial, trivial⟩⟩
theorem FInv.done {b : List Int} {j : Nat} {acc : List Int} (h : FInv b j 9 acc) : acc = rk b j := by
  have := h.eq
  rw [part_self] at this
  rw [← this]; show acc = acc ++ []; simp
theorem dig_by (n : Int) : BYL (digL n) := ⟨dig_all n, trivial, trivial⟩
theorem rest_cut {b : List Int} (hb : b.length = 90) {j m k : Nat} (hj : j < 10) (hk : m + k ≤ 9) : rest b j m = (rest b j m).take k ++ rest b j (m + k) := by
  conv => lhs; rw [← List.take_append_drop k (rest b j m)]
  congr 1
  unfold rest part
  rw [List.drop_take, List.drop_drop, show 9 * j + m + k = 9 * j + (m + k) by omega]
  congr 1
  omega
theorem FInv.neg {b : List Int} (hb : b.length = 90) {j m : Nat} {acc : List Int} (hj : j < 10) (hm : m < 9) (h : FInv b j m acc) (hv : spIdx nd (rest b j m) < 0) : FInv b j 9 (acc ++ digL ((9 - m : Nat) : Int)) := by
  have hl := rest_len hb hj h.hi
  have hd : rest b j m = List.replicate (9 - m) 46 := by
    rw [← hl]
    rcases idx_spec nd (rest b j m) with ⟨_, h2⟩ | ⟨i, _, h2, _⟩
    · exact all_dots fun x hx => by
        have := List.any_eq_false.1 h2 x hx
        simpa using this
    · rw [h2] at hv; exact absurd hv (by simp)
  have h1 := h.eq
  have h2 : rowT (rest b j m) = digL ((9 - m : Nat) : Int) := by
    rw [hd]
    have := rowT_dots (n := 9 - m) (l := []) (by omega) (by simp)
    rw [List.append_nil] at this
    rw [this]; show _ ++ [] = _; simp
  refine ⟨Nat.le_refl _, ?_, ?_, h.by_.app (dig_by _)⟩
  · rw [part_self, ← h1]
    show _ ++ [] = acc ++ rowT (rest b j m)
    rw [h2]; simp
  · rw [List.length_append, dig_one (by omega) (by omega)]
    have := h.len
    show acc.length + 1 ≤ 9
    omega
theorem FInv.pos {b : List Int} (hb : b.length = 90) {j m : Nat} {acc : List Int} (hj : j < 10) (hm : m < 9) (h : FInv b j m acc) {k : Nat} (hk : 0 < k) (hv : spIdx nd (rest b j m) = Int.ofNat k) : m + k < 9 ∧ FInv b j (m + k) (acc ++ digL (k : Int)) := by
  have hl := rest_len hb hj h.hi
  rcases idx_spec nd (rest b j m) with ⟨h2, _⟩ | ⟨i, hi, h2, h3, h4⟩
  · rw [h2] at hv; cases hv
  · rw [h2] at hv
    have : i = k := Int.ofNat.inj hv
    subst this
    rw [hl] at hi
    have hd : (rest b j m).take i = List.replicate i 46 := by
      have := all_dots h3
      rw [List.length_take, hl, Nat.min_eq_left (by omega)] at this
      exact this
    have hc := rest_cut hb hj (m := m) (k := i) (by omega)
    refine ⟨by omega, by omega, ?_, ?_, h.by_.app (dig_by _)⟩
    · show _ ++ rowT (rest b j (m + i)) = _
      rw [← h.eq]
      show _ = acc ++ rowT (rest b j m)
      rw [hc, hd, rowT_dots hk, List.append_assoc]
      intro c hcc
      refine nd_t ?_
      have : (rest b j m).getD i 0 = c := by
        rw [hc, List.getD_eq_getElem?_getD, List.getElem?_append_right (by rw [List.length_take]; omega), List.length_take, hl, Nat.min_eq_left (by omega), Nat.sub_self]
        rw [List.head?_eq_getElem?] at hcc
        rw [hcc]; rfl
      rw [← this]; exact h4
    · rw [List.length_append, dig_one (by omega) (by omega)]
      have := h.len
      show acc.length + 1 ≤ m + i
      omega
theorem FInv.zero {b : List Int} (hb : b.length = 90) (hby : ∀ x ∈ b, 0 ≤ x ∧ x < 256) {j m : Nat} {acc : List Int} (hj : j < 10) (hm : m < 9) (h : FInv b j m acc) (hv : spIdx nd (rest b j m) = 0) : FInv b j (m + 1) (acc ++ [b.getD (9 * j + m) 0]) := by
  have hl := rest_len hb hj h.hi
  have hcut : rest b j m = b.getD (9 * j + m) 0 :: rest b j (m + 1) := by
    unfold rest part
    rw [drop_cons (by omega), show 9 * j + 9 - (9 * j + m) = (9 * j + 9 - (9 * j + (m + 1))) + 1 by omega, List.take_succ_cons]; rfl
  have hne : b.getD (9 * j + m) 0 ≠ 46 := by
    rcases idx_spec nd (rest b j m) with ⟨h2, _⟩ | ⟨i, hi, h2, h3, h4⟩
    · rw [h2] at hv; cases hv
    · rw [h2] at hv
      have : i = 0 := Int.ofNat.inj hv
      subst this
      rw [hcut] at h4
      exact nd_t h4
  have hin : b.getD (9 * j + m) 0 ∈ b := by
    rw [List.getD_eq_getElem?_getD, List.getElem?_eq_getElem (by omega)]; exact List.getElem_mem _
  refine ⟨hm, ?_, ?_, h.by_.app (.one (hby _ hin))⟩
  · rw [← h.eq]
    show _ = acc ++ rowT (rest b j m)
    rw [hcut, rowT_piece hne, List.append_assoc]; rfl
  · rw [List.length_append]; have := h.len; show acc.length + 1 ≤ m + 1; omega
theorem idx_nat {f : Int → Bool} {l : List Int} (h : ¬ spIdx f l < 0) : ∃ k : Nat, spIdx f l = Int.ofNat k ∧ k < l.length := by
  rcases idx_spec f l with ⟨h2, _⟩ | ⟨i, hi, h2, _⟩
  · rw [h2] at h; exact absurd (by decide) h
  · exact ⟨i, h2, hi⟩

theorem itoa_list {n : Int} (h : 0 ≤ n) : bytesL (itoaB n) = digL n := by rw [itoa_dig h]; exact bytesL_of (dig_all n)
theorem itoa_one {n : Int} (h : 0 ≤ n) (h9 : n ≤ 9) : (itoaB n).size = 1 := by rw [itoa_dig h, size_bytesOf, dig_one h (by omega)]; rfl

theorem join_I (c : UInt8) : ∀ (L : List (List Int)), (Lib.join ((L.map bytesOf).map (·.data.toList)) [c]).map (fun b => ((b.toNat : Nat) : Int)) = joinI (c.toNat : Int) ((L.map bytesOf).map bytesL) := by
  intro L
  induction L with
  | nil => rfl
  | cons x L ih =>
    by_cases hL : L = []
    · subst hL
      show (Lib.join [_] _).map _ = _
      rw [Lib.join_one]; rfl
    · obtain ⟨y, r, rfl⟩ : ∃ y r, L = y :: r := by cases L with | nil => exact absurd rfl hL | cons y r => exact ⟨y, r, rfl⟩
      have e : Lib.join (((x :: y :: r).map bytesOf).map (·.data.toList)) [c] = (bytesOf x).data.toList ++ [c] ++ Lib.join (((y :: r).map bytesOf).map (·.data.toList)) [c] := by
        simp only [List.map_cons]
        rw [Lib.join_cons, Lib.join_cons]
        simp [Lib.joinTail]
      rw [e, List.map_append, List.map_append, ih]
      show _ = bytesL (bytesOf x) ++ (c.toNat : Int) :: joinI (c.toNat : Int) (((y :: r).map bytesOf).map bytesL)
      simp [bytesL]
theorem joinS_I (c : UInt8) {L : List (List Int)} (h : ∀ x ∈ L, ∀ y ∈ x, 0 ≤ y ∧ y < 256) : joinS (L.map bytesOf) ⟨#[c]⟩ = bytesOf (joinI (c.toNat : Int) L) := by
  have e : (L.map bytesOf).map bytesL = L := by
    rw [List.map_map]
    conv => rhs; rw [← List.map_id L]
    exact List.map_congr_left fun x hx => bytesL_of (h x hx)
  have := join_I c L
  rw [e] at this
  rw [← this, iL_bytes]; rfl
theorem joinS_len (c : UInt8) {L : List (List Int)} (h : ∀ x ∈ L, ∀ y ∈ x, 0 ≤ y ∧ y < 256) : (Lib.join ((L.map bytesOf).map (·.data.toList)) [c]).length = (joinI (c.toNat : Int) L).length := by
  have e : (L.map bytesOf).map bytesL = L := by
    rw [List.map_map]
    conv => rhs; rw [← List.map_id L]
    exact List.map_congr_left fun x hx => bytesL_of (h x hx)
  have := join_I c L
  rw [e] at this
  rw [← this, List.length_map]
def upL (b : List Int) (n : Nat) : List ByteArray := (List.range n).map fun r => bytesOf (rk b r)
theorem up_next (b : List Int) (n : Nat) : upL b n ++ [bytesOf (rk b n)] = upL b (n + 1) := by unfold upL; rw [List.range_succ, List.map_append]; rfl
theorem up_rev (b : List Int) : (upL b 10).reverse = (rksL b).map bytesOf := by
  unfold upL rksL
  rw [List.map_reverse, List.map_map]; rfl
theorem up_len (b : List Int) (n : Nat) : (upL b n).length = n := by simp [upL]
theorem rks_bd {b : List Int} (h : cellsB b) : ∀ x ∈ rksL b, ∀ y ∈ x, 0 ≤ y ∧ y < 256 := fun x hx => by
  obtain ⟨r, _, rfl⟩ := rks_mem hx
  exact rk_bd h r
theorem board_join {b : List Int} (h : cellsB b) : joinS ((rksL b).map bytesOf) ⟨#[47]⟩ = bytesOf (boardT b) := joinS_I 47 (rks_bd h)
theorem board_lj {b : List Int} (h : cellsB b) (hb : b.length = 90) : LJ ((rksL b).map bytesOf) ⟨#[47]⟩ := by
  refine ⟨by simp [rksL], ?_, trivial⟩
  have := joinS_len 47 (rks_bd h)
  have h2 := board_len h hb
  unfold boardT at h2
  show (Lib.join _ [47]).length ≤ _
  rw [this]
  exact Nat.le_trans h2 (by decide)
theorem print_join {b : List Int} {sd k f : Int} (h : PrOk b sd k f) : joinS [bytesOf (boardT b), bytesOf (sdL sd), ⟨#[45]⟩, ⟨#[45]⟩, itoaB k, itoaB f] ⟨#[32]⟩ = bytesOf (printT b sd k f) ∧ LJ [bytesOf (boardT b), bytesOf (sdL sd), ⟨#[45]⟩, ⟨#[45]⟩, itoaB k, itoaB f] ⟨#[32]⟩ := by
  have e : [bytesOf (boardT b), bytesOf (sdL sd), ⟨#[45]⟩, ⟨#[45]⟩, itoaB k, itoaB f] = (fldsL b sd k f).map bytesOf := by
    rw [itoa_dig h.k.1, itoa_dig (n := f) (by have := h.f.1; omega)]; rfl
  have hb : ∀ x ∈ fldsL b sd k f, ∀ y ∈ x, 0 ≤ y ∧ y < 256 := fun x hx y hy => (flds_32 h x hx y hy).2
  rw [e]
  refine ⟨joinS_I 32 hb, by simp [fldsL], ?_, trivial⟩
  have := joinS_len 32 hb
  have h2 := printT_len h
  unfold printT at h2
  show (Lib.join _ [32]).length ≤ _
  rw [this]
  exact Nat.le_trans h2 (by decide)
end Go.X

namespace Go.X
open Go
def startP : ByteArray := ⟨#[82, 78, 66, 65, 75, 65, 66, 78, 82, 46, 46, 46, 46, 46, 46, 46, 46, 46, 46, 67, 46, 46, 46, 46, 46, 67, 46, 80, 46, 80, 46, 80, 46, 80, 46, 80, 46, 46, 46, 46, 46, 46, 46, 46, 46,
  46, 46, 46, 46, 46, 46, 46, 46, 46, 112, 46, 112, 46, 112, 46, 112, 46, 112, 46, 99, 46, 46, 46, 46, 46, 99, 46, 46, 46, 46, 46, 46, 46, 46, 46, 46, 114, 110, 98, 97, 107, 97, 98, 110, 114]⟩
def startL : List Int := [82, 78, 66, 65, 75, 65, 66, 78, 82, 46, 46, 46, 46, 46, 46, 46, 46, 46, 46, 67, 46, 46, 46, 46, 46, 67, 46, 80, 46, 80, 46, 80, 46, 80, 46, 80, 46, 46, 46, 46, 46, 46, 46, 46, 46,
  46, 46, 46, 46, 46, 46, 46, 46, 46, 112, 46, 112, 46, 112, 46, 112, 46, 112, 46, 99, 46, 46, 46, 46, 46, 99, 46, 46, 46, 46, 46, 46, 46, 46, 46, 46, 114, 110, 98, 97, 107, 97, 98, 110, 114]
theorem start_list : bytesL startP = startL := by decide +kernel
theorem start_is : spIs startP = true := by
  refine is_iff.2 ⟨rfl, ?_⟩
  have h : ∀ n, n < 90 → spIsCell (startL.getD n 0) = true := by decide +kernel
  intro n hn
  rw [← bytesL_getD, start_list]
  exact h n hn
theorem start_takes : dTakesL startL 0 = [(19, 82), (25, 88)] := by decide +kernel
theorem start_guarded : dGuarded startL 19 82 = true := by decide +kernel
theorem start_guarded' : dGuarded startL 19 20 = false := by decide +kernel
theorem start_can : dCan startL 1 64 1 = true := by decide +kernel
theorem start_can' : dCan startL 0 64 1 = false := by decide +kernel
theorem live_takes : spTakes startP 0 = [(19, 82), (25, 88)] := by rw [takes_canon start_is, start_list, start_takes]
theorem live_guarded : spGuarded startP 19 82 = true := by rw [guarded_canon start_is ⟨by decide, by decide⟩ ⟨by decide, by decide⟩, start_list, start_guarded]
theorem live_guarded' : spGuarded startP 19 20 = false := by rw [guarded_canon start_is ⟨by decide, by decide⟩ ⟨by decide, by decide⟩, start_list, start_guarded']
theorem live_can : spGCan startP 1 64 1 = true := by rw [gcan_canon start_is ⟨by decide, by decide⟩ ⟨by decide, by decide⟩, start_list, start_can]
theorem live_can' : spGCan startP 0 64 1 = false := by rw [gcan_canon start_is ⟨by decide, by decide⟩ ⟨by decide, by decide⟩, start_list, start_can']
theorem empty_takes : spTakes ByteArray.empty 0 = [] := by
  refine takes_bad ?_ 0
  cases h : spIs ByteArray.empty with
  | false => rfl
  | true => have := spIs_size h; cases this
end Go.X

namespace Go.X
open Go

def gapS (k : Int) : List Int := if 0 < k then [48 + k] else []
def stepS (st : List Int × Int) (c : Int) : List Int × Int := if c = 46 then (st.1, st.2 + 1) else (st.1 ++ gapS st.2 ++ [c], 0)
def rowS (l : List Int) : List Int := (l.foldl stepS ([], 0)).1 ++ gapS (l.foldl stepS ([], 0)).2
theorem gapS_eq {k : Int} (h0 : 0 ≤ k) (h : k ≤ 9) : gapL k = gapS k := by
  unfold gapL gapS
  split
  · exact dig_one h0 (by omega)
  · rfl
theorem stepS_eq : ∀ (l : List Int) (st : List Int × Int), 0 ≤ st.2 → st.2 + l.length ≤ 9 → l.foldl rowStep st = l.foldl stepS st ∧ 0 ≤ (l.foldl stepS st).2 ∧ (l.foldl stepS st).2 ≤ 9 := by
  intro l
  induction l with
  | nil => intro st h0 h; exact ⟨rfl, h0, by simp only [List.length_nil] at h; show st.2 ≤ 9; omega⟩
  | cons c l ih =>
    intro st h0 h
    simp only [List.length_cons] at h
    rw [List.foldl_cons, List.foldl_cons]
    have e : rowStep st c = stepS st c := by unfold rowStep stepS; rw [gapS_eq h0 (by omega)]
    rw [e]
    refine ih _ ?_ ?_
    · unfold stepS; split
      · show 0 ≤ st.2 + 1; omega
      · exact Int.le_refl _
    · unfold stepS; split
      · show st.2 + 1 + _ ≤ _; omega
      · show (0 : Int) + _ ≤ _; omega
theorem rowS_eq {l : List Int} (h : l.length ≤ 9) : rowT l = rowS l := by
  obtain ⟨h1, h2, h3⟩ := stepS_eq l ([], 0) (Int.le_refl _) (by show (0 : Int) + _ ≤ _; omega)
  unfold rowT rowEnd rowS
  rw [h1, gapS_eq h2 h3]
def boardS (b : List Int) : List Int := joinI 47 (((List.range 10).map fun r => rowS (part b (9 * r) (9 * r + 9))).reverse)
theorem boardS_eq (b : List Int) : boardT b = boardS b := by
  unfold boardT boardS rksL
  congr 2
  refine List.map_congr_left fun r _ => rowS_eq ?_
  unfold part; rw [List.length_take]; omega

def tA : ByteArray := ⟨#[114, 104, 101, 97, 107, 97, 101, 104, 114, 47, 57, 47, 49, 99, 53, 99, 49, 47, 112, 49, 112, 49, 112, 49, 112, 49, 112, 47, 52, 53, 47, 57, 47, 80, 49, 80, 49, 80, 49, 80, 49, 80, 47, 49, 67, 53, 67, 49, 47, 57, 47, 82, 78, 66, 65, 75, 65, 66, 78, 82, 32, 114]⟩
def tB4 : ByteArray := ⟨#[57, 47, 57, 32, 119]⟩
def tC4 : ByteArray := ⟨#[57, 47, 57, 47, 57, 47, 57, 47, 57, 47, 57, 47, 57, 47, 57, 47, 57, 47, 57, 32, 119]⟩
def outL : List Int := [114, 110, 98, 97, 107, 97, 98, 110, 114, 47, 57, 47, 49, 99, 53, 99, 49, 47, 112, 49, 112, 49, 112, 49, 112, 49, 112, 47, 57, 47, 57, 47, 80, 49, 80, 49, 80, 49, 80, 49, 80, 47, 49, 67, 53, 67, 49, 47, 57, 47, 82, 78, 66, 65, 75, 65, 66, 78, 82, 32, 119, 32, 45, 32, 45, 32, 48, 32, 49]
abbrev posK : EK := .pair .str (.pair (.int .i64) (.pair (.int .i64) (.int .i64)))
theorem pos_eqb (p q : Pos4) : EK.eqb posK p q = true ↔ p = q := by
  obtain ⟨a, b, c, d⟩ := p
  obtain ⟨a', b', c', d'⟩ := q
  show (strEq a a' && ((b == b') && ((c == c') && (d == d')))) = true ↔ _
  simp only [Bool.and_eq_true, beq_iff_eq, strEq_iff, Prod.mk.injEq]
theorem print_snd (p : Pos4) : (printP p).2 = ck p := by
  unfold printP
  split
  · rename_i h; exact h.symm
  · rfl
theorem print_fst_ok {p : Pos4} (h : ck p = 0) : printP p = (prB p, 0) := if_pos h
theorem print_fst_bad {p : Pos4} (h : ck p ≠ 0) : printP p = (ByteArray.empty, ck p) := if_neg h
theorem print_tz (p : Pos4) : (printP p).1.size ≤ 606 := by
  by_cases h : ck p = 0
  · rw [print_fst_ok h]; exact prB_size h
  · rw [print_fst_bad h]; exact Nat.zero_le _
theorem parse_two {s : ByteArray} (hs : s.size ≤ 1000) : ((parseP s).2 = 0 ∧ ck (parseP s).1 = 0) ∨ ((parseP s).2 ≠ 0 ∧ (parseP s).1 = (ByteArray.empty, 0, 0, 0)) := by
  rw [parse_same hs]; exact read_two s
theorem startP_of : bytesOf startL = startP := by rw [← start_list]; exact bytesOf_bytesL _
theorem start_ck : rCheck startP 0 0 1 = 0 := by
  have ha : rArg startP 0 0 1 = false := by unfold rArg; rw [start_is]; rfl
  unfold rCheck
  rw [ha, start_list]
  decide +kernel
theorem form_A : form4 tA = some (startL, 0, 0, 1) := by
  unfold form4
  rw [if_neg (by decide)]
  decide +kernel
theorem form_B : form4 tB4 = none := by
  unfold form4
  rw [if_neg (by decide)]
  decide +kernel
theorem form_C : form4 tC4 = some (List.replicate 90 46, 0, 0, 1) := by
  unfold form4
  rw [if_neg (by decide)]
  decide +kernel
theorem parse_A : parseP tA = ((startP, 0, 0, 1), 0) := by
  rw [parse_same (by decide)]
  have hc : rCheck (bytesOf startL) 0 0 1 = 0 := by rw [startP_of]; exact start_ck
  unfold pos4 err4
  rw [form_A]
  simp only
  rw [if_pos hc, hc, startP_of]
theorem parse_B : (parseP tB4).2 = 6 := by
  rw [parse_same (by decide)]
  exact (p4_bad form_B).2
theorem parse_C : (parseP tC4).2 = 3 := by
  rw [parse_same (by decide)]
  show err4 tC4 = 3
  unfold err4
  rw [form_C]
  simp only
  have hl : bytesL (bytesOf (List.replicate 90 46)) = List.replicate 90 46 := bytesL_of dots_by.b
  have hi : spIs (bytesOf (List.replicate 90 46)) = true := by
    refine is_iff.2 ⟨by rw [size_bytesOf]; rfl, fun n hn => ?_⟩
    rw [← bL_at, hl, List.getD_eq_getElem?_getD, List.getElem?_replicate, if_pos hn]; rfl
  unfold rCheck
  have ha : rArg (bytesOf (List.replicate 90 46)) 0 0 1 = false := by unfold rArg; rw [hi]; rfl
  rw [ha, hl]
  decide +kernel
theorem print_A : printP (startP, 0, 0, 1) = (bytesOf outL, 0) := by
  have hc : ck (startP, 0, 0, 1) = 0 := start_ck
  unfold printP
  rw [if_pos hc]
  unfold prB
  dsimp only
  rw [printT_eq, start_list, boardS_eq, dig_one (n := 0) (by decide) (by decide), dig_one (n := 1) (by decide) (by decide)]
  have : boardS startL ++ ([32] ++ sdL 0 ++ [32, 45, 32, 45, 32]) ++ [48 + 0] ++ [32] ++ [48 + 1] = outL := by decide +kernel
  rw [this]
theorem print_E : (printP (ByteArray.empty, 0, 0, 0)).2 = 1 := by
  have hi : spIs ByteArray.empty = false := by
    cases h : spIs ByteArray.empty with
    | false => rfl
    | true => have := spIs_size h; cases this
  have hc : ck (ByteArray.empty, 0, 0, 0) = 1 := by
    show rCheck ByteArray.empty 0 0 0 = 1
    unfold rCheck rArg
    rw [hi]; rfl
  unfold printP
  rw [if_neg (by rw [hc]; decide), hc]
end Go.X

namespace Go.X
open Go
structure Parts where
  pc : Int → ByteArray → List ByteArray
  T : ByteArray → ByteArray
  O : ByteArray → Bool
  V : ByteArray → Int
  N : ByteArray → Bool
  C : ByteArray → Int → Int → Int → Int
def bad6 : Pos4 × Int := ((ByteArray.empty, 0, 0, 0), 6)
def sd4 (t : ByteArray) : Option Int := if strEq t ⟨#[119]⟩ = true then some 0 else if strEq t ⟨#[114]⟩ = true then some 0 else if strEq t ⟨#[98]⟩ = true then some 1 else none
def ckQ (C : ByteArray → Int → Int → Int → Int) (b : ByteArray) (sd k f : Int) : Pos4 × Int := if (C b sd k f != 0) = true then ((ByteArray.empty, 0, 0, 0), C b sd k f) else ((b, sd, k, f), 0)
def tail4 (Q : Parts) (s : ByteArray) (sd : Int) : Pos4 × Int :=
  if (Int.ofNat (Q.pc 32 s).length == 6) = true then
    (if (!(Q.O ((Q.pc 32 s).getD 0 ByteArray.empty) && Q.N ((Q.pc 32 s).getD 4 ByteArray.empty) && Q.N ((Q.pc 32 s).getD 5 ByteArray.empty) && strEq ((Q.pc 32 s).getD 2 ByteArray.empty) ⟨#[45]⟩ && strEq ((Q.pc 32 s).getD 3 ByteArray.empty) ⟨#[45]⟩)) = true then bad6
     else ckQ Q.C (Q.T ((Q.pc 32 s).getD 0 ByteArray.empty)) sd (Q.V ((Q.pc 32 s).getD 4 ByteArray.empty)) (Q.V ((Q.pc 32 s).getD 5 ByteArray.empty)))
  else (if (!(Q.O ((Q.pc 32 s).getD 0 ByteArray.empty))) = true then bad6 else ckQ Q.C (Q.T ((Q.pc 32 s).getD 0 ByteArray.empty)) sd 0 1)
def mir4 (Q : Parts) (s : ByteArray) : Pos4 × Int :=
  if decide ((s.size : Int) > 1000) = true then bad6
  else if (Int.ofNat (Q.pc 32 s).length != 2 && Int.ofNat (Q.pc 32 s).length != 6) = true then bad6
  else match sd4 ((Q.pc 32 s).getD 1 ByteArray.empty) with
    | none => bad6
    | some sd => tail4 Q s sd
section
variable {Q : Parts} {s : ByteArray}
theorem mir_long (h : decide ((s.size : Int) > 1000) = true) : mir4 Q s = bad6 := if_pos h
theorem mir_len (h1 : decide ((s.size : Int) > 1000) = false) (h : (Int.ofNat (Q.pc 32 s).length != 2 && Int.ofNat (Q.pc 32 s).length != 6) = true) : mir4 Q s = bad6 := by unfold mir4; rw [if_neg (by rw [h1]; decide), if_pos h]
theorem mir_go (h1 : decide ((s.size : Int) > 1000) = false) (h : (Int.ofNat (Q.pc 32 s).length != 2 && Int.ofNat (Q.pc 32 s).length != 6) = false) {sd : Int} (h2 : sd4 ((Q.pc 32 s).getD 1 ByteArray.empty) = some sd) : mir4 Q s = tail4 Q s sd := by
  unfold mir4; rw [if_neg (by rw [h1]; decide), if_neg (by rw [h]; decide), h2]
theorem mir_side (h1 : decide ((s.size : Int) > 1000) = false) (h : (Int.ofNat (Q.pc 32 s).length != 2 && Int.ofNat (Q.pc 32 s).length != 6) = false) (h2 : sd4 ((Q.pc 32 s).getD 1 ByteArray.empty) = none) : mir4 Q s = bad6 := by
  unfold mir4; rw [if_neg (by rw [h1]; decide), if_neg (by rw [h]; decide), h2]
theorem sd_w {t : ByteArray} (h : strEq t ⟨#[119]⟩ = true) : sd4 t = some 0 := if_pos h
theorem sd_r {t : ByteArray} (h1 : strEq t ⟨#[119]⟩ = false) (h : strEq t ⟨#[114]⟩ = true) : sd4 t = some 0 := by unfold sd4; rw [if_neg (by rw [h1]; decide), if_pos h]
theorem sd_b {t : ByteArray} (h1 : strEq t ⟨#[119]⟩ = false) (h2 : strEq t ⟨#[114]⟩ = false) (h : strEq t ⟨#[98]⟩ = true) : sd4 t = some 1 := by unfold sd4; rw [if_neg (by rw [h1]; decide), if_neg (by rw [h2]; decide), if_pos h]
theorem sd_n {t : ByteArray} (h1 : strEq t ⟨#[119]⟩ = false) (h2 : strEq t ⟨#[114]⟩ = false) (h : strEq t ⟨#[98]⟩ = false) : sd4 t = none := by unfold sd4; rw [if_neg (by rw [h1]; decide), if_neg (by rw [h2]; decide), if_neg (by rw [h]; decide)]
theorem tail_6 {sd : Int} (h6 : (Int.ofNat (Q.pc 32 s).length == 6) = true) (h : (!(Q.O ((Q.pc 32 s).getD 0 ByteArray.empty) && Q.N ((Q.pc 32 s).getD 4 ByteArray.empty) && Q.N ((Q.pc 32 s).getD 5 ByteArray.empty) && strEq ((Q.pc 32 s).getD 2 ByteArray.empty) ⟨#[45]⟩ && strEq ((Q.pc 32 s).getD 3 ByteArray.empty) ⟨#[45]⟩)) = true) : tail4 Q s sd = bad6 := by unfold tail4; rw [if_pos h6, if_pos h]
theorem tail_6k {sd : Int} (h6 : (Int.ofNat (Q.pc 32 s).length == 6) = true) (h : (!(Q.O ((Q.pc 32 s).getD 0 ByteArray.empty) && Q.N ((Q.pc 32 s).getD 4 ByteArray.empty) && Q.N ((Q.pc 32 s).getD 5 ByteArray.empty) && strEq ((Q.pc 32 s).getD 2 ByteArray.empty) ⟨#[45]⟩ && strEq ((Q.pc 32 s).getD 3 ByteArray.empty) ⟨#[45]⟩)) = false) : tail4 Q s sd = ckQ Q.C (Q.T ((Q.pc 32 s).getD 0 ByteArray.empty)) sd (Q.V ((Q.pc 32 s).getD 4 ByteArray.empty)) (Q.V ((Q.pc 32 s).getD 5 ByteArray.empty)) := by unfold tail4; rw [if_pos h6, if_neg (by rw [h]; decide)]
theorem tail_2 {sd : Int} (h6 : (Int.ofNat (Q.pc 32 s).length == 6) = false) (h : (!(Q.O ((Q.pc 32 s).getD 0 ByteArray.empty))) = true) : tail4 Q s sd = bad6 := by unfold tail4; rw [if_neg (by rw [h6]; decide), if_pos h]
theorem tail_2k {sd : Int} (h6 : (Int.ofNat (Q.pc 32 s).length == 6) = false) (h : (!(Q.O ((Q.pc 32 s).getD 0 ByteArray.empty))) = false) : tail4 Q s sd = ckQ Q.C (Q.T ((Q.pc 32 s).getD 0 ByteArray.empty)) sd 0 1 := by unfold tail4; rw [if_neg (by rw [h6]; decide), if_neg (by rw [h]; decide)]
theorem ck_t {C : ByteArray → Int → Int → Int → Int} {b : ByteArray} {sd k f : Int} (h : (C b sd k f != 0) = true) : ckQ C b sd k f = ((ByteArray.empty, 0, 0, 0), C b sd k f) := if_pos h
theorem ck_f {C : ByteArray → Int → Int → Int → Int} {b : ByteArray} {sd k f : Int} (h : (C b sd k f != 0) = false) : ckQ C b sd k f = ((b, sd, k, f), 0) := by unfold ckQ; rw [if_neg (by rw [h]; decide)]
theorem len_lt {n : Nat} {l : List ByteArray} (hn : n < 2) (h : (Int.ofNat l.length != 2 && Int.ofNat l.length != 6) = false) : (n : Int) < Int.ofNat l.length := by
  simp only [Bool.and_eq_false_iff, bne_eq_false_iff_eq] at h
  omega
theorem len_lt6 {n : Nat} {l : List ByteArray} (hn : n < 6) (h : (Int.ofNat l.length == 6) = true) : (n : Int) < Int.ofNat l.length := by
  simp only [beq_iff_eq] at h
  omega
end
def dP : Parts := ⟨pieces, fun s => bytesOf (cells4T (bytesL s)), fun s => cells4Ok (bytesL s), fun s => num4V (bytesL s), fun s => num4Ok (bytesL s), rCheck⟩
theorem tail_eq {s : ByteArray} {sd : Int} (hz : decide ((s.size : Int) > 1000) = false) (h26 : (Int.ofNat (pieces 32 s).length != 2 && Int.ofNat (pieces 32 s).length != 6) = false) (hs : sideGo (bytesL (fld s 1)) = some sd) : tail4 dP s sd = (pos4 s, err4 s) := by
  have fin : ∀ b k f, form4 s = some (b, sd, k, f) → ckQ rCheck (bytesOf b) sd k f = (pos4 s, err4 s) := by
    intro b k f hf
    cases hc : (rCheck (bytesOf b) sd k f != 0) with
    | true => rw [ck_t hc, (p4_chk hf hc).1, (p4_chk hf hc).2]
    | false => rw [ck_f hc, (p4_ok hf hc).1, (p4_ok hf hc).2]
  have bad : form4 s = none → bad6 = (pos4 s, err4 s) := by
    intro hf
    rw [(p4_bad hf).1, (p4_bad hf).2]; rfl
  cases h6 : (Int.ofNat (pieces 32 s).length == 6) with
  | true =>
    have hl : (pieces 32 s).length = 6 := len_is6 h6
    cases hc : (!(cells4Ok (bytesL (fld s 0)) && num4Ok (bytesL (fld s 4)) && num4Ok (bytesL (fld s 5)) && strEq (fld s 2) ⟨#[45]⟩ && strEq (fld s 3) ⟨#[45]⟩)) with
    | true => exact (tail_6 (Q := dP) h6 hc).trans (bad (six_none hz hl (.inr hc)))
    | false => exact (tail_6k (Q := dP) h6 hc).trans (fin _ _ _ (six_some hz hl hs hc))
  | false =>
    have hl : (pieces 32 s).length = 2 := (len26 h26).resolve_right (len_not6 h6)
    cases hc : (!cells4Ok (bytesL (fld s 0))) with
    | true => exact (tail_2 (Q := dP) h6 hc).trans (bad (two_none hz hl (.inr hc)))
    | false => exact (tail_2k (Q := dP) h6 hc).trans (fin _ _ _ (two_some hz hl hs hc))
theorem sd4_go (t : ByteArray) : sd4 t = sideGo (bytesL t) := by
  unfold sd4
  cases h1 : strEq t ⟨#[119]⟩ with
  | true => rw [if_pos rfl, side_w h1]
  | false =>
    rw [if_neg (by decide)]
    cases h2 : strEq t ⟨#[114]⟩ with
    | true => rw [if_pos rfl, side_r h2]
    | false =>
      rw [if_neg (by decide)]
      cases h3 : strEq t ⟨#[98]⟩ with
      | true => rw [if_pos rfl, side_b h1 h2 h3]
      | false => rw [if_neg (by decide), side_n h1 h2 h3]
theorem mir_eq (s : ByteArray) : mir4 dP s = (pos4 s, err4 s) := by
  have bad : form4 s = none → bad6 = (pos4 s, err4 s) := by
    intro hf
    rw [(p4_bad hf).1, (p4_bad hf).2]; rfl
  cases hz : decide ((s.size : Int) > 1000) with
  | true => rw [mir_long hz]; exact bad (form_long hz)
  | false =>
    cases h26 : (Int.ofNat (pieces 32 s).length != 2 && Int.ofNat (pieces 32 s).length != 6) with
    | true => rw [mir_len (Q := dP) hz h26]; exact bad (form_other h26)
    | false =>
      have hs := sd4_go (fld s 1)
      cases hd : sideGo (bytesL (fld s 1)) with
      | none =>
        rw [hd] at hs
        rw [mir_side (Q := dP) hz h26 hs]
        rcases len26 h26 with hl | hl
        · exact bad (two_none hz hl (.inl hd))
        · exact bad (six_none hz hl (.inl hd))
      | some sd =>
        rw [hd] at hs
        rw [mir_go (Q := dP) hz h26 hs]
        exact tail_eq hz h26 hd
end Go.X
