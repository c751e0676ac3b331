/-
  Parts of the proof.
-/
import Derived.Test.YtboohbgmhmpnmaaGreatDoorA2
import Derived.Lib.Join

set_option linter.unusedSimpArgs false
set_option linter.unusedVariables false

namespace Go.X
open Go

def rfOwn (n side : Int) : Int := if side = 1 then 9 - spRank n else spRank n
def rfPalace (n side : Int) : Bool := spOk n side && decide (3 ≤ spFile n) && decide (spFile n ≤ 5) && decide (rfOwn n side ≤ 2)
def rfAdv (f r : Int) : Bool := ((f == 4) && (r == 1)) || (((f == 3) || (f == 5)) && ((r == 0) || (r == 2)))
def rfEle (f r : Int) : Bool := if r = 0 ∨ r = 4 then (f == 2) || (f == 6) else if r = 2 then (f == 0) || (f == 4) || (f == 8) else false
theorem stand_tab : ∀ n : Nat, n < 90 → ∀ s : Nat, s < 2 → spPal (spSF n s) (spSR n s) = rfPalace n s ∧ spAdv (spSF n s) (spSR n s) = rfAdv (spFile n) (rfOwn n s) ∧ spEle (spSF n s) (spSR n s) = rfEle (spFile n) (rfOwn n s) ∧
    spPwn (spSF n s) (spSR n s) = (decide (5 ≤ rfOwn n s) || (decide (3 ≤ rfOwn n s) && ((spFile n).tmod 2 == 0))) ∧ spOvr (spSR n s) = decide (5 ≤ rfOwn n s) := by decide +kernel
theorem stand_eq {n side : Int} (h : spOk n side = true) : spPal (spSF n side) (spSR n side) = rfPalace n side ∧ spAdv (spSF n side) (spSR n side) = rfAdv (spFile n) (rfOwn n side) ∧ spEle (spSF n side) (spSR n side) = rfEle (spFile n) (rfOwn n side) ∧
    spPwn (spSF n side) (spSR n side) = (decide (5 ≤ rfOwn n side) || (decide (3 ≤ rfOwn n side) && ((spFile n).tmod 2 == 0))) ∧ spOvr (spSR n side) = decide (5 ≤ rfOwn n side) := by
  simp only [spOk, Bool.and_eq_true, Bool.or_eq_true, decide_eq_true_eq, beq_iff_eq] at h
  have := stand_tab n.toNat (by omega) side.toNat (by omega)
  rwa [show ((n.toNat : Nat) : Int) = n by omega, show ((side.toNat : Nat) : Int) = side by omega] at this
end Go.X

namespace Go.X
open Go
structure HalfOk (a b fr st : Int) : Prop where
  lo : 0 ≤ if b > a then fr + st else fr - st
  hi : (if b > a then fr + st else fr - st) < 90
  sm : SM fr ∧ SM st
theorem Sq.sqr {n : Int} (h : Sq n) : Sqr n := ⟨h.lo, h.hi⟩
theorem mod9W {n : Int} (h : Sq n) : n.tmod 9 = n % 9 := tmod9 h.lo
theorem div9W {n : Int} (h : Sq n) : IntKind.i64.wrap (n.tdiv 9) = n / 9 := by
  have h1 := h.lo; have h2 := h.hi
  rw [tdiv9 h1, wrap64 (by omega) (by omega)]
theorem away_bd {a b : Int} (h : SM a) (h' : SM b) : 0 ≤ away a b ∧ away a b ≤ 2000 := by
  have h1 := h.lo; have h2 := h.hi; have h3 := h'.lo; have h4 := h'.hi
  unfold away; split <;> omega
theorem SM.mod9 {n : Int} (h : Sq n) : SM (n % 9) := by
  have h1 := h.lo; have h2 := h.hi
  exact SM.of (by omega) (by omega)
theorem SM.div9 {n : Int} (h : Sq n) : SM (n / 9) := by
  have h1 := h.lo; have h2 := h.hi
  exact SM.of (by omega) (by omega)
theorem Sq.sm {n : Int} (h : Sq n) : SM n := by
  have h1 := h.lo; have h2 := h.hi
  exact SM.of (by omega) (by omega)
theorem half_rank {fr t : Int} (h : Sq fr) (h' : Sq t) (e : away (fr / 9) (t / 9) = 2) : HalfOk (fr / 9) (t / 9) fr 9 := by
  have h1 := h.lo; have h2 := h.hi; have h3 := h'.lo; have h4 := h'.hi
  rw [away2] at e
  refine ⟨?_, ?_, h.sm, SM.of (by omega) (by omega)⟩ <;> (split <;> omega)
theorem half_file {fr t : Int} (h : Sq fr) (h' : Sq t) (e : away (fr % 9) (t % 9) = 2) : HalfOk (fr % 9) (t % 9) fr 1 := by
  have h1 := h.lo; have h2 := h.hi; have h3 := h'.lo; have h4 := h'.hi
  rw [away2] at e
  refine ⟨?_, ?_, h.sm, SM.of (by omega) (by omega)⟩ <;> (split <;> omega)
theorem btw_1 {p : ByteArray} {a b : Int} (ha : Sq a) (hb : Sq b) (he : a ≠ b) (hr : a / 9 = b / 9) : spCnt p a b 1 = dBetween (bytesL p) a b := by
  have h1 := ha.lo; have h2 := ha.hi; have h3 := hb.lo; have h4 := hb.hi
  have hmm : imin a b ≤ imax a b ∧ 0 ≤ imin a b ∧ imax a b < 90 := by unfold imin imax; split <;> split <;> omega
  have hlt : imin a b < imax a b := by unfold imin imax; split <;> split <;> omega
  unfold spCnt dBetween
  rw [if_neg he, if_pos hr]
  exact cnt_count p 1 _ (by decide) 90 _ _ (by omega) (fun i hi => by omega) (by omega)
theorem btw_9 {p : ByteArray} {a b : Int} (ha : Sq a) (hb : Sq b) (he : a ≠ b) (hr : a / 9 ≠ b / 9) (hc : a % 9 = b % 9) : spCnt p a b 9 = dBetween (bytesL p) a b := by
  have h1 := ha.lo; have h2 := ha.hi; have h3 := hb.lo; have h4 := hb.hi
  have hmm : imin a b ≤ imax a b ∧ 0 ≤ imin a b ∧ imax a b < 90 := by unfold imin imax; split <;> split <;> omega
  have hlt : imin a b < imax a b := by unfold imin imax; split <;> split <;> omega
  have hmod : (imax a b - imin a b) % 9 = 0 := by unfold imin imax; split <;> split <;> omega
  have hge : 9 ≤ imax a b - imin a b := by omega
  unfold spCnt dBetween
  rw [if_neg he, if_neg hr, if_pos hc]
  exact cnt_count p 9 _ (by decide) 90 _ _ (by omega) (fun i hi => by omega) (by omega)
end Go.X

namespace Go.X
open Go
structure SD (s : Int) : Prop where
  is : s = 0 ∨ s = 1
  u : True
  v : True
theorem head_none {b : List Int} {K : Int} (hq : ∀ k : Nat, k < 90 → bAt b k ≠ K) : (sqs.filter fun n => bAt b n == K).headD (-1) = -1 := by
  have e : (sqs.filter fun n => bAt b n == K) = [] := by
    rw [List.filter_eq_nil_iff]
    intro x hx
    have := mem_sqs.1 hx
    have := hq x.toNat (by omega)
    rw [show ((x.toNat : Nat) : Int) = x by omega] at this
    simpa using this
  rw [e]; rfl
theorem head_at {b : List Int} {K : Int} {i : Nat} (hi : i < 90) (hq : ∀ k : Nat, k < i → bAt b k ≠ K) (h : bAt b i = K) : (sqs.filter fun n => bAt b n == K).headD (-1) = i := by
  have e : List.range 90 = List.range i ++ i :: (List.range (89 - i)).map ((i + 1) + ·) := by
    have h1 : List.range ((i + 1) + (89 - i)) = List.range (i + 1) ++ (List.range (89 - i)).map ((i + 1) + ·) := List.range_add
    rw [show (i + 1) + (89 - i) = 90 by omega, List.range_succ (n := i), List.append_assoc] at h1
    exact h1
  have e0 : ((List.range i).map Int.ofNat).filter (fun n => bAt b n == K) = [] := by
    rw [List.filter_eq_nil_iff]
    intro x hx
    obtain ⟨k, hk, rfl⟩ := List.mem_map.1 hx
    have := hq k (List.mem_range.1 hk)
    simpa using this
  unfold sqs
  rw [e, List.map_append, List.filter_append, e0, List.nil_append, List.map_cons, List.filter_cons_of_pos (by simpa using h)]
  rfl
theorem of_bytesL (p : ByteArray) : (bytesL p).map (fun n => UInt8.ofNat n.toNat) = p.data.toList := by
  unfold bytesL
  rw [List.map_map]
  conv => rhs; rw [← List.map_id p.data.toList]
  refine List.map_congr_left fun b _ => ?_
  simp
theorem cut_put (p : ByteArray) {n : Nat} (c : Int) (h : n < p.size) : p.extract 0 n ++ bytesOf [c] ++ p.extract (n + 1) p.size = bytesOf ((bytesL p).set n c) := by
  apply ByteArray.ext
  apply Array.toList_inj.1
  rw [bytesOf_list, List.map_set, of_bytesL, ByteArray.data_append, ByteArray.data_append, Array.toList_append, Array.toList_append, bytesOf_list, ByteArray.data_extract, ByteArray.data_extract, Array.toList_extract, Array.toList_extract]
  have hl : n < p.data.toList.length := h
  rw [List.set_eq_take_append_cons_drop, if_pos hl]
  have e : (p.data.toList.drop (n + 1)).take (p.size - (n + 1)) = p.data.toList.drop (n + 1) := List.take_of_length_le (by rw [List.length_drop]; exact Nat.le_refl _)
  simp only [List.extract_eq_take_drop, e, List.map_cons, List.map_nil, List.drop_zero, Nat.sub_zero, List.append_assoc, List.singleton_append]
theorem bytesL_len (p : ByteArray) : (bytesL p).length = p.size := by unfold bytesL; rw [List.length_map]; rfl
theorem set_bound {p : ByteArray} {n : Nat} {c : Int} (hc : 0 ≤ c ∧ c < 256) : ∀ x ∈ (bytesL p).set n c, 0 ≤ x ∧ x < 256 := by
  intro x hx
  rcases List.mem_or_eq_of_mem_set hx with h | rfl
  · exact bytesL_bound p x h
  · exact hc
end Go.X

namespace Go.X
open Go

def upTo {α : Type} (f : Nat → List α) (n : Nat) : List α := (List.range n).flatMap f
theorem upTo_next {α : Type} (f : Nat → List α) (n : Nat) : upTo f (n + 1) = upTo f n ++ f n := by
  unfold upTo; rw [List.range_succ, List.flatMap_append]; simp
theorem upTo_len {α : Type} {f : Nat → List α} {b : Nat} (h : ∀ i, (f i).length ≤ b) : ∀ n, (upTo f n).length ≤ b * n := by
  intro n
  induction n with
  | zero => simp [upTo]
  | succ n ih => rw [upTo_next, List.length_append, Nat.mul_succ]; have := h n; omega
theorem pickLen {α : Type} {c : Bool} {x : α} : (if c = true then [x] else []).length ≤ 1 := by split <;> simp
theorem upTo_len1 {α : Type} {c : Nat → Bool} {g : Nat → α} (n : Nat) : (upTo (fun i => if c i = true then [g i] else []) n).length ≤ n := by
  have := upTo_len (f := fun i => if c i = true then [g i] else []) (b := 1) (fun i => pickLen) n
  omega
theorem flatMap_filter {α : Type} (c : α → Bool) (l : List α) : l.flatMap (fun x => if c x = true then [x] else []) = l.filter c := by
  induction l with
  | nil => rfl
  | cons x l ih =>
    rw [List.flatMap_cons, ih]
    cases h : c x with
    | true => rw [List.filter_cons_of_pos h]; rfl
    | false => rw [List.filter_cons_of_neg (by simp [h])]; rfl
theorem flatMap_filterMap {α β : Type} (c : α → Bool) (g : α → β) (l : List α) : l.flatMap (fun x => if c x = true then [g x] else []) = (l.filter c).map g := by
  induction l with
  | nil => rfl
  | cons x l ih =>
    rw [List.flatMap_cons, ih]
    cases h : c x with
    | true => rw [List.filter_cons_of_pos h]; rfl
    | false => rw [List.filter_cons_of_neg (by simp [h])]; rfl
theorem upTo_sqs {β : Type} (f : Int → List β) : upTo (fun i => f (Int.ofNat i)) 90 = sqs.flatMap f := by
  unfold upTo sqs; rw [List.flatMap_map]
theorem upTo_getD {α β : Type} (g : α → List β) (d : α) (l : List α) : upTo (fun i => g (l.getD i d)) l.length = l.flatMap g := by
  have key : ∀ n, n ≤ l.length → upTo (fun i => g (l.getD i d)) n = (l.take n).flatMap g := by
    intro n
    induction n with
    | zero => intro _; simp [upTo]
    | succ n ih =>
      intro h
      rw [upTo_next, ih (by omega), List.take_succ_eq_append_getElem (by omega), List.flatMap_append, List.getD_eq_getElem?_getD, List.getElem?_eq_getElem (by omega)]
      simp
  rw [key _ (Nat.le_refl _), List.take_length]
theorem lt90 {i : Nat} (h : decide (Int.ofNat i < 90) = true) : i < 90 := by have := of_decide_eq_true h; simp at this; omega
theorem ge90 {i : Nat} (h : decide (Int.ofNat i < 90) = false) : 90 ≤ i := by have := of_decide_eq_false h; simp at this; omega
theorem ltN {i n : Nat} (h : decide (Int.ofNat i < (n : Int)) = true) : i < n := by have := of_decide_eq_true h; simp at this; omega
theorem geN {i n : Nat} (h : decide (Int.ofNat i < (n : Int)) = false) : n ≤ i := by have := of_decide_eq_false h; simp at this; omega
theorem next_t {α : Type} {c : Nat → Bool} {g : Nat → α} {n : Nat} (h : c n = true) : upTo (fun i => if c i = true then [g i] else []) (n + 1) = upTo (fun i => if c i = true then [g i] else []) n ++ [g n] := by rw [upTo_next, if_pos h]
theorem next_f {α : Type} {c : Nat → Bool} {g : Nat → α} {n : Nat} (h : c n = false) : upTo (fun i => if c i = true then [g i] else []) (n + 1) = upTo (fun i => if c i = true then [g i] else []) n := by rw [upTo_next, if_neg (by rw [h]; exact Bool.noConfusion), List.append_nil]
end Go.X

namespace Go.X
open Go
structure IB (p : ByteArray) : Prop where
  is : spIs p = true
  u : True
  v : True
theorem IB.s90 {p : ByteArray} (h : IB p) : S90 p := ⟨spIs_size h.is, trivial, trivial⟩
theorem general_eq (p : ByteArray) (side : Int) : (if spIs p && spIsSide side then dGeneral (bytesL p) side else -1) = spGeneral p side := by
  cases hp : spIs p with
  | true =>
    rw [general_canon hp, Bool.true_and]
    split
    · rfl
    · rename_i h; unfold dGeneral; rw [if_neg (fun e => h (isSide_iff.2 e))]
  | false =>
    rw [Bool.false_and, if_neg Bool.noConfusion]
    unfold spGeneral
    split
    · unfold spFind; rw [set_bad hp]; rfl
    · rfl
theorem pieces_bad {p : ByteArray} (hp : spIs p = false) (side : Int) : spPieces p side = [] := by unfold spPieces; exact set_bad hp _
theorem attackers_eq (p : ByteArray) (n side : Int) : (if spIs p && spIsSquare n && spIsSide side then dAttackers (bytesL p) n side else []) = spAttackers p n side := by
  by_cases hs : spIsSide side = true
  · by_cases hn : spIsSquare n = true
    · cases hp : spIs p with
      | true =>
        have := isSquare_iff.1 hn
        rw [attackers_canon hp ⟨this.1, this.2⟩, hs, hn]; rfl
      | false =>
        rw [Bool.false_and, Bool.false_and, if_neg Bool.noConfusion]
        unfold spAttackers
        have e : ∀ c, spPut p n c = p := fun c => by unfold spPut; rw [hp, Bool.and_false, if_neg Bool.noConfusion]
        rw [e, pieces_bad hp]
        split <;> rfl
    · rw [if_neg (by simp [hn])]
      unfold spAttackers
      rw [if_neg]
      simp only [Bool.and_eq_true, decide_eq_true_eq, not_and]
      intro _ h
      exact hn (file_pos.1 h).is
  · rw [if_neg (by simp [hs])]
    unfold spAttackers
    rw [if_neg (by simp [hs])]
theorem between_eq (p : ByteArray) (a b : Int) : (if spIs p && spIsSquare a && spIsSquare b then dBetween (bytesL p) a b else -1) = spBetween p a b := by
  split
  · rename_i h
    simp only [Bool.and_eq_true] at h
    have h1 := isSquare_iff.1 h.1.2
    have h2 := isSquare_iff.1 h.2
    rw [between_canon h.1.1 ⟨h1.1, h1.2⟩ ⟨h2.1, h2.2⟩]
  · rename_i h
    unfold spBetween
    rw [if_pos]
    cases h1 : spIs p <;> cases h2 : spIsSquare a <;> cases h3 : spIsSquare b <;> simp_all
theorem general_file {p : ByteArray} {side : Int} (h : 0 ≤ spGeneral p side) : spFile (spGeneral p side) = spGeneral p side % 9 ∧ Sqr (spGeneral p side) := by
  rw [← general_eq] at h ⊢
  split at h
  · rename_i e
    rw [if_pos e]
    have := (general_sq h).1
    exact ⟨by unfold spFile; rw [if_pos this.is], this⟩
  · omega
theorem general_bd (p : ByteArray) (side : Int) : -1 ≤ spGeneral p side ∧ spGeneral p side < 90 := by
  by_cases h : 0 ≤ spGeneral p side
  · have := (general_file h).2; have := this.hi; omega
  · rw [← general_eq] at h ⊢
    split at h
    · rename_i e
      rw [if_pos e]
      unfold dGeneral at h ⊢
      split at h
      · rename_i hs
        rw [if_pos hs]
        generalize hl : (sqs.filter fun n => bAt (bytesL p) n == if side = 0 then 75 else 107) = l at h
        cases l with
        | nil => simp
        | cons x l =>
          have hx : x ∈ sqs.filter fun n => bAt (bytesL p) n == if side = 0 then 75 else 107 := by rw [hl]; simp
          have := mem_sqs.1 (List.mem_filter.1 hx).1
          simp at h; omega
      · rename_i hs; rw [if_neg hs]; omega
    · rename_i e; rw [if_neg e]; omega

def dCnt (b : List Int) (c : Int) : Int := ((sqs.filter fun n => bAt b n == c).length : Nat)
def dMost (c : Int) : Int := if spKind c = 0 then 0 else if spKind c = 75 then 1 else if spKind c = 80 then 5 else 2
def letL : List Int := [75, 65, 66, 78, 82, 67, 80, 107, 97, 98, 110, 114, 99, 112]
def dBadN (b : List Int) (c : Int) : Bool := decide (dCnt b c > dMost c) || ((spKind c == 75) && (dCnt b c != 1))
def dBadP (b : List Int) (n : Int) : Bool := (bAt b n != 46) && !spMay (bAt b n) n
def dCheck (b : List Int) : Int := if letL.any (dBadN b) then 3 else if sqs.any (dBadP b) then 2 else 0
def rArg (p : ByteArray) (side clock full : Int) : Bool := !spIs p || decide (side < 0) || decide (side > 1) || decide (clock < 0) || decide (clock > 120) || decide (full < 1) || decide (full > 9999)
def rCheck (p : ByteArray) (side clock full : Int) : Int := if rArg p side clock full then 1 else dCheck (bytesL p)
def rWell (p : ByteArray) (side clock full : Int) : Int := if rCheck p side clock full ≠ 0 then rCheck p side clock full else if spFacing p then 4 else if spIn p (1 - side) then 5 else 0
theorem rArg_f {p : ByteArray} {side clock full : Int} (h : rArg p side clock full = false) : spIs p = true ∧ (side = 0 ∨ side = 1) ∧ (0 ≤ clock ∧ clock ≤ 120) ∧ 1 ≤ full ∧ full ≤ 9999 := by
  unfold rArg at h
  simp only [Bool.or_eq_false_iff, decide_eq_false_iff_not, Bool.not_eq_false'] at h
  obtain ⟨⟨⟨⟨⟨⟨h1, h2⟩, h3⟩, h4⟩, h5⟩, h6⟩, h7⟩ := h
  exact ⟨h1, by omega, by omega, by omega, by omega⟩
theorem rCheck_arg {p : ByteArray} {side clock full : Int} (h : rCheck p side clock full = 0) : rArg p side clock full = false ∧ dCheck (bytesL p) = 0 := by
  unfold rCheck at h
  split at h
  · cases h
  · rename_i e; exact ⟨by simpa using e, h⟩
theorem rWell_check {p : ByteArray} {side clock full : Int} (h : rWell p side clock full = 0) : rCheck p side clock full = 0 ∧ spFacing p = false ∧ spIn p (1 - side) = false := by
  unfold rWell at h
  split at h
  · rename_i e; exact absurd h e
  · rename_i e
    split at h
    · cases h
    · rename_i e1
      split at h
      · cases h
      · rename_i e2; exact ⟨by simpa using e, by simpa using e1, by simpa using e2⟩

def dStep (b : List Int) (side fr : Int) : List (Int × Int) := if spSide (bAt b fr) == side then (sqs.filter (dFast b fr)).map fun to => (fr, to) else []
def dMovesOf (b : List Int) (side : Int) : List (Int × Int) := sqs.flatMap (dStep b side)
def rOf (p : ByteArray) (side : Int) : List (Int × Int) := (dMovesOf (bytesL p) side).filter fun m => spSafe p side m.1 m.2
def rMoves (p : ByteArray) (side clock full : Int) : List (Int × Int) := if rWell p side clock full = 0 then rOf p side else []
def rCapt (p : ByteArray) (side clock full : Int) : List (Int × Int) := (rMoves p side clock full).filter fun m => bAt (bytesL p) m.2 != 46
theorem step_mem {b : List Int} {side fr : Int} {m : Int × Int} : m ∈ dStep b side fr ↔ m.1 = fr ∧ spSide (bAt b fr) = side ∧ (0 ≤ m.2 ∧ m.2 < 90) ∧ dFast b fr m.2 = true := by
  unfold dStep
  split
  · rename_i h
    simp only [List.mem_map, List.mem_filter, mem_sqs]
    constructor
    · rintro ⟨to, ⟨h1, h2⟩, rfl⟩; exact ⟨rfl, beqT h, h1, h2⟩
    · rintro ⟨rfl, _, h1, h2⟩; exact ⟨m.2, ⟨h1, h2⟩, rfl⟩
  · rename_i h
    simp only [List.not_mem_nil, false_iff]
    rintro ⟨_, h1, _⟩; exact h (by simpa using h1)
theorem movesOf_mem {b : List Int} {side : Int} {m : Int × Int} : m ∈ dMovesOf b side ↔ (0 ≤ m.1 ∧ m.1 < 90) ∧ (0 ≤ m.2 ∧ m.2 < 90) ∧ spSide (bAt b m.1) = side ∧ dFast b m.1 m.2 = true := by
  unfold dMovesOf
  simp only [List.mem_flatMap, mem_sqs, step_mem]
  constructor
  · rintro ⟨fr, h1, rfl, h2, h3, h4⟩; exact ⟨h1, h3, h2, h4⟩
  · rintro ⟨h1, h2, h3, h4⟩; exact ⟨m.1, h1, rfl, h3, h2, h4⟩
theorem step_len (b : List Int) (side fr : Int) : (dStep b side fr).length ≤ 90 := by
  unfold dStep
  split
  · rw [List.length_map]; refine Nat.le_trans (List.length_filter_le _ _) ?_; simp [sqs]
  · simp
theorem movesOf_len (b : List Int) (side : Int) : (dMovesOf b side).length ≤ 8100 := by
  have h := upTo_len (f := fun i => dStep b side (Int.ofNat i)) (b := 90) (fun i => step_len _ _ _) 90
  rw [upTo_sqs (dStep b side)] at h
  exact h
theorem rOf_len (p : ByteArray) (side : Int) : (rOf p side).length ≤ 8100 := Nat.le_trans (List.length_filter_le _ _) (movesOf_len _ _)
theorem rMoves_len (p : ByteArray) (side clock full : Int) : (rMoves p side clock full).length ≤ 8100 := by
  unfold rMoves; split
  · exact rOf_len _ _
  · simp
theorem rCapt_len (p : ByteArray) (side clock full : Int) : (rCapt p side clock full).length ≤ 8100 := Nat.le_trans (List.length_filter_le _ _) (rMoves_len _ _ _ _)
theorem gcan_ok {p : ByteArray} {side fr to : Int} (h : spGCan p side fr to = true) : spIs p = true ∧ Sqr fr ∧ Sqr to ∧ (side = 0 ∨ side = 1) := by
  have h1 : spIs p = true := by
    cases e : spIs p with
    | true => rfl
    | false => rw [gcan_bad (.inl e)] at h; cases h
  have h2 : Sqr fr := Classical.byContradiction fun e => by rw [gcan_bad (.inr (.inl e))] at h; cases h
  have h3 : Sqr to := Classical.byContradiction fun e => by rw [gcan_bad (.inr (.inr e))] at h; cases h
  refine ⟨h1, h2, h3, ?_⟩
  rw [gcan_canon h1 h2 h3] at h
  unfold dCan at h
  simp only [Bool.and_eq_true, decide_eq_true_eq] at h
  have := beqT h.1.1.2
  have := side_bd (bAt (bytesL p) fr)
  omega
theorem rOf_mem {p : ByteArray} {side : Int} (hp : spIs p = true) (hs : side = 0 ∨ side = 1) {m : Int × Int} : m ∈ rOf p side ↔ spGCan p side m.1 m.2 = true := by
  unfold rOf
  rw [List.mem_filter, movesOf_mem]
  constructor
  · rintro ⟨⟨h1, h2, h3, h4⟩, h5⟩
    rw [gcan_canon hp ⟨h1.1, h1.2⟩ ⟨h2.1, h2.2⟩, dCan, ← safe_canon hp ⟨h1.1, h1.2⟩ ⟨h2.1, h2.2⟩, h5, h4, h3]
    rcases hs with rfl | rfl <;> simp
  · intro h
    obtain ⟨_, h1, h2, _⟩ := gcan_ok h
    rw [gcan_canon hp h1 h2, dCan, ← safe_canon hp h1 h2] at h
    simp only [Bool.and_eq_true] at h
    exact ⟨⟨⟨h1.lo, h1.hi⟩, ⟨h2.lo, h2.hi⟩, beqT h.1.1.2, h.1.2⟩, h.2⟩
theorem filter_flatMap {α β : Type} (c : β → Bool) (f : α → List β) (l : List α) : (l.flatMap f).filter c = l.flatMap fun x => (f x).filter c := by
  induction l with
  | nil => rfl
  | cons x l ih => rw [List.flatMap_cons, List.filter_append, ih, List.flatMap_cons]
theorem flatMap_if {α β : Type} (c : α → Bool) (f : α → List β) (l : List α) : (l.filter c).flatMap f = l.flatMap fun x => if c x = true then f x else [] := by
  induction l with
  | nil => rfl
  | cons x l ih =>
    cases h : c x with
    | true => rw [List.filter_cons_of_pos h, List.flatMap_cons, List.flatMap_cons, ih, if_pos h]
    | false => rw [List.filter_cons_of_neg (by simp [h]), List.flatMap_cons, ih, if_neg (by simp [h])]; rfl
theorem takes_of {p : ByteArray} {side : Int} (hp : spIs p = true) (hs : side = 0 ∨ side = 1) : (rOf p side).filter (fun m => bAt (bytesL p) m.2 != 46) = spTakes p side := by
  rw [takes_canon hp]
  unfold dTakesL rOf dMovesOf dPieces
  rw [if_pos (by omega), flatMap_if, List.filter_filter, filter_flatMap, filter_flatMap]
  refine flatMap_congr' fun fr hfr => ?_
  have hq := mem_sqs.1 hfr
  unfold dStep dTo1 dAllL
  split
  · rw [List.filter_map, List.filter_map, List.filter_filter, List.filter_filter, List.filter_filter]
    congr 1
    apply List.filter_congr
    intro to hto
    have ht := mem_sqs.1 hto
    simp only [Function.comp]
    rw [safe_canon hp ⟨hq.1, hq.2⟩ ⟨ht.1, ht.2⟩, Bool.and_comm (bAt (bytesL p) to != 46)]
  · rfl
end Go.X

namespace Go.X
open Go

theorem any_f {α : Type} {f : α → Bool} {l : List α} {d : α} (h : ∀ k, k < l.length → f (l.getD k d) = false) : l.any f = false := by
  rw [List.any_eq_false]
  intro x hx
  obtain ⟨k, hk, rfl⟩ := List.getElem_of_mem hx
  have := h k hk
  rw [List.getD_eq_getElem?_getD, List.getElem?_eq_getElem hk] at this
  rw [show l[k] = (some l[k]).getD d from rfl, this]; exact Bool.noConfusion
theorem any_t {α : Type} {f : α → Bool} {l : List α} {d : α} {k : Nat} (hk : k < l.length) (h : f (l.getD k d) = true) : l.any f = true := by
  rw [List.any_eq_true]
  refine ⟨l[k], List.getElem_mem hk, ?_⟩
  rw [List.getD_eq_getElem?_getD, List.getElem?_eq_getElem hk] at h
  exact h
theorem sqs_f {f : Int → Bool} (h : ∀ k : Nat, k < 90 → f (Int.ofNat k) = false) : sqs.any f = false := by
  rw [List.any_eq_false]
  intro x hx
  have hq := mem_sqs.1 hx
  have := h x.toNat (by omega)
  rw [show Int.ofNat x.toNat = x by show ((x.toNat : Nat) : Int) = x; omega] at this
  rw [this]; exact Bool.noConfusion
theorem sqs_t {f : Int → Bool} {k : Nat} (hk : k < 90) (h : f (Int.ofNat k) = true) : sqs.any f = true := by
  rw [List.any_eq_true]
  exact ⟨Int.ofNat k, mem_sqs.2 ⟨by simp, by simp; omega⟩, h⟩
theorem till {q : Nat → Prop} {i : Nat} (h : ∀ k, k < i → q k) (hi : q i) : ∀ k, k < i + 1 → q k := fun k hk => by
  by_cases e : k = i
  · rw [e]; exact hi
  · exact h k (by omega)
theorem find_cnt {p : ByteArray} (hp : spIs p = true) (c : Int) : ((spFind p c).length : Int) = dCnt (bytesL p) c := by rw [find_canon hp]; rfl
def letP : ByteArray := ⟨#[75, 65, 66, 78, 82, 67, 80, 107, 97, 98, 110, 114, 99, 112]⟩
theorem letP_at : ∀ i, i < 14 → byteAt letP i = letL.getD i 0 := by decide
theorem facing_form (p : ByteArray) : (decide (spGeneral p 0 ≥ 0) && decide (spGeneral p 1 ≥ 0) && ((spGeneral p 0).tmod 9 == (spGeneral p 1).tmod 9) && (spBetween p (spGeneral p 0) (spGeneral p 1) == 0)) = spFacing p := by
  unfold spFacing
  by_cases h0 : 0 ≤ spGeneral p 0
  · by_cases h1 : 0 ≤ spGeneral p 1
    · rw [(general_file h0).1, (general_file h1).1, tmod9 h0, tmod9 h1]
    · simp [h1]
  · simp [h0]
theorem bytesOf_bytesL (p : ByteArray) : bytesOf (bytesL p) = p := by
  apply ByteArray.ext
  apply Array.toList_inj.1
  rw [bytesOf_list, of_bytesL]
theorem moved_eq {p : ByteArray} {fr to : Int} (hp : spIs p = true) (hf : Sqr fr) (ht : Sqr to) : bytesOf (dMoved (bytesL p) fr to) = spMoved p fr to := by
  rw [← (moved_canon hp hf ht).1, bytesOf_bytesL]
theorem SD.wrap {side : Int} (h : SD side) : IntKind.i64.wrap (1 - side) = 1 - side := by rcases h.is with rfl | rfl <;> decide
theorem general_side {p : ByteArray} {side : Int} (h : 0 ≤ spGeneral p side) : SD side := by
  refine ⟨?_, trivial, trivial⟩
  rw [← general_eq] at h
  split at h
  · rename_i e; simp only [Bool.and_eq_true] at e; exact isSide_iff.1 e.2
  · omega
theorem in_form (p : ByteArray) (side : Int) (h : 0 ≤ spGeneral p side) : (decide (spGeneral p side ≥ 0) && decide (((spAttackers p (spGeneral p side) (IntKind.i64.wrap (1 - side))).length : Int) > 0)) = spIn p side := by
  rw [(general_side h).wrap]
  unfold spIn
  congr 1
  cases spAttackers p (spGeneral p side) (1 - side) <;> simp
theorem in_none {p : ByteArray} {side : Int} (h : ¬ 0 ≤ spGeneral p side) : spIn p side = false := by unfold spIn; rw [decide_eq_false h]; rfl
theorem rWell_wrap {p : ByteArray} {side clock full : Int} (h : rCheck p side clock full = 0) : IntKind.i64.wrap (1 - side) = 1 - side := by
  have := (rArg_f (rCheck_arg h).1).2.1
  exact SD.wrap ⟨this, trivial, trivial⟩
theorem pos_any (l : List Int) : decide ((l.length : Int) > 0) = decide (0 < l.length) := by cases l <;> simp

theorem movesOf_at {b : List Int} {side : Int} {i : Nat} (h : i < (dMovesOf b side).length) : Sq ((dMovesOf b side).getD i (0, 0)).1 ∧ Sq ((dMovesOf b side).getD i (0, 0)).2 := by
  rw [List.getD_eq_getElem?_getD, List.getElem?_eq_getElem h]
  obtain ⟨h1, h2, _⟩ := movesOf_mem.1 (List.getElem_mem h)
  exact ⟨⟨h1.1, h1.2, trivial⟩, ⟨h2.1, h2.2, trivial⟩⟩
theorem rOf_at {p : ByteArray} {side : Int} {m : Int × Int} (h : m ∈ rOf p side) : Sq m.1 ∧ Sq m.2 := by
  obtain ⟨h1, h2, _⟩ := movesOf_mem.1 (List.mem_filter.1 h).1
  exact ⟨⟨h1.1, h1.2, trivial⟩, ⟨h2.1, h2.2, trivial⟩⟩
theorem rMoves_mem {p : ByteArray} {side clock full : Int} {m : Int × Int} (h : m ∈ rMoves p side clock full) : rWell p side clock full = 0 ∧ spIs p = true ∧ (side = 0 ∨ side = 1) ∧ m ∈ rOf p side := by
  unfold rMoves at h
  split at h
  · rename_i hw
    have := rArg_f (rCheck_arg (rWell_check hw).1).1
    exact ⟨hw, this.1, this.2.1, h⟩
  · cases h
theorem rMoves_at {p : ByteArray} {side clock full : Int} {i : Nat} (h : i < (rMoves p side clock full).length) : p.size = 90 ∧ Sq ((rMoves p side clock full).getD i (0, 0)).1 ∧ Sq ((rMoves p side clock full).getD i (0, 0)).2 := by
  rw [List.getD_eq_getElem?_getD, List.getElem?_eq_getElem h]
  obtain ⟨_, h1, _, h2⟩ := rMoves_mem (List.getElem_mem h)
  exact ⟨spIs_size h1, rOf_at h2⟩
theorem safe_form {p : ByteArray} {side fr to : Int} : ((spKind (byteAt p to.toNat) != 75) && (!spFacing (spMoved p fr to) && !spIn (spMoved p fr to) side)) = spSafe p side fr to := by
  unfold spSafe
  by_cases h : spKind (byteAt p to.toNat) = 75
  · rw [h, if_pos rfl]; rfl
  · rw [if_neg h, show (spKind (byteAt p to.toNat) != 75) = true by simpa using h, Bool.true_and]

theorem sz1 {n : Nat} (h : n ≤ 100000) : n + 1 ≤ 4000000000 := by omega
theorem szB {n b : Nat} (h : n ≤ 100000) (hb : b ≤ 1000 := by decide) : (n + 1) * b ≤ 140737488355328 := Nat.le_trans (Nat.mul_le_mul (Nat.add_le_add_right h 1) hb) (by decide)
def pickTo {α : Type} (c : α → Bool) (l : List α) (i : Nat) : List α := (l.take i).filter c
theorem pick_t {α : Type} {c : α → Bool} {l : List α} (d : α) {i : Nat} (h : i < l.length) (hc : c (l.getD i d) = true) : pickTo c l (i + 1) = pickTo c l i ++ [l.getD i d] := by
  rw [List.getD_eq_getElem?_getD, List.getElem?_eq_getElem h] at hc ⊢
  unfold pickTo
  rw [List.take_succ_eq_append_getElem h, List.filter_append, List.filter_cons_of_pos (by exact hc)]; rfl
theorem pick_f {α : Type} {c : α → Bool} {l : List α} (d : α) {i : Nat} (h : i < l.length) (hc : c (l.getD i d) = false) : pickTo c l (i + 1) = pickTo c l i := by
  rw [List.getD_eq_getElem?_getD, List.getElem?_eq_getElem h] at hc
  unfold pickTo
  rw [List.take_succ_eq_append_getElem h, List.filter_append, List.filter_cons_of_neg (by rw [show c l[i] = false from hc]; exact Bool.noConfusion)]; simp
theorem pick_all {α : Type} {c : α → Bool} {l : List α} {i : Nat} (h : l.length ≤ i) : pickTo c l i = l.filter c := by unfold pickTo; rw [List.take_of_length_le h]
theorem pick_len {α : Type} (c : α → Bool) (l : List α) (i : Nat) : (pickTo c l i).length ≤ l.length := by
  unfold pickTo
  refine Nat.le_trans (List.length_filter_le _ _) ?_
  rw [List.length_take]; omega
def rOkM (b : List Int) (side fr to : Int) : Bool := spIsSquare fr && spIsSquare to && (spSide (bAt b fr) == side) && dFast b fr to && (spKind (bAt b to) != 75)
def rAppE (p : ByteArray) (side clock full fr to : Int) : Int := if rCheck p side clock full ≠ 0 then rCheck p side clock full else if rOkM (bytesL p) side fr to then 0 else 7
def nClock (b : List Int) (clock to : Int) : Int := if bAt b to = 46 then (if 120 < clock + 1 then 120 else clock + 1) else 0
def nFull (side full : Int) : Int := if side = 1 then (if 9999 < full + 1 then 9999 else full + 1) else full
def nTaken (b : List Int) (to : Int) : Int := if bAt b to = 46 then 0 else bAt b to
def rMakeE (p : ByteArray) (side clock full fr to : Int) : Int := if rWell p side clock full ≠ 0 then rWell p side clock full else if spGCan p side fr to then 0 else 7
theorem app_1 {p : ByteArray} {side clock full fr to : Int} (h : (rCheck p side clock full != 0) = true) : rCheck p side clock full = rAppE p side clock full fr to ∧ ¬ rAppE p side clock full fr to = 0 := by
  have h := bneT h
  unfold rAppE; rw [if_pos h]; exact ⟨rfl, h⟩
theorem app_sq {fr to : Int} (h : (decide (fr < 0) || decide (fr > 89) || decide (to < 0) || decide (to > 89)) = false) : spIsSquare fr = true ∧ spIsSquare to = true := by
  simp only [Bool.or_eq_false_iff, decide_eq_false_iff_not] at h
  exact ⟨isSquare_iff.2 (by omega), isSquare_iff.2 (by omega)⟩
theorem app_bad {p : ByteArray} {side fr to : Int} : (decide (fr < 0) || decide (fr > 89) || decide (to < 0) || decide (to > 89) || (spSide (byteAt p fr.toNat) != side) || !dFast (bytesL p) fr to || (spKind (byteAt p to.toNat) == 75)) = !rOkM (bytesL p) side fr to := by
  unfold rOkM
  rw [bAt_bytes, bAt_bytes]
  cases h : (decide (fr < 0) || decide (fr > 89) || decide (to < 0) || decide (to > 89)) with
  | false =>
    rw [(app_sq h).1, (app_sq h).2]
    cases h1 : spSide (byteAt p fr.toNat) == side <;> cases h2 : dFast (bytesL p) fr to <;> cases h3 : spKind (byteAt p to.toNat) == 75 <;> simp_all
  | true =>
    have : (spIsSquare fr && spIsSquare to) = false := by
      cases e : spIsSquare fr && spIsSquare to with
      | false => rfl
      | true =>
        simp only [Bool.and_eq_true, isSquare_iff] at e
        simp only [Bool.or_eq_true, decide_eq_true_eq] at h
        omega
    rw [this]; rfl
theorem app_2 {p : ByteArray} {side clock full fr to : Int} (h : (rCheck p side clock full != 0) = false) (h2 : (decide (fr < 0) || decide (fr > 89) || decide (to < 0) || decide (to > 89) || (spSide (byteAt p fr.toNat) != side) || !dFast (bytesL p) fr to || (spKind (byteAt p to.toNat) == 75)) = true) : 7 = rAppE p side clock full fr to ∧ ¬ rAppE p side clock full fr to = 0 := by
  rw [app_bad] at h2
  unfold rAppE; rw [if_neg (by simpa using bneF h), if_neg (by rw [bt h2]; exact Bool.noConfusion)]; exact ⟨rfl, by decide⟩
theorem app_0 {p : ByteArray} {side clock full fr to : Int} (h : (rCheck p side clock full != 0) = false) (h2 : (decide (fr < 0) || decide (fr > 89) || decide (to < 0) || decide (to > 89) || (spSide (byteAt p fr.toNat) != side) || !dFast (bytesL p) fr to || (spKind (byteAt p to.toNat) == 75)) = false) : rAppE p side clock full fr to = 0 := by
  rw [app_bad] at h2
  unfold rAppE; rw [if_neg (by simpa using bneF h), if_pos (bn h2)]
structure PosOk (p : ByteArray) (side clock full : Int) : Prop where
  is : spIs p = true
  sd : SD side
  cl : 0 ≤ clock ∧ clock ≤ 120
  fl : 1 ≤ full ∧ full ≤ 9999
theorem pos_ok {p : ByteArray} {side clock full : Int} (h : rCheck p side clock full = 0) : PosOk p side clock full := by
  have := rArg_f (rCheck_arg h).1
  exact ⟨this.1, ⟨this.2.1, trivial, trivial⟩, this.2.2.1, this.2.2.2⟩
theorem make_1 {p : ByteArray} {side clock full fr to : Int} (h : (rWell p side clock full != 0) = true) : rWell p side clock full = rMakeE p side clock full fr to ∧ ¬ rMakeE p side clock full fr to = 0 := by
  have h := bneT h
  unfold rMakeE; rw [if_pos h]; exact ⟨rfl, h⟩
theorem app_well {p : ByteArray} {side clock full fr to : Int} (h : (rWell p side clock full != 0) = false) : rAppE p side clock full fr to = if rOkM (bytesL p) side fr to then 0 else 7 := by
  unfold rAppE; rw [if_neg (by simpa using (rWell_check (bneF h)).1)]
theorem make_app {p : ByteArray} {side clock full fr to : Int} (hw : rWell p side clock full = 0) : spGCan p side fr to = (rOkM (bytesL p) side fr to && !spFacing (spMoved p fr to) && !spIn (spMoved p fr to) side) := by
  obtain ⟨hp, hs, _⟩ := rArg_f (rCheck_arg (rWell_check hw).1).1
  by_cases hf : Sqr fr
  · by_cases ht : Sqr to
    · obtain ⟨h1, h2⟩ := moved_canon hp hf ht
      rw [gcan_canon hp hf ht, facing_canon h2, in_canon h2, h1]
      unfold dCan dSafe' dSafeB rOkM
      rw [hf.is, ht.is, show decide (0 ≤ side) = true from decide_eq_true (by omega)]
      simp only [Bool.true_and, Bool.and_assoc]
    · rw [gcan_bad (.inr (.inr ht))]
      have : spIsSquare to = false := by cases h : spIsSquare to with
        | false => rfl
        | true => have := isSquare_iff.1 h; exact absurd ⟨this.1, this.2⟩ ht
      simp [rOkM, this]
  · rw [gcan_bad (.inr (.inl hf))]
    have : spIsSquare fr = false := by cases h : spIsSquare fr with
      | false => rfl
      | true => have := isSquare_iff.1 h; exact absurd ⟨this.1, this.2⟩ hf
    simp [rOkM, this]
theorem make_2 {p : ByteArray} {side clock full fr to : Int} (h : (rWell p side clock full != 0) = false) (h2 : ((rAppE p side clock full fr to != 0) || !(!spFacing (if rAppE p side clock full fr to = 0 then spMoved p fr to else ByteArray.empty) && !spIn (if rAppE p side clock full fr to = 0 then spMoved p fr to else ByteArray.empty) side)) = true) : 7 = rMakeE p side clock full fr to ∧ ¬ rMakeE p side clock full fr to = 0 := by
  have hw := bneF h
  have hg := make_app (fr := fr) (to := to) hw
  rw [app_well h] at h2
  unfold rMakeE
  rw [if_neg (by simpa using hw), hg]
  cases hr : rOkM (bytesL p) side fr to with
  | false => simp
  | true =>
    simp only [hr, if_true] at h2
    have h2 : (!(!spFacing (spMoved p fr to) && !spIn (spMoved p fr to) side)) = true := h2
    rw [Bool.true_and, bt h2]; simp
theorem make_0 {p : ByteArray} {side clock full fr to : Int} (h : (rWell p side clock full != 0) = false) (h2 : ((rAppE p side clock full fr to != 0) || !(!spFacing (if rAppE p side clock full fr to = 0 then spMoved p fr to else ByteArray.empty) && !spIn (if rAppE p side clock full fr to = 0 then spMoved p fr to else ByteArray.empty) side)) = false) : rMakeE p side clock full fr to = 0 ∧ rAppE p side clock full fr to = 0 := by
  have hw := bneF h
  have hg := make_app (fr := fr) (to := to) hw
  have he := app_well (fr := fr) (to := to) h
  cases hr : rOkM (bytesL p) side fr to with
  | false => rw [hr, if_neg Bool.noConfusion] at he; rw [he] at h2; cases h2
  | true =>
    rw [hr, if_pos rfl] at he
    rw [he, if_pos rfl] at h2
    have h2 : (!(!spFacing (spMoved p fr to) && !spIn (spMoved p fr to) side)) = false := h2
    refine ⟨?_, he⟩
    unfold rMakeE
    rw [if_neg (by simpa using hw), hg, hr, Bool.true_and, bn h2]; rfl
theorem nClock_t {b : List Int} {clock to : Int} (h : (bAt b to != 46) = true) : nClock b clock to = 0 := by unfold nClock; rw [if_neg (bneT h)]
theorem nClock_f {b : List Int} {clock to : Int} (h : (bAt b to != 46) = false) (hc : 0 ≤ clock ∧ clock ≤ 120) : nClock b clock to = if 120 < IntKind.i64.wrap (clock + 1) then 120 else IntKind.i64.wrap (clock + 1) := by unfold nClock; rw [if_pos (bneF h), wrap64 (by omega) (by omega)]
theorem nFull_t {side full : Int} (h : (side == 1) = true) (hc : 1 ≤ full ∧ full ≤ 9999) : nFull side full = if 9999 < IntKind.i64.wrap (full + 1) then 9999 else IntKind.i64.wrap (full + 1) := by unfold nFull; rw [if_pos (beqT h), wrap64 (by omega) (by omega)]
theorem nFull_f {side full : Int} (h : (side == 1) = false) : nFull side full = full := by unfold nFull; rw [if_neg (beqF h)]
theorem nTaken_t {b : List Int} {to : Int} (h : (bAt b to != 46) = true) : nTaken b to = bAt b to := by unfold nTaken; rw [if_neg (bneT h)]
theorem nTaken_f {b : List Int} {to : Int} (h : (bAt b to != 46) = false) : nTaken b to = 0 := by unfold nTaken; rw [if_pos (bneF h)]
end Go.X

namespace Go.X
open Go
structure LM {α : Type} (l : List α) : Prop where
  le : l.length ≤ 2000000000
  u : True
  v : True
structure CanOk (p : ByteArray) (side fr to : Int) : Prop where
  is : spIs p = true
  sd : SD side
  fr : Sq fr
  to : Sq to
theorem can_2 {p : ByteArray} {side fr to : Int} (h : (!spIs p || decide (side < 0) || decide (side > 1) || decide (fr < 0) || decide (fr > 89) || decide (to < 0) || decide (to > 89)) = false) : CanOk p side fr to := by
  simp only [Bool.or_eq_false_iff, decide_eq_false_iff_not, Bool.not_eq_false'] at h
  obtain ⟨⟨⟨⟨⟨⟨h1, h2⟩, h3⟩, h4⟩, h5⟩, h6⟩, h7⟩ := h
  exact ⟨h1, ⟨by omega, trivial, trivial⟩, ⟨by omega, by omega, trivial⟩, ⟨by omega, by omega, trivial⟩⟩
theorem can_1 {p : ByteArray} {side fr to : Int} (h : (!spIs p || decide (side < 0) || decide (side > 1) || decide (fr < 0) || decide (fr > 89) || decide (to < 0) || decide (to > 89)) = true) : spGCan p side fr to = false := by
  cases e : spGCan p side fr to with
  | false => rfl
  | true =>
    obtain ⟨h1, h2, h3, h4⟩ := gcan_ok e
    have := h2.lo; have := h2.hi; have := h3.lo; have := h3.hi
    simp only [h1, Bool.not_true, Bool.false_or, Bool.or_eq_true, decide_eq_true_eq] at h
    omega
theorem Sq.sqr' {n : Int} (h : Sq n) : Sqr n := ⟨h.lo, h.hi⟩
theorem can_form {p : ByteArray} {side fr to : Int} (h : CanOk p side fr to) : spGCan p side fr to = (!((spSide (byteAt p fr.toNat) != side) || !dFast (bytesL p) fr to || (spKind (byteAt p to.toNat) == 75)) && (!spFacing (spMoved p fr to) && !spIn (spMoved p fr to) side)) := by
  rw [gcan_canon h.is h.fr.sqr' h.to.sqr', dCan, ← safe_canon h.is h.fr.sqr' h.to.sqr', ← safe_form, bAt_bytes, decide_eq_true (show 0 ≤ side by rcases h.sd.is with e | e <;> omega)]
  unfold bne
  generalize (spSide (byteAt p fr.toNat) == side) = a
  generalize dFast (bytesL p) fr to = b
  generalize (spKind (byteAt p to.toNat) == 75) = c
  cases a <;> cases b <;> cases c <;> rfl
theorem takes_side {p : ByteArray} {side : Int} (h : side < 0 ∨ 1 < side) : spTakes p side = [] := by
  cases hp : spIs p with
  | false => exact takes_bad hp side
  | true =>
    rw [takes_canon hp, dTakesL, show dPieces (bytesL p) side = [] by
      unfold dPieces
      split
      · rw [List.filter_eq_nil_iff]
        intro x _
        have := side_bd (bAt (bytesL p) x)
        simp; omega
      · rfl]
    rfl
theorem can_3 {p : ByteArray} {side fr to : Int} (h : CanOk p side fr to) (h1 : ((spSide (byteAt p fr.toNat) != side) || !dFast (bytesL p) fr to || (spKind (byteAt p to.toNat) == 75)) = true) : spGCan p side fr to = false := by rw [can_form h, h1]; rfl
theorem can_4 {p : ByteArray} {side fr to : Int} (h : CanOk p side fr to) (h1 : ((spSide (byteAt p fr.toNat) != side) || !dFast (bytesL p) fr to || (spKind (byteAt p to.toNat) == 75)) = false) : spGCan p side fr to = (!spFacing (spMoved p fr to) && !spIn (spMoved p fr to) side) := by rw [can_form h, h1]; rfl
theorem rMoves_can {p : ByteArray} {side clock full : Int} (hne : ((rMoves p side clock full).length : Int) ≠ 0) (m : Int × Int) : m ∈ rMoves p side clock full ↔ spGCan p side m.1 m.2 = true := by
  have hw : rWell p side clock full = 0 := by
    refine Classical.byContradiction fun h => hne ?_
    unfold rMoves; rw [if_neg h]; rfl
  have ho := pos_ok (rWell_check hw).1
  rw [← rOf_mem ho.is ho.sd.is]
  unfold rMoves; rw [if_pos hw]
theorem rCapt_takes {p : ByteArray} {side clock full : Int} (hw : rWell p side clock full = 0) : rCapt p side clock full = spTakes p side := by
  have ho := pos_ok (rWell_check hw).1
  unfold rCapt rMoves
  rw [if_pos hw, takes_of ho.is ho.sd.is]
theorem rMoves_well {p : ByteArray} {side clock full : Int} (hne : ((rMoves p side clock full).length : Int) ≠ 0) : rWell p side clock full = 0 := by
  refine Classical.byContradiction fun h => hne ?_
  unfold rMoves; rw [if_neg h]; rfl
theorem mv_t {x y : Int × Int} (h : (EK.pair (.int .i64) (.int .i64)).eqb x y = true) : x = y := by
  obtain ⟨a, b⟩ := x; obtain ⟨c, d⟩ := y
  have h : ((a == c) && (b == d)) = true := h
  simp only [Bool.and_eq_true] at h
  rw [beqT h.1, beqT h.2]
theorem mv_f {x y : Int × Int} (h : (EK.pair (.int .i64) (.int .i64)).eqb x y = false) : x ≠ y := by
  rintro rfl
  obtain ⟨a, b⟩ := x
  have h : ((a == a) && (b == b)) = false := h
  simp at h
theorem eq_getD {α : Type} {l m : List α} {d : α} (h : l.length = m.length) (hq : ∀ k, k < l.length → l.getD k d = m.getD k d) : l = m := by
  refine List.ext_getElem h fun k h1 h2 => ?_
  have := hq k h1
  rwa [List.getD_eq_getElem?_getD, List.getElem?_eq_getElem h1, List.getD_eq_getElem?_getD, List.getElem?_eq_getElem h2] at this
theorem mem_getD {α : Type} {l : List α} {d : α} {k : Nat} (h : k < l.length) : l.getD k d ∈ l := by
  rw [List.getD_eq_getElem?_getD, List.getElem?_eq_getElem h]; exact List.getElem_mem h
theorem not_mem_getD {α : Type} {l : List α} {d x : α} (h : ∀ k, k < l.length → l.getD k d ≠ x) : x ∉ l := by
  intro hx
  obtain ⟨k, hk, e⟩ := List.getElem_of_mem hx
  refine h k hk ?_
  rw [List.getD_eq_getElem?_getD, List.getElem?_eq_getElem hk]; exact e
theorem guarded_bad {p : ByteArray} {fr to : Int} (h : spGCan p (spSide (spAt p fr)) fr to = false) : spGuarded p fr to = false := by unfold spGuarded; rw [h]; rfl
theorem at_sq {p : ByteArray} {fr : Int} (hp : spIs p = true) (hf : Sq fr) : spAt p fr = byteAt p fr.toNat := by
  unfold spAt; rw [hf.sqr'.is, hp]; rfl
theorem guarded_form {p : ByteArray} {fr to : Int} (hp : spIs p = true) (hf : Sq fr) (ht : Sq to) (h : spGCan p (spSide (byteAt p fr.toNat)) fr to = true) :
    spGuarded p fr to = sqs.any fun n => (spSide (byteAt (spMoved p fr to) n.toNat) == 1 - spSide (byteAt p fr.toNat)) && spGCan (spMoved p fr to) (1 - spSide (byteAt p fr.toNat)) n to := by
  obtain ⟨h1, h2⟩ := moved_canon hp hf.sqr' ht.sqr'
  rw [guarded_canon hp hf.sqr' ht.sqr', dGuarded, bAt_bytes, ← gcan_canon hp hf.sqr' ht.sqr', h, Bool.true_and]
  rw [Bool.eq_iff_iff, List.any_eq_true, List.any_eq_true]
  refine exists_congr fun n => and_congr_right fun hn => ?_
  have hq := mem_sqs.1 hn
  rw [← h1, bAt_bytes, ← gcan_canon h2 ⟨hq.1, hq.2⟩ ht.sqr']
end Go.X

namespace Go.X
open Go

theorem bAt_list {b : List Int} (hb : b.length = 90) : sqs.map (bAt b) = b := by
  apply List.ext_getElem
  · simp [sqs, hb]
  · intro i h1 h2
    simp only [sqs, List.getElem_map, List.getElem_range]
    show b.getD (Int.toNat (Int.ofNat i)) 0 = b[i]
    rw [List.getD_eq_getElem?_getD]
    show b[i]?.getD 0 = b[i]
    rw [List.getElem?_eq_getElem h2]; rfl
theorem dCnt_count {b : List Int} (hb : b.length = 90) (c : Int) : dCnt b c = (b.count c : Nat) := by
  unfold dCnt
  congr 1
  conv => rhs; rw [← bAt_list hb]
  rw [List.count_eq_countP, List.countP_map, List.countP_eq_length_filter]
  rfl
theorem bAt_get {b : List Int} {n : Int} (hb : b.length = 90) (hn : Sqr n) : ∃ h : n.toNat < b.length, bAt b n = b[n.toNat] := by
  have h1 := hn.lo; have h2 := hn.hi
  refine ⟨by omega, ?_⟩
  unfold bAt
  rw [List.getD_eq_getElem?_getD, List.getElem?_eq_getElem (by omega)]; rfl
theorem cnt_set {b : List Int} {n c x : Int} (hb : b.length = 90) (hn : Sqr n) : dCnt (b.set n.toNat x) c = dCnt b c - (if bAt b n = c then 1 else 0) + (if x = c then 1 else 0) := by
  obtain ⟨h, e⟩ := bAt_get hb hn
  rw [dCnt_count (by rw [List.length_set]; exact hb), dCnt_count hb, List.count_set (h := h), e]
  have hp : b[n.toNat] = c → 0 < b.count c := fun h' => List.count_pos_iff.2 (h' ▸ List.getElem_mem h)
  by_cases h1 : b[n.toNat] = c
  · have := hp h1
    rw [if_pos h1, if_pos (by simpa using h1)]
    by_cases h2 : x = c
    · rw [if_pos h2, if_pos (by simpa using h2)]; omega
    · rw [if_neg h2, if_neg (by simpa using h2)]; omega
  · rw [if_neg h1, if_neg (by simpa using h1)]
    by_cases h2 : x = c
    · rw [if_pos h2, if_pos (by simpa using h2)]; omega
    · rw [if_neg h2, if_neg (by simpa using h2)]; omega
theorem cnt_moved {b : List Int} {fr to c : Int} (hb : b.length = 90) (hf : Sqr fr) (ht : Sqr to) (hne : to ≠ fr) (hc : c ≠ 46) : dCnt (dMoved b fr to) c = dCnt b c - (if bAt b to = c then 1 else 0) := by
  unfold dMoved
  have hb' : (b.set to.toNat (bAt b fr)).length = 90 := by rw [List.length_set]; exact hb
  have e : bAt (b.set to.toNat (bAt b fr)) fr = bAt b fr := by rw [bAt_set hb ht hf.lo, if_neg (fun e => hne e.symm)]
  rw [cnt_set hb' hf, cnt_set hb ht, e, if_neg (fun h : (46 : Int) = c => hc h.symm)]
  omega
theorem bAt_moved {b : List Int} {fr to n : Int} (hb : b.length = 90) (hf : Sqr fr) (ht : Sqr to) (hn : 0 ≤ n) : bAt (dMoved b fr to) n = if n = fr then 46 else if n = to then bAt b fr else bAt b n := by
  unfold dMoved
  have hb' : (b.set to.toNat (bAt b fr)).length = 90 := by rw [List.length_set]; exact hb
  rw [bAt_set hb' hf hn, bAt_set hb ht hn]
theorem fast_ne {b : List Int} {fr to : Int} (h : dFast b fr to = true) : to ≠ fr ∧ 0 ≤ spSide (bAt b fr) ∧ spSide (bAt b to) ≠ spSide (bAt b fr) ∧ dReach b (bAt b fr) fr to = true := by
  unfold dFast at h
  simp only [Bool.and_eq_true, decide_eq_true_eq] at h
  have h2 := bneT h.1.2
  exact ⟨fun e => h2 (by rw [e]), h.1.1, h2, h.2⟩
theorem pawn_tab : ∀ n : Nat, n < 90 → ∀ t : Nat, t < 90 → ((spMay 80 n = true → dPawnCan 0 n t = true → spMay 80 t = true) ∧ (spMay 112 n = true → dPawnCan 1 n t = true → spMay 112 t = true)) := by decide +kernel
theorem kind_tab2 : ∀ n : Nat, n < 256 → (spKind (n : Int) = 80 → (spSide (n : Int) = 0 ∧ n = 80) ∨ (spSide (n : Int) = 1 ∧ n = 112)) := by decide +kernel
theorem may_moved {b : List Int} {fr to : Int} (hf : Sqr fr) (ht : Sqr to) (hby : BY (bAt b fr)) (h : dFast b fr to = true) (hm : spMay (bAt b fr) fr = true) : spMay (bAt b fr) to = true := by
  obtain ⟨_, h1, _, h3⟩ := fast_ne h
  have hb1 := hby.lo; have hb2 := hby.hi
  have f1 := hf.lo; have f2 := hf.hi; have t1 := ht.lo; have t2 := ht.hi
  generalize bAt b fr = pc at *
  have hk := side_kinds pc.toNat (by omega)
  have hk2 := kind_tab2 pc.toNat (by omega)
  rw [show ((pc.toNat : Nat) : Int) = pc by omega] at hk hk2
  have hok : spOk to (spSide pc) = true := by
    have := side_bd pc
    unfold spOk
    simp only [Bool.and_eq_true, Bool.or_eq_true, decide_eq_true_eq, beq_iff_eq]
    omega
  have free : spKind pc = 78 ∨ spKind pc = 82 ∨ spKind pc = 67 → spMay pc to = true := fun hk => by
    unfold spMay
    rw [if_pos hok, if_neg (by omega), if_neg (by omega), if_neg (by omega), if_neg (by omega)]
  unfold dReach at h3
  rcases hk h1 with hk | hk | hk | hk | hk | hk | hk
  · rw [if_pos hk] at h3; simp only [Bool.and_eq_true] at h3; exact h3.2
  · rw [if_neg (by omega), if_pos hk] at h3; simp only [Bool.and_eq_true] at h3; exact h3.2
  · rw [if_neg (by omega), if_neg (by omega), if_pos hk] at h3; simp only [Bool.and_eq_true] at h3; exact h3.1.2
  · exact free (.inl hk)
  · exact free (.inr (.inl hk))
  · exact free (.inr (.inr hk))
  · rw [if_neg (by omega), if_neg (by omega), if_neg (by omega), if_neg (by omega), if_neg (by omega), if_neg (by omega)] at h3
    have tb := pawn_tab fr.toNat (by omega) to.toNat (by omega)
    rw [show ((fr.toNat : Nat) : Int) = fr by omega, show ((to.toNat : Nat) : Int) = to by omega] at tb
    rcases hk2 hk with ⟨hs, hp⟩ | ⟨hs, hp⟩
    · have hp : pc = 80 := by omega
      rw [hs] at h3; rw [hp] at hm ⊢; exact tb.1 hm h3
    · have hp : pc = 112 := by omega
      rw [hs] at h3; rw [hp] at hm ⊢; exact tb.2 hm h3
theorem letL_ne : ∀ c ∈ letL, c ≠ 46 := by decide
theorem check_iff {b : List Int} : dCheck b = 0 ↔ (∀ c ∈ letL, dBadN b c = false) ∧ ∀ n, Sqr n → dBadP b n = false := by
  unfold dCheck
  constructor
  · intro h
    split at h
    · cases h
    · rename_i h1
      split at h
      · cases h
      · rename_i h2
        have h1 : letL.any (dBadN b) = false := by simpa using h1
        have h2 : sqs.any (dBadP b) = false := by simpa using h2
        rw [List.any_eq_false] at h1 h2
        exact ⟨fun c hc => by simpa using h1 c hc, fun n hn => by simpa using h2 n (mem_sqs.2 ⟨hn.lo, hn.hi⟩)⟩
  · rintro ⟨h1, h2⟩
    have h1 : letL.any (dBadN b) = false := by rw [List.any_eq_false]; intro c hc; rw [h1 c hc]; exact Bool.noConfusion
    have h2 : sqs.any (dBadP b) = false := by rw [List.any_eq_false]; intro n hn; have := mem_sqs.1 hn; rw [h2 n ⟨this.1, this.2⟩]; exact Bool.noConfusion
    rw [if_neg (by rw [h1]; exact Bool.noConfusion), if_neg (by rw [h2]; exact Bool.noConfusion)]
theorem check_moved {b : List Int} {fr to : Int} (hb : b.length = 90) (hby : ∀ n, BY (bAt b n)) (hf : Sqr fr) (ht : Sqr to) (h : dFast b fr to = true) (hk : spKind (bAt b to) ≠ 75) (hc : dCheck b = 0) : dCheck (dMoved b fr to) = 0 := by
  obtain ⟨hne, h1, h2, _⟩ := fast_ne h
  rw [check_iff] at hc ⊢
  constructor
  · intro c hcl
    have hq := hc.1 c hcl
    unfold dBadN at hq ⊢
    simp only [Bool.or_eq_false_iff, decide_eq_false_iff_not, Bool.and_eq_false_iff, beq_eq_false_iff_ne, bne_eq_false_iff_eq] at hq ⊢
    rw [cnt_moved hb hf ht hne (letL_ne c hcl)]
    refine ⟨by split <;> omega, ?_⟩
    rcases hq.2 with h | h
    · exact .inl h
    · by_cases h3 : bAt b to = c
      · left; rw [← h3]; exact hk
      · right; rw [if_neg h3, h]; rfl
  · intro n hn
    have hq := hc.2 n hn
    unfold dBadP
    rw [bAt_moved hb hf ht hn.lo]
    by_cases hnf : n = fr
    · rw [if_pos hnf]; rfl
    · rw [if_neg hnf]
      by_cases hnt : n = to
      · rw [if_pos hnt, hnt]
        have h46 : bAt b fr ≠ 46 := fun e => by rw [e] at h1; revert h1; decide
        have hm : spMay (bAt b fr) fr = true := by
          have := hc.2 fr hf
          unfold dBadP at this
          rw [show (bAt b fr != 46) = true by simpa using h46, Bool.true_and] at this
          exact bn this
        rw [may_moved hf ht (hby fr) h hm]; simp
      · rw [if_neg hnt]; exact hq
theorem bAt_by (p : ByteArray) (n : Int) : BY (bAt (bytesL p) n) := by rw [bAt_bytes]; exact BY.at _ _
theorem SD.turn {s : Int} (h : SD s) : SD (1 - s) := ⟨by rcases h.is with h | h <;> omega, trivial, trivial⟩
theorem rWell_of {p : ByteArray} {side clock full : Int} (h1 : rArg p side clock full = false) (h2 : dCheck (bytesL p) = 0) (h3 : spFacing p = false) (h4 : spIn p (1 - side) = false) : rWell p side clock full = 0 := by
  have hc : rCheck p side clock full = 0 := by unfold rCheck; rw [h1, if_neg Bool.noConfusion, h2]
  unfold rWell; rw [if_neg (by simp [hc]), h3, h4]; rfl
theorem nClock_bd {b : List Int} {clock to : Int} (h : 0 ≤ clock ∧ clock ≤ 120) : 0 ≤ nClock b clock to ∧ nClock b clock to ≤ 120 := by unfold nClock; split <;> (try split) <;> omega
theorem nFull_bd {side full : Int} (h : 1 ≤ full ∧ full ≤ 9999) : 1 ≤ nFull side full ∧ nFull side full ≤ 9999 := by unfold nFull; split <;> (try split) <;> omega
theorem rArg_of {p : ByteArray} {side clock full : Int} (h : PosOk p side clock full) : rArg p side clock full = false := by
  unfold rArg
  rw [h.is]
  have := h.sd.is; have := h.cl; have := h.fl
  simp only [Bool.not_true, Bool.false_or, Bool.or_eq_false_iff, decide_eq_false_iff_not]
  omega
theorem gcan_parts {p : ByteArray} {side fr to : Int} (h : spGCan p side fr to = true) : spSide (bAt (bytesL p) fr) = side ∧ dFast (bytesL p) fr to = true ∧ spKind (bAt (bytesL p) to) ≠ 75 ∧ spFacing (spMoved p fr to) = false ∧ spIn (spMoved p fr to) side = false := by
  obtain ⟨h1, h2, h3, h4⟩ := gcan_ok h
  rw [gcan_canon h1 h2 h3, dCan, ← safe_canon h1 h2 h3, ← safe_form] at h
  simp only [Bool.and_eq_true] at h
  rw [← bAt_bytes] at h
  exact ⟨beqT h.1.1.2, h.1.2, bneT h.2.1, bt h.2.2.1, bt h.2.2.2⟩
theorem well_moved {p : ByteArray} {side clock full fr to : Int} (hw : rWell p side clock full = 0) (h : spGCan p side fr to = true) : rWell (spMoved p fr to) (1 - side) (nClock (bytesL p) clock to) (nFull side full) = 0 := by
  obtain ⟨hc, _, _⟩ := rWell_check hw
  have ho := pos_ok hc
  obtain ⟨h1, h2, h3, h4⟩ := gcan_ok h
  obtain ⟨g1, g2, g3, g4, g5⟩ := gcan_parts h
  obtain ⟨e1, e2⟩ := moved_canon h1 h2 h3
  refine rWell_of (rArg_of ⟨e2, ho.sd.turn, nClock_bd ho.cl, nFull_bd ho.fl⟩) ?_ g4 (by rw [show 1 - (1 - side) = side by omega]; exact g5)
  rw [e1]
  exact check_moved ((bytesL_len p).trans (spIs_size h1)) (bAt_by p) h2 h3 g2 g3 (rCheck_arg hc).2
theorem guarded_iff {p : ByteArray} {side fr to : Int} (h : spGCan p side fr to = true) : spGuarded p fr to = true ↔ ∃ n, spGCan (spMoved p fr to) (1 - side) n to = true := by
  obtain ⟨h1, h2, h3, h4⟩ := gcan_ok h
  obtain ⟨g1, _⟩ := gcan_parts h
  rw [bAt_bytes] at g1
  rw [guarded_form h1 ⟨h2.lo, h2.hi, trivial⟩ ⟨h3.lo, h3.hi, trivial⟩ (by rw [g1]; exact h), g1, List.any_eq_true]
  constructor
  · rintro ⟨n, _, hn⟩; simp only [Bool.and_eq_true] at hn; exact ⟨n, hn.2⟩
  · rintro ⟨n, hn⟩
    obtain ⟨q1, q2, _, _⟩ := gcan_ok hn
    have := (gcan_parts hn).1
    rw [bAt_bytes] at this
    refine ⟨n, mem_sqs.2 ⟨q2.lo, q2.hi⟩, ?_⟩
    rw [this, hn]; simp
end Go.X

namespace Go.X
open Go

structure TakeOk (p : ByteArray) (side : Int) (m : Int × Int) : Prop where
  is : spIs p = true
  fr : Sqr m.1
  to : Sqr m.2
  sd : side = 0 ∨ side = 1
  own : spSide (byteAt p m.1.toNat) = side
  other : spSide (byteAt p m.2.toNat) = 1 - side
  kind : spKind (byteAt p m.2.toNat) ≠ 75
  can : spGCan p side m.1 m.2 = true
theorem takes_ok {p : ByteArray} {side : Int} {m : Int × Int} (h : m ∈ spTakes p side) : TakeOk p side m := by
  unfold spTakes spReached at h
  rw [List.mem_filter, List.mem_flatMap] at h
  obtain ⟨⟨fr, h1, h2⟩, h3⟩ := h
  unfold spTo1 at h2
  rw [List.mem_map] at h2
  obtain ⟨to, h4, rfl⟩ := h2
  rw [List.mem_filter] at h4
  dsimp only at h3
  have ha := all_is h4.1
  have hf : Sqr fr := ⟨ha.2.1.1, ha.2.1.2⟩
  have ht : Sqr to := ⟨ha.2.2.1, ha.2.2.2⟩
  rw [pieces_canon ha.1] at h1
  unfold dPieces at h1
  split at h1
  · rename_i hs
    have hown := (List.mem_filter.1 h1).2
    rw [bAt_bytes, beq_iff_eq] at hown
    have hb := side_bd (byteAt p fr.toNat)
    have hat : spAt p fr = byteAt p fr.toNat := by unfold spAt; rw [hf.is, ha.1]; rfl
    have hall := (mem_all.1 h4.1).2.2.2
    rw [hat, hown] at hall
    have hcell := (cell_at ha.1 ht).is
    have hne : byteAt p to.toNat ≠ 46 := bneT h4.2
    have hb2 := side_bd (byteAt p to.toNat)
    have hge : 0 ≤ spSide (byteAt p to.toNat) := by
      unfold spIsCell at hcell
      rw [Bool.or_eq_true, beq_iff_eq, decide_eq_true_eq] at hcell
      rcases hcell with h | h
      · exact absurd h hne
      · exact h
    have hk : spKind (byteAt p to.toNat) ≠ 75 := by
      intro hk
      unfold spSafe at h3
      rw [if_pos hk] at h3; cases h3
    refine ⟨ha.1, hf, ht, by omega, hown, by show spSide (byteAt p to.toNat) = 1 - side; omega, hk, ?_⟩
    show spGCan p side fr to = true
    unfold spGCan
    rw [hat, hown, can_mem.2 h4.1, h3]
    simp [hs]
  · cases h1
def Lex (a b : Int × Int) : Prop := a.1 < b.1 ∨ (a.1 = b.1 ∧ a.2 < b.2)
theorem pieces_rising (p : ByteArray) (side : Int) : (spPieces p side).Pairwise (· < ·) := by
  cases hp : spIs p with
  | false => unfold spPieces; rw [set_bad hp]; exact List.Pairwise.nil
  | true =>
    rw [pieces_canon hp]
    unfold dPieces
    split
    · exact sqs_rising.filter _
    · exact List.Pairwise.nil
theorem takes_rising (p : ByteArray) (side : Int) : (spTakes p side).Pairwise Lex := by
  unfold spTakes spReached
  refine List.Pairwise.filter _ ?_
  have key : ∀ l : List Int, l.Pairwise (· < ·) → (l.flatMap (spTo1 p)).Pairwise Lex := by
    intro l
    induction l with
    | nil => intro _; exact List.Pairwise.nil
    | cons x l ih =>
      intro h
      rw [List.pairwise_cons] at h
      rw [List.flatMap_cons, List.pairwise_append]
      refine ⟨?_, ih h.2, ?_⟩
      · unfold spTo1
        rw [List.pairwise_map]
        exact ((all_rising p x).filter _).imp (fun hlt => .inr ⟨rfl, hlt⟩)
      · intro a ha b hb
        unfold spTo1 at ha
        rw [List.mem_map] at ha
        obtain ⟨y, _, rfl⟩ := ha
        rw [List.mem_flatMap] at hb
        obtain ⟨z, hz, hb⟩ := hb
        unfold spTo1 at hb
        rw [List.mem_map] at hb
        obtain ⟨u, _, rfl⟩ := hb
        exact .inl (h.1 z hz)
  exact key _ (pieces_rising p side)
theorem takes_len (p : ByteArray) (side : Int) : (spTakes p side).length ≤ 9000 := by
  rw [← outT_all]; exact outT_len p side (Nat.le_refl _)
theorem getP {l : List (Int × Int)} {i : Nat} (h : i < l.length) : l.getD i (0, 0) = l[i] := by simp [List.getD_eq_getElem?_getD, List.getElem?_eq_getElem h]
theorem takes_at {p : ByteArray} {side : Int} {i : Nat} (h : i < (spTakes p side).length) : TakeOk p side ((spTakes p side).getD i (0, 0)) := by
  rw [getP h]; exact takes_ok (List.getElem_mem h)
theorem takes_next {p : ByteArray} {side : Int} {i : Nat} (h : i < (spTakes p side).length) (h0 : 0 < i) : Lex ((spTakes p side).getD (i - 1) (0, 0)) ((spTakes p side).getD i (0, 0)) := by
  rw [getP h, getP (by omega)]
  exact List.pairwise_iff_getElem.1 (takes_rising p side) (i - 1) i (by omega) h (by omega)
end Go.X

namespace Go.X
open Go

def swp (c : Int) : Int := if spSide c = 0 then c + 32 else if spSide c = 1 then c - 32 else c
def dTurn (b : List Int) : List Int := (b.map swp).reverse
theorem swp_tab : ∀ n : Nat, n < 256 → (0 ≤ swp n ∧ swp n < 256 ∧ (spSide n = 0 → spSide (swp n) = 1) ∧ (spSide n = 1 → spSide (swp n) = 0) ∧ (spSide n = -1 → spSide (swp n) = -1) ∧ spKind (swp n) = spKind n ∧ (swp n = 46 ↔ (n : Int) = 46) ∧ swp (swp n) = n ∧ (spIsCell (n : Int) = true → spIsCell (swp n) = true)) := by decide +kernel
theorem swp_ok {c : Int} (h : BY c) : 0 ≤ swp c ∧ swp c < 256 ∧ (spSide c = 0 → spSide (swp c) = 1) ∧ (spSide c = 1 → spSide (swp c) = 0) ∧ (spSide c = -1 → spSide (swp c) = -1) ∧ spKind (swp c) = spKind c ∧ (swp c = 46 ↔ c = 46) ∧ swp (swp c) = c ∧ (spIsCell c = true → spIsCell (swp c) = true) := by
  have h1 := h.lo; have h2 := h.hi
  have := swp_tab c.toNat (by omega)
  rwa [show ((c.toNat : Nat) : Int) = c by omega] at this
theorem swp_inj {c d : Int} (h : BY c) (h' : BY d) (e : swp c = swp d) : c = d := by rw [← (swp_ok h).2.2.2.2.2.2.2.1, e, (swp_ok h').2.2.2.2.2.2.2.1]
structure BL (b : List Int) : Prop where
  len : b.length = 90
  by' : ∀ n, BY (bAt b n)
theorem turn_len {b : List Int} (h : b.length = 90) : (dTurn b).length = 90 := by unfold dTurn; rw [List.length_reverse, List.length_map]; exact h
theorem Sqr.turn {n : Int} (h : Sqr n) : Sqr (89 - n) := by have := h.lo; have := h.hi; exact ⟨by omega, by omega⟩
theorem bAt_turn {b : List Int} (h : b.length = 90) {n : Int} (hn : Sqr n) : bAt (dTurn b) n = swp (bAt b (89 - n)) := by
  have h1 := hn.lo; have h2 := hn.hi
  obtain ⟨g, e⟩ := bAt_get h hn.turn
  obtain ⟨g', e'⟩ := bAt_get (turn_len h) hn
  rw [e, e']
  have g2 : n.toNat < (b.map swp).reverse.length := g'
  show (b.map swp).reverse[n.toNat]'g2 = _
  rw [List.getElem_reverse, List.getElem_map]
  congr 2
  rw [List.length_map, h]; omega
theorem BL.turn {b : List Int} (h : BL b) : BL (dTurn b) := by
  refine ⟨turn_len h.len, fun n => ?_⟩
  by_cases hn : n.toNat < 90
  · have e : bAt (dTurn b) n = bAt (dTurn b) (n.toNat : Int) := by unfold bAt; rw [Int.toNat_natCast]
    rw [e, bAt_turn h.len ⟨by omega, by omega⟩]
    have := swp_ok (h.by' (89 - (n.toNat : Int)))
    exact ⟨this.1, this.2.1, trivial⟩
  · have : bAt (dTurn b) n = 0 := by
      unfold bAt
      rw [List.getD_eq_getElem?_getD, List.getElem?_eq_none (by rw [turn_len h.len]; omega)]; rfl
    rw [this]; exact ⟨by decide, by decide, trivial⟩
theorem side_turn {b : List Int} (h : BL b) {n s : Int} (hn : Sqr n) (hs : SD s) : (spSide (bAt (dTurn b) n) == 1 - s) = (spSide (bAt b (89 - n)) == s) := by
  rw [bAt_turn h.len hn]
  have hb := side_bd (bAt b (89 - n))
  have hw := swp_ok (h.by' (89 - n))
  rw [Bool.eq_iff_iff, beq_iff_eq, beq_iff_eq]
  have : spSide (bAt b (89 - n)) = -1 ∨ spSide (bAt b (89 - n)) = 0 ∨ spSide (bAt b (89 - n)) = 1 := by omega
  rcases hs.is with rfl | rfl <;> rcases this with e | e | e
  · have := hw.2.2.2.2.1 e; omega
  · have := hw.2.2.1 e; omega
  · have := hw.2.2.2.1 e; omega
  · have := hw.2.2.2.2.1 e; omega
  · have := hw.2.2.1 e; omega
  · have := hw.2.2.2.1 e; omega
def cntR (f : Nat → Bool) (k : Nat) : Nat := ((List.range k).filter f).length
theorem cntR_rev (f : Nat → Bool) (k : Nat) : cntR (fun i => f (k - 1 - i)) k = cntR f k := by
  unfold cntR
  have e : List.range k = ((List.range k).map fun i => k - 1 - i).reverse := by
    apply List.ext_getElem
    · simp
    · intro i h1 h2
      simp only [List.length_range] at h1
      rw [List.getElem_reverse]
      simp only [List.getElem_map, List.getElem_range, List.length_map, List.length_range]
      omega
  conv => rhs; rw [e, List.filter_reverse, List.length_reverse, List.filter_map, List.length_map]
  rfl
theorem cntR_congr {f g : Nat → Bool} {k : Nat} (h : ∀ i, i < k → f i = g i) : cntR f k = cntR g k := by
  unfold cntR
  congr 1
  exact List.filter_congr fun i hi => h i (List.mem_range.1 hi)
theorem dCount_cntR (b : List Int) (s : Int) : ∀ (k : Nat) (lo : Int), dCount b s k lo = (cntR (fun i => bAt b (lo + i * s) != 46) k : Nat) := by
  intro k
  induction k with
  | zero => intro lo; rfl
  | succ k ih =>
    intro lo
    rw [dCount, ih]
    unfold cntR
    rw [List.range_succ_eq_map]
    have e0 : lo + ((0 : Nat) : Int) * s = lo := by simp
    have e : (List.filter (fun i : Nat => bAt b (lo + i * s) != 46) ((List.range k).map Nat.succ)).length = (List.filter (fun i : Nat => bAt b (lo + s + i * s) != 46) (List.range k)).length := by
      rw [List.filter_map, List.length_map]
      congr 1
      apply List.filter_congr
      intro i _
      show (bAt b (lo + ((i + 1 : Nat) : Int) * s) != 46) = _
      rw [show ((i + 1 : Nat) : Int) = (i : Int) + 1 by omega, Int.add_mul, Int.one_mul, show lo + ((i : Int) * s + s) = lo + s + i * s by omega]
    by_cases h : bAt b lo = 46
    · rw [if_pos h, List.filter_cons_of_neg (by rw [e0]; simp [h]), e]; omega
    · rw [if_neg h, List.filter_cons_of_pos (by rw [e0]; simpa using h), List.length_cons, e]; omega
theorem count_turn {b : List Int} (h : BL b) (s : Int) (k : Nat) (lo : Int) (hq : ∀ i : Nat, i < k → Sqr (lo + i * s)) : dCount (dTurn b) s k (89 - lo - ((k : Int) - 1) * s) = dCount b s k lo := by
  rw [dCount_cntR, dCount_cntR, ← cntR_rev (fun i => bAt b (lo + i * s) != 46)]
  congr 1
  apply cntR_congr
  intro i hi
  have e : lo + ((k - 1 - i : Nat) : Int) * s = 89 - (89 - lo - ((k : Int) - 1) * s + (i : Int) * s) := by
    rw [show ((k - 1 - i : Nat) : Int) = (k : Int) - 1 - i by omega, Int.sub_mul ((k : Int) - 1) (i : Int) s]
    generalize ((k : Int) - 1) * s = x
    generalize (i : Int) * s = y
    omega
  have hs := hq (k - 1 - i) (by omega)
  have hs' : Sqr (89 - lo - ((k : Int) - 1) * s + (i : Int) * s) := by
    rw [e] at hs
    have := hs.turn
    rwa [show (89 : Int) - (89 - (89 - lo - ((k : Int) - 1) * s + (i : Int) * s)) = 89 - lo - ((k : Int) - 1) * s + (i : Int) * s by omega] at this
  rw [bAt_turn h.len hs', e, Bool.eq_iff_iff, bne_iff_ne, bne_iff_ne, Ne, Ne, (swp_ok (h.by' _)).2.2.2.2.2.2.1]
theorem between_turn {b : List Int} (h : BL b) {fr to : Int} (hf : Sqr fr) (ht : Sqr to) : dBetween (dTurn b) (89 - fr) (89 - to) = dBetween b fr to := by
  have f1 := hf.lo; have f2 := hf.hi; have t1 := ht.lo; have t2 := ht.hi
  have hmm : (imin fr to = fr ∧ imax fr to = to ∧ fr ≤ to ∧ imin (89 - fr) (89 - to) = 89 - to ∧ imax (89 - fr) (89 - to) = 89 - fr) ∨ (imin fr to = to ∧ imax fr to = fr ∧ to ≤ fr ∧ imin (89 - fr) (89 - to) = 89 - fr ∧ imax (89 - fr) (89 - to) = 89 - to) := by
    unfold imin imax; split <;> split <;> (try split) <;> (try split) <;> omega
  unfold dBetween
  by_cases he : fr = to
  · rw [if_pos he, if_pos (by omega)]
  · rw [if_neg he, if_neg (by omega)]
    by_cases hr : fr / 9 = to / 9
    · rw [if_pos hr, if_pos (by omega)]
      rcases hmm with ⟨e1, e2, e3, e4, e5⟩ | ⟨e1, e2, e3, e4, e5⟩
      · rw [e1, e2, e4, e5, show (89 - fr - (89 - to) - 1).toNat = (to - fr - 1).toNat by omega]
        have := count_turn h 1 (to - fr - 1).toNat (fr + 1) (fun i hi => ⟨by omega, by omega⟩)
        rw [← this]; congr 1; omega
      · rw [e1, e2, e4, e5, show (89 - to - (89 - fr) - 1).toNat = (fr - to - 1).toNat by omega]
        have := count_turn h 1 (fr - to - 1).toNat (to + 1) (fun i hi => ⟨by omega, by omega⟩)
        rw [← this]; congr 1; omega
    · rw [if_neg hr, if_neg (by omega)]
      by_cases hc : fr % 9 = to % 9
      · rw [if_pos hc, if_pos (by omega)]
        rcases hmm with ⟨e1, e2, e3, e4, e5⟩ | ⟨e1, e2, e3, e4, e5⟩
        · rw [e1, e2, e4, e5, show ((89 - fr - (89 - to)) / 9 - 1).toNat = ((to - fr) / 9 - 1).toNat by omega]
          have := count_turn h 9 ((to - fr) / 9 - 1).toNat (fr + 9) (fun i hi => ⟨by omega, by omega⟩)
          rw [← this]; congr 1; omega
        · rw [e1, e2, e4, e5, show ((89 - to - (89 - fr)) / 9 - 1).toNat = ((fr - to) / 9 - 1).toNat by omega]
          have := count_turn h 9 ((fr - to) / 9 - 1).toNat (to + 9) (fun i hi => ⟨by omega, by omega⟩)
          rw [← this]; congr 1; omega
      · rw [if_neg hc, if_neg (by omega)]
theorem may_tab : ∀ c ∈ letL, ∀ n : Nat, n < 90 → spMay (swp c) (89 - (n : Int)) = spMay c n := by decide +kernel
theorem let_tab : ∀ n : Nat, n < 256 → 0 ≤ spSide (n : Int) → (n : Int) ∈ letL := by decide +kernel
theorem may_turn {c n : Int} (hc : BY c) (hs : 0 ≤ spSide c) (hn : Sqr n) : spMay (swp c) (89 - n) = spMay c n := by
  have h1 := hc.lo; have h2 := hc.hi; have h3 := hn.lo; have h4 := hn.hi
  have hl := let_tab c.toNat (by omega)
  rw [show ((c.toNat : Nat) : Int) = c by omega] at hl
  have := may_tab c (hl hs) n.toNat (by omega)
  rwa [show ((n.toNat : Nat) : Int) = n by omega] at this
theorem over_tab : ∀ n : Nat, n < 90 → spOver (89 - (n : Int)) 1 = spOver n 0 ∧ spOver (89 - (n : Int)) 0 = spOver n 1 := by decide +kernel
theorem over_turn {n s : Int} (hn : Sqr n) (hs : SD s) : spOver (89 - n) (1 - s) = spOver n s := by
  have h3 := hn.lo; have h4 := hn.hi
  have := over_tab n.toNat (by omega)
  rw [show ((n.toNat : Nat) : Int) = n by omega] at this
  rcases hs.is with rfl | rfl
  · exact this.1
  · exact this.2
theorem away_turn {a b k : Int} : away (k - a) (k - b) = away a b := by unfold away; split <;> split <;> omega
theorem files {n : Int} (hn : Sqr n) : (89 - n) % 9 = 8 - n % 9 ∧ (89 - n) / 9 = 9 - n / 9 := by
  have h3 := hn.lo; have h4 := hn.hi
  omega
theorem horse_turn {b : List Int} (h : BL b) {fr to : Int} (hf : Sqr fr) (ht : Sqr to) : dHorse (dTurn b) (89 - fr) (89 - to) = dHorse b fr to := by
  have f1 := hf.lo; have f2 := hf.hi; have t1 := ht.lo; have t2 := ht.hi
  unfold dHorse
  rw [(files hf).1, (files ht).1, (files hf).2, (files ht).2, away_turn, away_turn]
  have key : ∀ n : Int, Sqr n → (bAt (dTurn b) (89 - n) == 46) = (bAt b n == 46) := fun n hn => by
    rw [bAt_turn h.len hn.turn, show 89 - (89 - n) = n by omega, Bool.eq_iff_iff, beq_iff_eq, beq_iff_eq, (swp_ok (h.by' _)).2.2.2.2.2.2.1]
  by_cases h1 : away (fr % 9) (to % 9) = 1 ∧ away (fr / 9) (to / 9) = 2
  · rw [if_pos h1, if_pos h1]
    simp only [away1, away2] at h1
    by_cases h2 : to / 9 > fr / 9
    · rw [if_pos h2, if_neg (by omega), show 89 - fr - 9 = 89 - (fr + 9) by omega, key _ ⟨by omega, by omega⟩]
    · rw [if_neg h2, if_pos (by omega), show 89 - fr + 9 = 89 - (fr - 9) by omega, key _ ⟨by omega, by omega⟩]
  · rw [if_neg h1, if_neg h1]
    by_cases h1 : away (fr % 9) (to % 9) = 2 ∧ away (fr / 9) (to / 9) = 1
    · rw [if_pos h1, if_pos h1]
      simp only [away1, away2] at h1
      by_cases h2 : to % 9 > fr % 9
      · rw [if_pos h2, if_neg (by omega), show 89 - fr - 1 = 89 - (fr + 1) by omega, key _ ⟨by omega, by omega⟩]
      · rw [if_neg h2, if_pos (by omega), show 89 - fr + 1 = 89 - (fr - 1) by omega, key _ ⟨by omega, by omega⟩]
    · rw [if_neg h1, if_neg h1]
theorem pawn_turn {s fr to : Int} (hf : Sqr fr) (ht : Sqr to) (hs : SD s) : dPawnCan (1 - s) (89 - fr) (89 - to) = dPawnCan s fr to := by
  unfold dPawnCan
  rw [over_turn hf hs, (files hf).2, (files ht).2, away_turn]
  have e1 : (89 - to == 89 - fr + if 1 - s = 1 then -9 else 9) = (to == fr + if s = 1 then -9 else 9) := by
    rw [Bool.eq_iff_iff, beq_iff_eq, beq_iff_eq]
    rcases hs.is with rfl | rfl
    · rw [if_pos (by decide), if_neg (by decide)]; omega
    · rw [if_neg (by decide), if_pos (by decide)]; omega
  have e2 : ((9 : Int) - fr / 9 == 9 - to / 9) = (fr / 9 == to / 9) := by rw [Bool.eq_iff_iff, beq_iff_eq, beq_iff_eq]; omega
  rw [e1, e2]
theorem dot_turn {b : List Int} (h : BL b) {n : Int} (hn : Sqr n) : (bAt (dTurn b) (89 - n) = 46) ↔ bAt b n = 46 := by
  rw [bAt_turn h.len hn.turn, show 89 - (89 - n) = n by omega, (swp_ok (h.by' _)).2.2.2.2.2.2.1]
theorem reach_turn {b : List Int} (h : BL b) {pc fr to : Int} (hp : BY pc) (hs : 0 ≤ spSide pc) (hf : Sqr fr) (ht : Sqr to) : dReach (dTurn b) (swp pc) (89 - fr) (89 - to) = dReach b pc fr to := by
  have f1 := hf.lo; have f2 := hf.hi; have t1 := ht.lo; have t2 := ht.hi
  have hw := swp_ok hp
  have hsd := side_bd pc
  have hside : spSide (swp pc) = 1 - spSide pc := by
    have : spSide pc = 0 ∨ spSide pc = 1 := by omega
    rcases this with e | e
    · rw [hw.2.2.1 e, e]; rfl
    · rw [hw.2.2.2.1 e, e]; rfl
  unfold dReach
  rw [hw.2.2.2.2.2.1, (files hf).1, (files ht).1, (files hf).2, (files ht).2, away_turn, away_turn, may_turn hp hs ht, horse_turn h hf ht, between_turn h hf ht, hside, pawn_turn hf ht ⟨by omega, trivial, trivial⟩]
  have hd := dot_turn h ht
  have e1 : (bAt (dTurn b) (89 - to) == 46) = (bAt b to == 46) := by rw [Bool.eq_iff_iff, beq_iff_eq, beq_iff_eq]; exact hd
  have e2 : (bAt (dTurn b) (89 - to) != 46) = (bAt b to != 46) := by rw [bne, bne, e1]
  rw [e1, e2]
  by_cases hk : spKind pc = 66
  · rw [if_neg (by omega), if_neg (by omega), if_pos hk, if_neg (by omega), if_neg (by omega), if_pos hk]
    by_cases hq : (away (fr % 9) (to % 9) == 2) = true ∧ (away (fr / 9) (to / 9) == 2) = true
    · have q1 := away2.1 (beqT hq.1); have q2 := away2.1 (beqT hq.2)
      have hm : Sqr ((fr + to) / 2) := ⟨by omega, by omega⟩
      have e3 : (89 - fr + (89 - to)) / 2 = 89 - (fr + to) / 2 := by omega
      rw [e3]
      congr 1
      rw [Bool.eq_iff_iff, beq_iff_eq, beq_iff_eq]; exact dot_turn h hm
    · have : ((away (fr % 9) (to % 9) == 2) && (away (fr / 9) (to / 9) == 2)) = false := by
        cases h1 : (away (fr % 9) (to % 9) == 2) <;> cases h2 : (away (fr / 9) (to / 9) == 2) <;> simp_all
      rw [this]; simp
  · simp only [if_neg hk]
theorem fast_turn {b : List Int} (h : BL b) {fr to : Int} (hf : Sqr fr) (ht : Sqr to) : dFast (dTurn b) (89 - fr) (89 - to) = dFast b fr to := by
  unfold dFast
  rw [bAt_turn h.len hf.turn, bAt_turn h.len ht.turn, show 89 - (89 - fr) = fr by omega, show 89 - (89 - to) = to by omega]
  have hw := swp_ok (h.by' fr); have hw' := swp_ok (h.by' to)
  have hb := side_bd (bAt b fr); have hb' := side_bd (bAt b to)
  by_cases hs : 0 ≤ spSide (bAt b fr)
  · rw [reach_turn h (h.by' fr) hs hf ht]
    have c1 : spSide (bAt b fr) = 0 ∨ spSide (bAt b fr) = 1 := by omega
    have c2 : spSide (bAt b to) = -1 ∨ spSide (bAt b to) = 0 ∨ spSide (bAt b to) = 1 := by omega
    congr 1
    rcases c1 with e | e <;> rcases c2 with e' | e' | e'
    · rw [e, e', hw.2.2.1 e, hw'.2.2.2.2.1 e']; rfl
    · rw [e, e', hw.2.2.1 e, hw'.2.2.1 e']; rfl
    · rw [e, e', hw.2.2.1 e, hw'.2.2.2.1 e']; rfl
    · rw [e, e', hw.2.2.2.1 e, hw'.2.2.2.2.1 e']; rfl
    · rw [e, e', hw.2.2.2.1 e, hw'.2.2.1 e']; rfl
    · rw [e, e', hw.2.2.2.1 e, hw'.2.2.2.1 e']; rfl
  · have : spSide (bAt b fr) = -1 := by omega
    rw [hw.2.2.2.2.1 this, this]; rfl
end Go.X

namespace Go.X
open Go

theorem ext_bAt {b c : List Int} (hb : b.length = 90) (hc : c.length = 90) (h : ∀ n, Sqr n → bAt b n = bAt c n) : b = c := by
  rw [← bAt_list hb, ← bAt_list hc]
  exact List.map_congr_left fun n hn => h n ⟨(mem_sqs.1 hn).1, (mem_sqs.1 hn).2⟩
theorem turn_turn {b : List Int} (h : BL b) : dTurn (dTurn b) = b := by
  refine ext_bAt (turn_len (turn_len h.len)) h.len fun n hn => ?_
  rw [bAt_turn (turn_len h.len) hn, bAt_turn h.len hn.turn, show 89 - (89 - n) = n by omega, (swp_ok (h.by' n)).2.2.2.2.2.2.2.1]
theorem sqs_turn : sqs = (sqs.reverse).map (89 - ·) := by decide
theorem filter_turn (f : Int → Bool) : sqs.filter (fun n => f (89 - n)) = ((sqs.filter f).reverse).map (89 - ·) := by
  have e : sqs.filter (fun n => f (89 - n)) = ((sqs.reverse).map (89 - ·)).filter (fun n => f (89 - n)) := by rw [← sqs_turn]
  rw [e, List.filter_map, ← List.filter_reverse]
  congr 2
  funext n
  show f (89 - (89 - n)) = f n
  rw [show 89 - (89 - n) = n by omega]
theorem filter_turn' {f g : Int → Bool} (h : ∀ n, Sqr n → g n = f (89 - n)) : sqs.filter g = ((sqs.filter f).reverse).map (89 - ·) := by
  rw [← filter_turn]
  exact List.filter_congr fun n hn => h n ⟨(mem_sqs.1 hn).1, (mem_sqs.1 hn).2⟩
structure OneG (b : List Int) : Prop where
  red : dCnt b 75 ≤ 1
  black : dCnt b 107 ≤ 1
def kOf (s : Int) : Int := if s = 0 then 75 else 107
theorem kOf_by (s : Int) : BY (kOf s) := by unfold kOf; split <;> exact ⟨by decide, by decide, trivial⟩
theorem kOf_swp {s : Int} (h : SD s) : swp (kOf s) = kOf (1 - s) := by rcases h.is with rfl | rfl <;> decide
theorem OneG.of {b : List Int} (h : OneG b) (s : Int) : dCnt b (kOf s) ≤ 1 := by unfold kOf; split; exact h.red; exact h.black
theorem OneG.turn {b : List Int} (h : BL b) (hu : OneG b) : OneG (dTurn b) := by
  have key : ∀ s, SD s → dCnt (dTurn b) (kOf (1 - s)) = dCnt b (kOf s) := fun s hs => by
    unfold dCnt
    rw [filter_turn' (f := fun n => bAt b n == kOf s), List.length_map, List.length_reverse]
    intro n hn
    rw [bAt_turn h.len hn, ← kOf_swp hs, Bool.eq_iff_iff, beq_iff_eq, beq_iff_eq]
    exact ⟨fun e => swp_inj (h.by' _) (kOf_by s) e, fun e => by rw [e]⟩
  refine ⟨?_, ?_⟩
  · have := key 1 ⟨.inr rfl, trivial, trivial⟩
    rw [show dCnt (dTurn b) 75 = dCnt (dTurn b) (kOf (1 - 1)) from rfl, this]; exact hu.black
  · have := key 0 ⟨.inl rfl, trivial, trivial⟩
    rw [show dCnt (dTurn b) 107 = dCnt (dTurn b) (kOf (1 - 0)) from rfl, this]; exact hu.red
theorem general_def {b : List Int} {s : Int} (h : SD s) : dGeneral b s = (sqs.filter fun n => bAt b n == kOf s).headD (-1) := by
  unfold dGeneral kOf; rw [if_pos h.is]
theorem general_turn {b : List Int} (h : BL b) (hu : OneG b) {s : Int} (hs : SD s) : (dGeneral b s = -1 ∧ dGeneral (dTurn b) (1 - s) = -1) ∨ ∃ g, Sqr g ∧ dGeneral b s = g ∧ dGeneral (dTurn b) (1 - s) = 89 - g := by
  have hl := hu.of s
  unfold dCnt at hl
  have e : (sqs.filter fun n => bAt (dTurn b) n == kOf (1 - s)) = ((sqs.filter fun n => bAt b n == kOf s).reverse).map (89 - ·) := by
    refine filter_turn' (f := fun n => bAt b n == kOf s) fun n hn => ?_
    rw [bAt_turn h.len hn, ← kOf_swp hs, Bool.eq_iff_iff, beq_iff_eq, beq_iff_eq]
    exact ⟨fun e => swp_inj (h.by' _) (kOf_by s) e, fun e => by rw [e]⟩
  rw [general_def hs, general_def hs.turn, e]
  generalize hL : (sqs.filter fun n => bAt b n == kOf s) = L at hl
  cases L with
  | nil => left; exact ⟨rfl, rfl⟩
  | cons g L =>
    cases L with
    | cons x L => simp only [List.length_cons] at hl; omega
    | nil =>
      right
      have hg : g ∈ sqs.filter fun n => bAt b n == kOf s := by rw [hL]; simp
      have := mem_sqs.1 (List.mem_filter.1 hg).1
      exact ⟨g, ⟨this.1, this.2⟩, rfl, rfl⟩
theorem set_turn {b : List Int} (h : BL b) {n c : Int} (hn : Sqr n) : dTurn (b.set n.toNat c) = (dTurn b).set (89 - n).toNat (swp c) := by
  have hl : (b.set n.toNat c).length = 90 := by rw [List.length_set]; exact h.len
  refine ext_bAt (turn_len hl) (by rw [List.length_set]; exact turn_len h.len) fun m hm => ?_
  rw [bAt_turn hl hm, bAt_set h.len hn hm.turn.lo, bAt_set (turn_len h.len) hn.turn hm.lo, bAt_turn h.len hm]
  by_cases e : m = 89 - n
  · rw [if_pos e, if_pos (by omega)]
  · rw [if_neg e, if_neg (by omega)]
theorem BL.set {b : List Int} (h : BL b) {n c : Int} (hn : Sqr n) (hc : BY c) : BL (b.set n.toNat c) := by
  refine ⟨by rw [List.length_set]; exact h.len, fun m => ?_⟩
  have e : bAt (b.set n.toNat c) m = bAt (b.set n.toNat c) (m.toNat : Int) := by unfold bAt; rw [Int.toNat_natCast]
  rw [e, bAt_set h.len hn (by omega)]
  split
  · exact hc
  · exact h.by' _
def pOf (s : Int) : Int := if s = 0 then 112 else 80
theorem pOf_swp {s : Int} (h : SD s) : swp (pOf s) = pOf (1 - s) := by rcases h.is with rfl | rfl <;> decide
theorem pOf_by (s : Int) : BY (pOf s) := by unfold pOf; split <;> exact ⟨by decide, by decide, trivial⟩
theorem att_def {b : List Int} {n s : Int} (h : SD s) : dAttackers b n s = sqs.filter fun fr => (spSide (bAt (b.set n.toNat (pOf s)) fr) == s) && dFast (b.set n.toNat (pOf s)) fr n := by
  unfold dAttackers pOf; rw [if_pos h.is]
theorem att_turn {b : List Int} (h : BL b) {n s : Int} (hn : Sqr n) (hs : SD s) : dAttackers (dTurn b) (89 - n) (1 - s) = ((dAttackers b n s).reverse).map (89 - ·) := by
  have hb := h.set hn (pOf_by s)
  rw [att_def hs, att_def hs.turn, ← pOf_swp hs, ← set_turn h hn]
  refine filter_turn' (f := fun fr => (spSide (bAt (b.set n.toNat (pOf s)) fr) == s) && dFast (b.set n.toNat (pOf s)) fr n) fun fr hfr => ?_
  rw [side_turn hb hfr hs]
  have := fast_turn hb hfr.turn hn
  rw [show 89 - (89 - fr) = fr by omega] at this
  rw [this]
theorem in_turn {b : List Int} (h : BL b) (hu : OneG b) {s : Int} (hs : SD s) : dIn (dTurn b) (1 - s) = dIn b s := by
  unfold dIn
  rcases general_turn h hu hs with ⟨e1, e2⟩ | ⟨g, hg, e1, e2⟩
  · rw [e1, e2]; rfl
  · rw [e1, e2, att_turn h hg hs.turn, decide_eq_true hg.lo, decide_eq_true hg.turn.lo]
    congr 2
    cases dAttackers b g (1 - s) <;> simp
theorem between_comm (b : List Int) (x y : Int) : dBetween b x y = dBetween b y x := by
  have e1 : imin x y = imin y x := by unfold imin; split <;> split <;> omega
  have e2 : imax x y = imax y x := by unfold imax; split <;> split <;> omega
  unfold dBetween
  rw [e1, e2]
  by_cases h : x = y
  · rw [if_pos h, if_pos h.symm]
  · rw [if_neg h, if_neg (show ¬ y = x from fun e => h e.symm)]
    by_cases h : x / 9 = y / 9
    · rw [if_pos h, if_pos h.symm]
    · rw [if_neg h, if_neg (show ¬ y / 9 = x / 9 from fun e => h e.symm)]
      by_cases h : x % 9 = y % 9
      · rw [if_pos h, if_pos h.symm]
      · rw [if_neg h, if_neg (show ¬ y % 9 = x % 9 from fun e => h e.symm)]
theorem facing_turn {b : List Int} (h : BL b) (hu : OneG b) : dFacing (dTurn b) = dFacing b := by
  have h0 := general_turn h hu (s := 0) ⟨.inl rfl, trivial, trivial⟩
  have h1 := general_turn h hu (s := 1) ⟨.inr rfl, trivial, trivial⟩
  rw [show (1 : Int) - 0 = 1 from rfl] at h0
  rw [show (1 : Int) - 1 = 0 from rfl] at h1
  unfold dFacing
  rcases h0 with ⟨e1, e2⟩ | ⟨g, hg, e1, e2⟩
  · rw [e1, e2]; simp
  · rcases h1 with ⟨e3, e4⟩ | ⟨k, hk, e3, e4⟩
    · rw [e3, e4]; simp
    · rw [e1, e2, e3, e4, between_turn h hk hg, between_comm, decide_eq_true hg.lo, decide_eq_true hg.turn.lo, decide_eq_true hk.lo, decide_eq_true hk.turn.lo, (files hg).1, (files hk).1]
      congr 2
      rw [Bool.eq_iff_iff, beq_iff_eq, beq_iff_eq]; omega
theorem BL.moved {b : List Int} (h : BL b) {fr to : Int} (hf : Sqr fr) (ht : Sqr to) : BL (dMoved b fr to) := (h.set ht (h.by' fr)).set hf ⟨by decide, by decide, trivial⟩
theorem moved_turn {b : List Int} (h : BL b) {fr to : Int} (hf : Sqr fr) (ht : Sqr to) : dMoved (dTurn b) (89 - fr) (89 - to) = dTurn (dMoved b fr to) := by
  unfold dMoved
  rw [set_turn (h.set ht (h.by' fr)) hf, set_turn h ht, bAt_turn h.len hf.turn, show 89 - (89 - fr) = fr by omega]
  rfl
theorem OneG.moved {b : List Int} (h : BL b) (hu : OneG b) {fr to : Int} (hf : Sqr fr) (ht : Sqr to) (hne : to ≠ fr) : OneG (dMoved b fr to) := by
  refine ⟨?_, ?_⟩
  · rw [cnt_moved h.len hf ht hne (by decide)]; have := hu.red; split <;> omega
  · rw [cnt_moved h.len hf ht hne (by decide)]; have := hu.black; split <;> omega
theorem can_turn {b : List Int} (h : BL b) (hu : OneG b) {s fr to : Int} (hf : Sqr fr) (ht : Sqr to) (hs : SD s) : dCan (dTurn b) (1 - s) (89 - fr) (89 - to) = dCan b s fr to := by
  unfold dCan
  rw [fast_turn h hf ht]
  cases hq : dFast b fr to with
  | false => simp
  | true =>
    have hne := (fast_ne hq).1
    have hm := h.moved hf ht
    have hum := hu.moved h hf ht hne
    have := side_turn h hf.turn hs
    rw [show 89 - (89 - fr) = fr by omega] at this
    rw [this]
    unfold dSafe' dSafeB
    rw [moved_turn h hf ht, facing_turn hm hum, in_turn hm hum hs, bAt_turn h.len ht.turn, show 89 - (89 - to) = to by omega, (swp_ok (h.by' to)).2.2.2.2.2.1]
    rcases hs.is with rfl | rfl <;> rfl
theorem side_turned {b : List Int} (h : BL b) {fr : Int} (hf : Sqr fr) (hs : SD (spSide (bAt b fr))) : spSide (bAt (dTurn b) (89 - fr)) = 1 - spSide (bAt b fr) := by
  have := side_turn h hf.turn hs
  rw [show 89 - (89 - fr) = fr by omega, beq_self_eq_true] at this
  exact beqT this
theorem guarded_turn {b : List Int} (h : BL b) (hu : OneG b) {fr to : Int} (hf : Sqr fr) (ht : Sqr to) : dGuarded (dTurn b) (89 - fr) (89 - to) = dGuarded b fr to := by
  by_cases hs : SD (spSide (bAt b fr))
  · unfold dGuarded
    rw [side_turned h hf hs, can_turn h hu hf ht hs]
    cases hq : dCan b (spSide (bAt b fr)) fr to with
    | false => simp
    | true =>
      rw [Bool.true_and, Bool.true_and, moved_turn h hf ht]
      have hne := (fast_ne (by unfold dCan at hq; simp only [Bool.and_eq_true] at hq; exact hq.1.2 : dFast b fr to = true)).1
      have hm := h.moved hf ht
      have hum := hu.moved h hf ht hne
      rw [Bool.eq_iff_iff, List.any_eq_true, List.any_eq_true]
      have key : ∀ n, Sqr n → ((spSide (bAt (dTurn (dMoved b fr to)) (89 - n)) == 1 - (1 - spSide (bAt b fr))) && dCan (dTurn (dMoved b fr to)) (1 - (1 - spSide (bAt b fr))) (89 - n) (89 - to)) = ((spSide (bAt (dMoved b fr to) n) == 1 - spSide (bAt b fr)) && dCan (dMoved b fr to) (1 - spSide (bAt b fr)) n to) := fun n hn => by
        have e := side_turn hm hn.turn hs.turn
        rw [show 89 - (89 - n) = n by omega] at e
        rw [e, can_turn hm hum hn ht hs.turn]
      constructor
      · rintro ⟨n, hn, e⟩
        have hn' : Sqr n := ⟨(mem_sqs.1 hn).1, (mem_sqs.1 hn).2⟩
        refine ⟨89 - n, mem_sqs.2 ⟨hn'.turn.lo, hn'.turn.hi⟩, ?_⟩
        rw [← key _ hn'.turn, show 89 - (89 - n) = n by omega]; exact e
      · rintro ⟨n, hn, e⟩
        have hn' : Sqr n := ⟨(mem_sqs.1 hn).1, (mem_sqs.1 hn).2⟩
        refine ⟨89 - n, mem_sqs.2 ⟨hn'.turn.lo, hn'.turn.hi⟩, ?_⟩
        rw [key _ hn']; exact e
  · have hb := side_bd (bAt b fr)
    have hm1 : spSide (bAt b fr) = -1 := by
      refine Classical.byContradiction fun e => hs ⟨by omega, trivial, trivial⟩
    have hm2 : spSide (bAt (dTurn b) (89 - fr)) = -1 := by
      rw [bAt_turn h.len hf.turn, show 89 - (89 - fr) = fr by omega]; exact (swp_ok (h.by' fr)).2.2.2.2.1 hm1
    unfold dGuarded dCan
    rw [hm1, hm2]; rfl
def rTurn (p : ByteArray) : ByteArray := if spIs p then bytesOf (dTurn (bytesL p)) else ByteArray.empty
theorem bl_bytes {p : ByteArray} (hp : spIs p = true) : BL (bytesL p) := ⟨(bytesL_len p).trans (spIs_size hp), bAt_by p⟩
theorem rTurn_is {p : ByteArray} (hp : spIs p = true) : spIs (rTurn p) = true ∧ bytesL (rTurn p) = dTurn (bytesL p) := by
  have hb := bl_bytes hp
  have e : bytesL (bytesOf (dTurn (bytesL p))) = dTurn (bytesL p) := bytesL_of fun x hx => by
    unfold dTurn at hx
    rw [List.mem_reverse, List.mem_map] at hx
    obtain ⟨y, hy, rfl⟩ := hx
    have h := bytesL_bound p y hy
    have := swp_ok (c := y) ⟨h.1, h.2, trivial⟩
    exact ⟨this.1, this.2.1⟩
  have hq : rTurn p = bytesOf (dTurn (bytesL p)) := by unfold rTurn; rw [if_pos hp]
  rw [hq]
  refine ⟨is_iff.2 ⟨(size_bytesOf _).trans (turn_len hb.len), fun n hn => ?_⟩, e⟩
  have h1 := bAt_turn hb.len (n := n) ⟨by omega, by omega⟩
  have h2 := bAt_bytes (bytesOf (dTurn (bytesL p))) (n : Int)
  rw [e, Int.toNat_natCast] at h2
  rw [← h2, h1]
  have hc := (is_iff.1 hp).2 (89 - n) (by omega)
  refine (swp_ok (hb.by' _)).2.2.2.2.2.2.2.2 ?_
  rw [bAt_bytes, show (89 - (n : Int)).toNat = 89 - n by omega]; exact hc
theorem gcan_turn {p : ByteArray} (hp : spIs p = true) (hu : OneG (bytesL p)) {s fr to : Int} (hf : Sqr fr) (ht : Sqr to) (hs : SD s) : spGCan (rTurn p) (1 - s) (89 - fr) (89 - to) = spGCan p s fr to := by
  obtain ⟨h1, h2⟩ := rTurn_is hp
  rw [gcan_canon h1 hf.turn ht.turn, gcan_canon hp hf ht, h2, can_turn (bl_bytes hp) hu hf ht hs]
theorem spGuarded_turn {p : ByteArray} (hp : spIs p = true) (hu : OneG (bytesL p)) {fr to : Int} (hf : Sqr fr) (ht : Sqr to) : spGuarded (rTurn p) (89 - fr) (89 - to) = spGuarded p fr to := by
  obtain ⟨h1, h2⟩ := rTurn_is hp
  rw [guarded_canon h1 hf.turn ht.turn, guarded_canon hp hf ht, h2, guarded_turn (bl_bytes hp) hu hf ht]
theorem lex_eq : ∀ {l m : List (Int × Int)}, l.Pairwise Lex → m.Pairwise Lex → (∀ x, x ∈ l ↔ x ∈ m) → l = m := by
  have irr : ∀ x y : Int × Int, Lex x y → Lex y x → False := fun x y h h' => by unfold Lex at h h'; omega
  intro l
  induction l with
  | nil =>
    intro m _ _ h
    cases m with
    | nil => rfl
    | cons y m => exact absurd ((h y).2 (by simp)) (by simp)
  | cons x l ih =>
    intro m hl hm h
    cases m with
    | nil => exact absurd ((h x).1 (by simp)) (by simp)
    | cons y m =>
      rw [List.pairwise_cons] at hl hm
      have hxy : x = y := by
        have h1 := (h x).1 (by simp)
        have h2 := (h y).2 (by simp)
        rw [List.mem_cons] at h1 h2
        rcases h1 with h1 | h1
        · exact h1
        · rcases h2 with h2 | h2
          · exact h2.symm
          · exact (irr x y (hl.1 y h2) (hm.1 x h1)).elim
      subst hxy
      congr 1
      refine ih hl.2 hm.2 (fun z => ?_)
      have := h z
      rw [List.mem_cons, List.mem_cons] at this
      constructor
      · intro hz
        rcases this.1 (.inr hz) with e | e
        · subst e; exact (irr z z (hl.1 z hz) (hl.1 z hz)).elim
        · exact e
      · intro hz
        rcases this.2 (.inr hz) with e | e
        · subst e; exact (irr z z (hm.1 z hz) (hm.1 z hz)).elim
        · exact e
theorem takes_mem {p : ByteArray} {s : Int} (hp : spIs p = true) (hs : SD s) {m : Int × Int} : m ∈ spTakes p s ↔ spGCan p s m.1 m.2 = true ∧ bAt (bytesL p) m.2 ≠ 46 := by
  rw [← takes_of hp hs.is, List.mem_filter, rOf_mem hp hs.is, bne_iff_ne]
def mvT (m : Int × Int) : Int × Int := (89 - m.1, 89 - m.2)
theorem takes_turn {p : ByteArray} {s : Int} (hp : spIs p = true) (hu : OneG (bytesL p)) (hs : SD s) : spTakes (rTurn p) (1 - s) = ((spTakes p s).reverse).map mvT := by
  obtain ⟨h1, h2⟩ := rTurn_is hp
  refine lex_eq (takes_rising _ _) ?_ fun m => ?_
  · rw [List.pairwise_map, List.pairwise_reverse]
    refine (takes_rising p s).imp fun {a b} h => ?_
    unfold Lex at h ⊢
    unfold mvT
    dsimp only
    omega
  · rw [takes_mem h1 hs.turn, List.mem_map]
    constructor
    · rintro ⟨e1, e2⟩
      obtain ⟨_, q1, q2, _⟩ := gcan_ok e1
      refine ⟨(89 - m.1, 89 - m.2), ?_, by unfold mvT; dsimp only; rw [show 89 - (89 - m.1) = m.1 by omega, show 89 - (89 - m.2) = m.2 by omega]⟩
      rw [List.mem_reverse, takes_mem hp hs]
      have := gcan_turn hp hu q1.turn q2.turn hs
      rw [show 89 - (89 - m.1) = m.1 by omega, show 89 - (89 - m.2) = m.2 by omega] at this
      refine ⟨by rw [← this]; exact e1, fun e => e2 ?_⟩
      have := (dot_turn (bl_bytes hp) q2.turn).2 e
      rw [show 89 - (89 - m.2) = m.2 by omega] at this
      rw [h2]; exact this
    · rintro ⟨k, hk, rfl⟩
      rw [List.mem_reverse, takes_mem hp hs] at hk
      obtain ⟨_, q1, q2, _⟩ := gcan_ok hk.1
      unfold mvT
      dsimp only
      refine ⟨by rw [gcan_turn hp hu q1 q2 hs]; exact hk.1, fun e => hk.2 ?_⟩
      rw [h2] at e
      exact (dot_turn (bl_bytes hp) q2).1 e
theorem empty_is : spIs ByteArray.empty = false := by
  cases h : spIs ByteArray.empty with
  | false => rfl
  | true => have := spIs_size h; cases this
theorem rTurn_bad {p : ByteArray} (hp : spIs p = false) : rTurn p = ByteArray.empty := by unfold rTurn; rw [if_neg (by rw [hp]; exact Bool.noConfusion)]
theorem takes_turn0 {p : ByteArray} (hu : spIs p = true → OneG (bytesL p)) : spTakes (rTurn p) 1 = ((spTakes p 0).reverse).map mvT := by
  cases hp : spIs p with
  | true =>
    have h := takes_turn hp (hu hp) ⟨.inl rfl, trivial, trivial⟩
    rw [show (1 : Int) - 0 = 1 from rfl] at h
    exact h
  | false => rw [takes_bad hp, rTurn_bad hp, takes_bad empty_is]; rfl
end Go.X

namespace Go.X
open Go

theorem pArg_eq {p : ByteArray} {side clock full : Int} : (!spIs p || ((side != 0) && (side != 1)) || decide (clock < 0) || decide (clock > 120) || decide (full < 1) || decide (full > 9999)) = rArg p side clock full := by
  have e : ((side != 0) && (side != 1)) = (decide (side < 0) || decide (side > 1)) := by
    rw [Bool.eq_iff_iff]; simp only [Bool.and_eq_true, bne_iff_ne, Bool.or_eq_true, decide_eq_true_eq]; omega
  unfold rArg
  rw [e]
  simp only [Bool.or_assoc]
theorem pArg_t {p : ByteArray} {side clock full : Int} (h : (!spIs p || ((side != 0) && (side != 1)) || decide (clock < 0) || decide (clock > 120) || decide (full < 1) || decide (full > 9999)) = true) : rArg p side clock full = true := pArg_eq ▸ h
theorem pArg_f {p : ByteArray} {side clock full : Int} (h : (!spIs p || ((side != 0) && (side != 1)) || decide (clock < 0) || decide (clock > 120) || decide (full < 1) || decide (full > 9999)) = false) : rArg p side clock full = false := pArg_eq ▸ h
def cntT (b : List Int) (i : Nat) : List Int := (List.range 256).map fun c : Nat => (((b.take i).count (c : Int) : Nat) : Int)
theorem cntT_len (b : List Int) (i : Nat) : (cntT b i).length = 256 := by simp [cntT]
theorem cntT_zero (b : List Int) : cntT b 0 = List.replicate 256 0 := by
  unfold cntT
  simp only [List.take_zero, List.count_nil]
  rw [List.map_const', List.length_range]; rfl
theorem cntT_get (b : List Int) (i : Nat) {c : Int} (hc : BY c) : (cntT b i).getD c.toNat 0 = (((b.take i).count c : Nat) : Int) := by
  have h1 := hc.lo; have h2 := hc.hi
  unfold cntT
  rw [List.getD_eq_getElem?_getD, List.getElem?_map, List.getElem?_range (by omega)]
  show (((b.take i).count ((c.toNat : Nat) : Int) : Nat) : Int) = _
  rw [show ((c.toNat : Nat) : Int) = c by omega]
set_option maxRecDepth 10000 in
theorem cntT_next {b : List Int} {i : Nat} (h : i < b.length) (hc : BY (b.getD i 0)) : cntT b (i + 1) = (cntT b i).set (b.getD i 0).toNat ((cntT b i).getD (b.getD i 0).toNat 0 + 1) := by
  have h1 := hc.lo; have h2 := hc.hi
  have e : b.getD i 0 = b[i] := by rw [List.getD_eq_getElem?_getD, List.getElem?_eq_getElem h]; rfl
  obtain ⟨x, hx⟩ : ∃ x, (cntT b i).getD (b.getD i 0).toNat 0 = x := ⟨_, rfl⟩
  rw [hx]
  rw [cntT_get b i hc] at hx
  refine List.ext_getElem (by rw [List.length_set, cntT_len, cntT_len]) fun k hk1 hk2 => ?_
  have hk : k < 256 := by rw [cntT_len] at hk1; exact hk1
  subst hx
  have el : ∀ j (hj : k < (cntT b j).length), (cntT b j)[k] = (((b.take j).count (k : Int) : Nat) : Int) := fun j hj => by
    have := cntT_get b j (c := (k : Int)) ⟨by omega, by omega, trivial⟩
    rw [List.getD_eq_getElem?_getD, Int.toNat_natCast, List.getElem?_eq_getElem hj] at this
    exact this
  rw [List.getElem_set, el, el, List.take_succ_eq_append_getElem h, List.count_append, List.count_singleton, ← e]
  by_cases hkc : (b.getD i 0).toNat = k
  · rw [if_pos hkc, show ((k : Nat) : Int) = b.getD i 0 by omega]; simp
  · rw [if_neg hkc, if_neg (by rw [beq_iff_eq]; omega)]; simp
theorem cntT_all {b : List Int} (hb : b.length = 90) {c : Int} (hc : BY c) : (cntT b 90).getD c.toNat 0 = dCnt b c := by
  rw [cntT_get b 90 hc, List.take_of_length_le (by omega), dCnt_count hb]
theorem cntT_bd (b : List Int) (i : Nat) (h : b.length = 90) {c : Int} (hc : BY c) : 0 ≤ (cntT b i).getD c.toNat 0 ∧ (cntT b i).getD c.toNat 0 ≤ 90 := by
  rw [cntT_get b i hc]
  have := List.count_le_length (a := c) (l := b.take i)
  rw [List.length_take] at this
  omega
def rightTo (b : List Int) (i : Nat) : Bool := !((List.range i).any fun k => dBadP b (Int.ofNat k))
theorem rightTo_next (b : List Int) (i : Nat) : rightTo b (i + 1) = (rightTo b i && ((bAt b (Int.ofNat i) == 46) || spMay (bAt b (Int.ofNat i)) (Int.ofNat i))) := by
  unfold rightTo
  rw [List.range_succ, List.any_append, Bool.not_or]
  congr 1
  simp only [List.any_cons, List.any_nil, Bool.or_false, dBadP, Bool.not_and, Bool.not_not]
  unfold bne
  rw [Bool.not_not]
theorem rightTo_all (b : List Int) : rightTo b 90 = !(sqs.any (dBadP b)) := by
  unfold rightTo sqs; rw [List.any_map]; rfl
theorem letL_by : ∀ i, i < 14 → BY (letL.getD i 0) := fun i hi => by
  have : ∀ i, i < 14 → 0 ≤ letL.getD i 0 ∧ letL.getD i 0 < 256 := by decide
  exact ⟨(this i hi).1, (this i hi).2, trivial⟩
theorem rightTo_zero (b : List Int) : rightTo b 0 = true := rfl
end Go.X

namespace Go.X
open Go
structure WL (p : ByteArray) (side clock full : Int) : Prop where
  is : rWell p side clock full = 0
  u : True
  v : True
theorem or_l {a c : Bool} (h : (!a) = false) : (a || c) = true := by cases a <;> simp_all
theorem or_r {a c x : Bool} (h : (!a) = true) (hc : c = x) : (a || c) = x := by cases a <;> simp_all
theorem LB_all (p : ByteArray) (fr : Int) : LB (spAll p fr) := Nat.le_trans (all_len p fr) (by decide)
theorem sp_byte {p : ByteArray} {n : Int} (hp : spIs p = true) (hn : Sqr n) : spAt p n = bAt (bytesL p) n := by
  unfold spAt; rw [hn.is, hp, bAt_bytes]; rfl
theorem sq_of {n : Int} (h : ¬ Sqr n) : spIsSquare n = false := by
  cases e : spIsSquare n with
  | false => rfl
  | true => have := isSquare_iff.1 e; exact absurd ⟨this.1, this.2⟩ h
theorem can_sq {p : ByteArray} {fr to : Int} (h : spCan p fr to = true) : Sqr fr ∧ Sqr to := by
  have := all_is (can_mem.1 h)
  exact ⟨⟨this.2.1.1, this.2.1.2⟩, ⟨this.2.2.1, this.2.2.2⟩⟩
theorem apply_form {p : ByteArray} {side fr to : Int} (hp : spIs p = true) : ((!(spSide (spAt p fr) == side)) || (spKind (spAt p to) == 75) || !((spAll p fr).any fun x => to == x)) = !rOkM (bytesL p) side fr to := by
  show ((!(spSide (spAt p fr) == side)) || (spKind (spAt p to) == 75) || !spCan p fr to) = _
  by_cases h : Sqr fr ∧ Sqr to
  · obtain ⟨hf, ht⟩ := h
    rw [sp_byte hp hf, sp_byte hp ht, can_canon hp hf ht]
    unfold rOkM bne
    rw [hf.is, ht.is]
    generalize (spSide (bAt (bytesL p) fr) == side) = a
    generalize (spKind (bAt (bytesL p) to) == 75) = b
    generalize dFast (bytesL p) fr to = c
    cases a <;> cases b <;> cases c <;> rfl
  · have h1 : spCan p fr to = false := by
      cases e : spCan p fr to with
      | false => rfl
      | true => exact absurd (can_sq e) h
    have h2 : rOkM (bytesL p) side fr to = false := by
      unfold rOkM
      by_cases hf : Sqr fr
      · rw [sq_of (fun ht => h ⟨hf, ht⟩)]; simp
      · rw [sq_of hf]; simp
    rw [h1, h2]; simp
theorem apply_2 {p : ByteArray} {side clock full fr to : Int} (h : (rCheck p side clock full != 0) = false) (h2 : ((!(spSide (spAt p fr) == side)) || (spKind (spAt p to) == 75) || !((spAll p fr).any fun x => to == x)) = true) : 7 = rAppE p side clock full fr to ∧ ¬ rAppE p side clock full fr to = 0 := by
  rw [apply_form (pos_ok (bneF h)).is] at h2
  unfold rAppE; rw [if_neg (by simpa using bneF h), if_neg (by rw [bt h2]; exact Bool.noConfusion)]; exact ⟨rfl, by decide⟩
structure AppOk (p : ByteArray) (side clock full fr to : Int) : Prop where
  e : rAppE p side clock full fr to = 0
  pos : PosOk p side clock full
  sf : Sqr fr
  st : Sqr to
  at' : spAt p to = bAt (bytesL p) to
theorem apply_0 {p : ByteArray} {side clock full fr to : Int} (h : (rCheck p side clock full != 0) = false) (h2 : ((!(spSide (spAt p fr) == side)) || (spKind (spAt p to) == 75) || !((spAll p fr).any fun x => to == x)) = false) : AppOk p side clock full fr to := by
  have ho := pos_ok (bneF h)
  rw [apply_form ho.is] at h2
  have hr := bn h2
  have hsq : Sqr fr ∧ Sqr to := by
    unfold rOkM at hr
    simp only [Bool.and_eq_true, isSquare_iff] at hr
    exact ⟨⟨hr.1.1.1.1.1, hr.1.1.1.1.2⟩, ⟨hr.1.1.1.2.1, hr.1.1.1.2.2⟩⟩
  exact ⟨by unfold rAppE; rw [if_neg (by simpa using bneF h), if_pos hr], ho, hsq.1, hsq.2, sp_byte ho.is hsq.2⟩
theorem nC_t {p : ByteArray} {clock to : Int} (e : spAt p to = bAt (bytesL p) to) (h : (spAt p to == 46) = true) (hc : 0 ≤ clock ∧ clock ≤ 120) : nClock (bytesL p) clock to = if 120 < IntKind.i64.wrap (clock + 1) then 120 else IntKind.i64.wrap (clock + 1) := nClock_f (by rw [← e, beqT h]; rfl) hc
theorem nC_f {p : ByteArray} {clock to : Int} (e : spAt p to = bAt (bytesL p) to) (h : (spAt p to == 46) = false) : nClock (bytesL p) clock to = 0 := nClock_t (by rw [← e]; simpa using beqF h)
theorem nT_t {p : ByteArray} {to : Int} (e : spAt p to = bAt (bytesL p) to) (h : (spAt p to == 46) = true) : nTaken (bytesL p) to = 0 := nTaken_f (by rw [← e, beqT h]; rfl)
theorem nT_f {p : ByteArray} {to : Int} (e : spAt p to = bAt (bytesL p) to) (h : (spAt p to == 46) = false) : nTaken (bytesL p) to = spAt p to := (nTaken_t (by rw [← e]; simpa using beqF h)).trans e.symm
theorem lsafe_form {p : ByteArray} {side clock full fr to : Int} (hw : rWell p side clock full = 0) : ((rAppE p side clock full fr to == 0) && (rWell (if rAppE p side clock full fr to = 0 then spMoved p fr to else ByteArray.empty) (if rAppE p side clock full fr to = 0 then 1 - side else 0) (if rAppE p side clock full fr to = 0 then nClock (bytesL p) clock to else 0) (if rAppE p side clock full fr to = 0 then nFull side full else 0) == 0)) = spGCan p side fr to := by
  have hg := make_app (fr := fr) (to := to) hw
  have he := app_well (fr := fr) (to := to) (show (rWell p side clock full != 0) = false by rw [hw]; rfl)
  cases hr : rOkM (bytesL p) side fr to with
  | false =>
    rw [hr, if_neg Bool.noConfusion] at he
    rw [hg, hr, he]; rfl
  | true =>
    rw [hr, if_pos rfl] at he
    rw [he]
    simp only [if_true, beq_self_eq_true, Bool.true_and]
    rw [Bool.eq_iff_iff, beq_iff_eq]
    constructor
    · intro h
      obtain ⟨_, h1, h2⟩ := rWell_check h
      rw [show 1 - (1 - side) = side by omega] at h2
      rw [hg, hr, h1, h2]; rfl
    · intro h; exact well_moved hw h
theorem make_p2 {p : ByteArray} {side clock full fr to : Int} (h : (rWell p side clock full != 0) = false) (h2 : (!spGCan p side fr to) = true) : 7 = rMakeE p side clock full fr to ∧ ¬ rMakeE p side clock full fr to = 0 := by
  unfold rMakeE; rw [if_neg (by simpa using bneF h), if_neg (by rw [bt h2]; exact Bool.noConfusion)]; exact ⟨rfl, by decide⟩
theorem make_p0 {p : ByteArray} {side clock full fr to : Int} (h : (rWell p side clock full != 0) = false) (h2 : (!spGCan p side fr to) = false) : rMakeE p side clock full fr to = 0 ∧ rAppE p side clock full fr to = 0 := by
  have hg := make_app (fr := fr) (to := to) (bneF h)
  have he := app_well (fr := fr) (to := to) h
  refine ⟨by unfold rMakeE; rw [if_neg (by simpa using bneF h), if_pos (bn h2)], ?_⟩
  rw [bn h2] at hg
  rw [he, if_pos]
  cases hr : rOkM (bytesL p) side fr to with
  | true => rfl
  | false => rw [hr] at hg; cases hg
end Go.X

namespace Go.X
open Go

def preC (p : List Int) : List (List Int) → List (List Int)
  | [] => [p]
  | h :: t => (p ++ h) :: t
def cutAt (c : Int) : List Int → List (List Int)
  | [] => [[]]
  | x :: l => if x = c then [] :: cutAt c l else preC [x] (cutAt c l)
theorem preC_nil (L : List (List Int)) (h : L ≠ []) : preC [] L = L := by cases L with
  | nil => exact absurd rfl h
  | cons x L => rfl
theorem cutAt_ne (c : Int) (l : List Int) : cutAt c l ≠ [] := by
  cases l with
  | nil => simp [cutAt]
  | cons x l =>
    unfold cutAt
    split
    · simp
    · cases cutAt c l <;> simp [preC]
theorem preC_preC (p q : List Int) (L : List (List Int)) (h : L ≠ []) : preC p (preC q L) = preC (p ++ q) L := by
  cases L with
  | nil => exact absurd rfl h
  | cons x L => simp [preC]
theorem cutAt_len (c : Int) (l : List Int) : (cutAt c l).length ≤ l.length + 1 := by
  induction l with
  | nil => simp [cutAt]
  | cons x l ih =>
    unfold cutAt
    split
    · simp only [List.length_cons]; omega
    · cases h : cutAt c l with
      | nil => simp [preC]
      | cons y L => rw [h] at ih; simp only [preC, List.length_cons] at ih ⊢; omega
def part (b : List Int) (i j : Nat) : List Int := (b.drop i).take (j - i)
theorem part_next {b : List Int} {i j : Nat} (h : i ≤ j) (hj : j < b.length) : part b i (j + 1) = part b i j ++ [b.getD j 0] := by
  unfold part
  rw [show j + 1 - i = (j - i) + 1 by omega, List.take_succ_eq_append_getElem (by rw [List.length_drop]; omega), List.getElem_drop, List.getD_eq_getElem?_getD, List.getElem?_eq_getElem hj]
  congr 2
  simp only [show i + (j - i) = j by omega]; rfl
theorem part_self (b : List Int) (i : Nat) : part b i i = [] := by unfold part; rw [Nat.sub_self, List.take_zero]
structure CutInv (c : Int) (b : List Int) (D : List (List Int)) (j i : Nat) : Prop where
  le : j ≤ i
  hi : i ≤ b.length
  eq : cutAt c b = D ++ preC (part b j i) (cutAt c (b.drop i))
theorem CutInv.start (c : Int) (b : List Int) : CutInv c b [] 0 0 := ⟨Nat.le_refl _, Nat.zero_le _, by rw [part_self, preC_nil _ (cutAt_ne _ _)]; rfl⟩
theorem drop_cons {b : List Int} {i : Nat} (h : i < b.length) : b.drop i = b.getD i 0 :: b.drop (i + 1) := by
  rw [List.drop_eq_getElem_cons h, List.getD_eq_getElem?_getD, List.getElem?_eq_getElem h]; rfl
theorem CutInv.cut {c : Int} {b : List Int} {D : List (List Int)} {j i : Nat} (h : CutInv c b D j i) (hi : i < b.length) (e : b.getD i 0 = c) : CutInv c b (D ++ [part b j i]) (i + 1) (i + 1) := by
  refine ⟨Nat.le_refl _, hi, ?_⟩
  rw [h.eq, drop_cons hi, cutAt, if_pos e, part_self, preC_nil _ (cutAt_ne _ _)]
  simp [preC]
theorem CutInv.keep {c : Int} {b : List Int} {D : List (List Int)} {j i : Nat} (h : CutInv c b D j i) (hi : i < b.length) (e : b.getD i 0 ≠ c) : CutInv c b D j (i + 1) := by
  refine ⟨Nat.le_succ_of_le h.le, hi, ?_⟩
  rw [h.eq, drop_cons hi, cutAt, if_neg e, preC_preC _ _ _ (cutAt_ne _ _), part_next h.le hi]
theorem CutInv.done {c : Int} {b : List Int} {D : List (List Int)} {j : Nat} (h : CutInv c b D j b.length) : cutAt c b = D ++ [part b j b.length] := by
  rw [h.eq, List.drop_length]; simp [cutAt, preC]
theorem CutInv.len {c : Int} {b : List Int} {D : List (List Int)} {j i : Nat} (h : CutInv c b D j i) : D.length ≤ b.length + 1 := by
  have h1 := cutAt_len c b
  rw [h.eq, List.length_append] at h1
  omega
theorem extract_part (s : ByteArray) {i j : Nat} (h : i ≤ j) (hj : j ≤ s.size) : s.extract i j = bytesOf (part (bytesL s) i j) := by
  apply ByteArray.ext
  apply Array.toList_inj.1
  rw [bytesOf_list, ByteArray.data_extract, Array.toList_extract, List.extract_eq_take_drop]
  unfold part
  rw [List.map_take, List.map_drop, of_bytesL]
theorem part_bytes {s : ByteArray} {i j : Nat} : ∀ n ∈ part (bytesL s) i j, 0 ≤ n ∧ n < 256 := fun n hn => bytesL_bound s n (List.mem_of_mem_drop (List.mem_of_mem_take hn))
theorem cutAt_mem {c : Int} : ∀ {l : List Int} {p : List Int}, p ∈ cutAt c l → ∀ x ∈ p, x ∈ l ∧ x ≠ c := by
  intro l
  induction l with
  | nil => intro p hp x hx; simp [cutAt] at hp; subst hp; cases hx
  | cons y l ih =>
    intro p hp x hx
    unfold cutAt at hp
    split at hp
    · rw [List.mem_cons] at hp
      rcases hp with rfl | hp
      · cases hx
      · have := ih hp x hx; exact ⟨by simp [this.1], this.2⟩
    · rename_i hy
      cases hq : cutAt c l with
      | nil => exact absurd hq (cutAt_ne _ _)
      | cons h t =>
        rw [hq] at hp
        simp only [preC, List.mem_cons] at hp
        rcases hp with rfl | hp
        · simp only [List.singleton_append, List.mem_cons] at hx
          rcases hx with rfl | hx
          · exact ⟨by simp, hy⟩
          · have := ih (p := h) (by rw [hq]; simp) x hx; exact ⟨by simp [this.1], this.2⟩
        · have := ih (p := p) (by rw [hq]; simp [hp]) x hx; exact ⟨by simp [this.1], this.2⟩

def letter4 (c : Int) : Int := if c = 69 then 66 else if c = 101 then 98 else if c = 72 then 78 else if c = 104 then 110 else c
def rstep (o : Option (List Int)) (c0 : Int) : Option (List Int) := match o with
  | none => none
  | some out => if 49 ≤ letter4 c0 ∧ letter4 c0 ≤ 57 then some (out ++ List.replicate (letter4 c0 - 48).toNat 46) else if 0 ≤ spSide (letter4 c0) then some (out ++ [letter4 c0]) else none
def rankGo (b : List Int) : Option (List Int) := b.foldl rstep (some [])
theorem rstep_none (l : List Int) : l.foldl rstep none = none := by
  induction l with
  | nil => rfl
  | cons x l ih => rw [List.foldl_cons]; exact ih
def rankR (b : List Int) : Option (List Int) := match rankGo b with
  | some o => if o.length = 9 then some o else none
  | none => none
def cstep4 (o : Option (List Int)) (p : List Int) : Option (List Int) := match o with
  | none => none
  | some out => match rankR p with
    | some r => some (out ++ r)
    | none => none
theorem cstep_none (l : List (List Int)) : l.foldl cstep4 none = none := by
  induction l with
  | nil => rfl
  | cons x l ih => rw [List.foldl_cons]; exact ih
def cellsGo (b : List Int) : Option (List Int) := if (cutAt 47 b).length = 10 then (cutAt 47 b).reverse.foldl cstep4 (some []) else none
def nstep (o : Option Int) (c : Int) : Option Int := match o with
  | none => none
  | some n => if 48 ≤ c ∧ c ≤ 57 then some (10 * n + (c - 48)) else none
theorem nstep_none (l : List Int) : l.foldl nstep none = none := by
  induction l with
  | nil => rfl
  | cons x l ih => rw [List.foldl_cons]; exact ih
def numGo (b : List Int) : Option Int := if b = [] ∨ 4 < b.length ∨ (b.getD 0 0 = 48 ∧ 1 < b.length) then none else b.foldl nstep (some 0)
def sideGo (b : List Int) : Option Int := if b = [119] ∨ b = [114] then some 0 else if b = [98] then some 1 else none
def formGo (l : List (List Int)) : Option (List Int × Int × Int × Int) := match l with
  | [a, t] => match cellsGo a, sideGo t with
    | some b, some s => some (b, s, 0, 1)
    | _, _ => none
  | [a, t, x, y, k, f] => match cellsGo a, sideGo t, numGo k, numGo f with
    | some b, some s, some n, some m => if x = [45] ∧ y = [45] then some (b, s, n, m) else none
    | _, _, _, _ => none
  | _ => none
def form4 (s : ByteArray) : Option (List Int × Int × Int × Int) := if 1000 < s.size then none else formGo (cutAt 32 (bytesL s))
def err4 (s : ByteArray) : Int := match form4 s with
  | some (b, sd, k, f) => rCheck (bytesOf b) sd k f
  | none => 6
def pos4 (s : ByteArray) : ByteArray × Int × Int × Int := match form4 s with
  | some (b, sd, k, f) => if rCheck (bytesOf b) sd k f = 0 then (bytesOf b, sd, k, f) else (ByteArray.empty, 0, 0, 0)
  | none => (ByteArray.empty, 0, 0, 0)
end Go.X

namespace Go.X
open Go
def rSq (f r : Int) : Int := if 65 ≤ f ∧ f ≤ 73 then spSquare (f - 65) (r - 48) else if 97 ≤ f ∧ f ≤ 105 then spSquare (f - 97) (r - 48) else -1
theorem square_eq (a b : Int) : spSquare a b = if 0 ≤ a ∧ a < 9 ∧ 0 ≤ b ∧ b < 10 then b * 9 + a else -1 := by
  unfold spSquare
  simp only [Bool.and_eq_true, decide_eq_true_eq, and_assoc]
theorem rSq_eq {f r : Int} : rSq f r = if 65 ≤ f ∧ f ≤ 73 ∧ 48 ≤ r ∧ r ≤ 57 then (r - 48) * 9 + (f - 65) else if 97 ≤ f ∧ f ≤ 105 ∧ 48 ≤ r ∧ r ≤ 57 then (r - 48) * 9 + (f - 97) else -1 := by
  unfold rSq
  rw [square_eq, square_eq]
  repeat' split
  all_goals first | omega | rfl
theorem rSq_hi {f r : Int} : -1 ≤ rSq f r ∧ rSq f r < 90 := by
  rw [rSq_eq]
  repeat' split
  all_goals omega
def iS (s : ByteArray) : ByteArray := if (((s.size : Int) == 5) && (byteAt s 2 == 45)) = true then s.extract 0 2 ++ s.extract 3 s.size else s
def iF (s : ByteArray) : Int := rSq (byteAt (iS s) 0) (byteAt (iS s) 1)
def iT (s : ByteArray) : Int := rSq (byteAt (iS s) 2) (byteAt (iS s) 3)
def iOk (s : ByteArray) : Bool := ((iS s).size : Int) == 4 && !(decide (iF s < 0) || decide (iT s < 0))
def iErr (s : ByteArray) : Int := if iOk s = true then 0 else 6
def iFr (s : ByteArray) : Int := if iOk s = true then iF s else 0
def iTo (s : ByteArray) : Int := if iOk s = true then iT s else 0
structure S2 (s : ByteArray) : Prop where
  le : 2 ≤ s.size
  u : True
  v : True
theorem iS_t {s : ByteArray} (h : (((s.size : Int) == 5) && (byteAt s 2 == 45)) = true) : iS s = s.extract 0 2 ++ s.extract 3 s.size := if_pos h
theorem iS_f {s : ByteArray} (h : (((s.size : Int) == 5) && (byteAt s 2 == 45)) = false) : iS s = s := if_neg (by rw [h]; exact Bool.noConfusion)
theorem size5 {s : ByteArray} (h : (((s.size : Int) == 5) && (byteAt s 2 == 45)) = true) : s.size = 5 := by
  simp only [Bool.and_eq_true, beq_iff_eq] at h; omega
theorem ok_4 {s : ByteArray} (h : (((iS s).size : Int) != 4) = true) : iErr s = 6 ∧ iFr s = 0 ∧ iTo s = 0 := by
  have : iOk s = false := by unfold iOk; rw [Bool.and_eq_false_iff]; exact .inl (by simpa using h)
  unfold iErr iFr iTo; rw [this]; simp
theorem ok_n {s : ByteArray} (h : (decide (iF s < 0) || decide (iT s < 0)) = true) : iErr s = 6 ∧ iFr s = 0 ∧ iTo s = 0 := by
  have : iOk s = false := by unfold iOk; rw [h]; simp
  unfold iErr iFr iTo; rw [this]; simp
theorem ok_y {s : ByteArray} (h4 : (((iS s).size : Int) != 4) = false) (h : (decide (iF s < 0) || decide (iT s < 0)) = false) : iErr s = 0 ∧ iFr s = iF s ∧ iTo s = iT s := by
  have : iOk s = true := by unfold iOk; rw [h]; simp only [Bool.not_false, Bool.and_true]; simpa using h4
  unfold iErr iFr iTo; rw [this]; simp
theorem ok_or {s : ByteArray} (h : (((iS s).size : Int) != 4 || decide (iF s < 0) || decide (iT s < 0)) = true) : iErr s = 6 ∧ iFr s = 0 ∧ iTo s = 0 := by
  simp only [Bool.or_assoc] at h
  rcases Bool.or_eq_true .. ▸ h with h | h
  · exact ok_4 h
  · exact ok_n h
theorem ok_and {s : ByteArray} (h : (((iS s).size : Int) != 4 || decide (iF s < 0) || decide (iT s < 0)) = false) : iErr s = 0 ∧ iFr s = iF s ∧ iTo s = iT s := by
  simp only [Bool.or_assoc] at h
  have h := Bool.or_eq_false_iff.1 h
  exact ok_y h.1 h.2
theorem okX_4 {s X : ByteArray} (e : iS s = X) (h : ((X.size : Int) != 4) = true) : iErr s = 6 ∧ iFr s = 0 ∧ iTo s = 0 := by subst e; exact ok_4 h
theorem okX_n {s X : ByteArray} (e : iS s = X) (h : (decide (rSq (byteAt X 0) (byteAt X 1) < 0) || decide (rSq (byteAt X 2) (byteAt X 3) < 0)) = true) : iErr s = 6 ∧ iFr s = 0 ∧ iTo s = 0 := by subst e; exact ok_n h
theorem okX_y {s X : ByteArray} (e : iS s = X) (h4 : ((X.size : Int) != 4) = false) (h : (decide (rSq (byteAt X 0) (byteAt X 1) < 0) || decide (rSq (byteAt X 2) (byteAt X 3) < 0)) = false) : iErr s = 0 ∧ iFr s = rSq (byteAt X 0) (byteAt X 1) ∧ iTo s = rSq (byteAt X 2) (byteAt X 3) := by subst e; exact ok_y h4 h
theorem ne4 {X : ByteArray} (h : ((X.size : Int) != 4) = false) : X.size = 4 := by
  have h2 : (X.size : Int) = 4 := bneF h
  omega
theorem byteAt_ext {X : ByteArray} {i j k : Nat} (h : i + k < j) (hj : j ≤ X.size) : byteAt (X.extract i j) k = byteAt X (i + k) := by
  unfold byteAt
  rw [ByteArray.data_extract, Array.toList_extract, List.extract_eq_take_drop, List.getD_eq_getElem?_getD, List.getD_eq_getElem?_getD, List.getElem?_take, if_pos (by omega), List.getElem?_drop]
theorem size4 {X : ByteArray} (h : (!((X.size : Int) != 4)) = true) : X.size = 4 := ne4 (bt h)
theorem size4o {X : ByteArray} {b : Bool} (h : (!((X.size : Int) != 4 || b)) = true) : X.size = 4 := ne4 (Bool.or_eq_false_iff.1 (bt h)).1
theorem size4f {X : ByteArray} {b c : Bool} (h : ((X.size : Int) != 4 || b || c) = false) : X.size = 4 := ne4 (Bool.or_eq_false_iff.1 (Bool.or_eq_false_iff.1 h).1).1
theorem ext4 {X : ByteArray} (h : X.size = 4) : byteAt (X.extract 0 2) 0 = byteAt X 0 ∧ byteAt (X.extract 0 2) 1 = byteAt X 1 ∧ byteAt (X.extract 2 X.size) 0 = byteAt X 2 ∧ byteAt (X.extract 2 X.size) 1 = byteAt X 3 :=
  ⟨byteAt_ext (by omega) (by omega), byteAt_ext (by omega) (by omega), byteAt_ext (by omega) (by omega), byteAt_ext (by omega) (by omega)⟩
theorem okE_or {s X : ByteArray} (e : iS s = X) (h : ((X.size : Int) != 4 || decide (rSq (byteAt (X.extract 0 2) 0) (byteAt (X.extract 0 2) 1) < 0) || decide (rSq (byteAt (X.extract 2 X.size) 0) (byteAt (X.extract 2 X.size) 1) < 0)) = true) : iErr s = 6 ∧ iFr s = 0 ∧ iTo s = 0 := by
  cases h4 : (X.size : Int) != 4 with
  | true => exact okX_4 e h4
  | false =>
    obtain ⟨e1, e2, e3, e4⟩ := ext4 (ne4 h4)
    rw [h4, e1, e2, e3, e4, Bool.false_or] at h
    exact okX_n e h
theorem okE_and {s X : ByteArray} (e : iS s = X) (h : ((X.size : Int) != 4 || decide (rSq (byteAt (X.extract 0 2) 0) (byteAt (X.extract 0 2) 1) < 0) || decide (rSq (byteAt (X.extract 2 X.size) 0) (byteAt (X.extract 2 X.size) 1) < 0)) = false) : iErr s = 0 ∧ iFr s = rSq (byteAt (X.extract 0 2) 0) (byteAt (X.extract 0 2) 1) ∧ iTo s = rSq (byteAt (X.extract 2 X.size) 0) (byteAt (X.extract 2 X.size) 1) := by
  cases h4 : (X.size : Int) != 4 with
  | true => rw [h4] at h; cases h
  | false =>
    obtain ⟨e1, e2, e3, e4⟩ := ext4 (ne4 h4)
    rw [h4, e1, e2, e3, e4, Bool.false_or] at h
    rw [e1, e2, e3, e4]
    exact okX_y e h4 h
def pr4 (f t : Int) : List Int := [97 + f % 9, 48 + f / 9, 97 + t % 9, 48 + t / 9]
def spPrint (f t : Int) : ByteArray := if spIsSquare f = true ∧ spIsSquare t = true then bytesOf (pr4 f t) else ByteArray.empty
theorem print_no {f t : Int} (h : ¬ (spIsSquare f = true ∧ spIsSquare t = true)) : spPrint f t = ⟨#[]⟩ := if_neg h
theorem print_yes {f t : Int} (hf : Sqr f) (ht : Sqr t) : spPrint f t = bytesOf [97 + f % 9, 48 + f / 9] ++ bytesOf [97 + t % 9, 48 + t / 9] := by
  unfold spPrint
  rw [if_pos ⟨hf.is, ht.is⟩]
  apply ByteArray.ext
  apply Array.toList_inj.1
  rw [ByteArray.data_append, Array.toList_append, bytesOf_list, bytesOf_list, bytesOf_list]; rfl
theorem bytesOf_size (l : List Int) : (bytesOf l).size = l.length := by
  have h := congrArg List.length (bytesOf_list l)
  rw [List.length_map] at h
  exact h
theorem fileA_neg {n : Int} (h : decide (spFile n < 0) = true) : spIsSquare n = false := by
  have h := of_decide_eq_true h
  cases e : spIsSquare n with
  | false => rfl
  | true => unfold spFile at h; rw [if_pos e] at h; have := isSquare_iff.1 e; omega
theorem fileA_pos {n : Int} (h : decide (spFile n < 0) = false) : Sqr n ∧ spFile n = n % 9 ∧ spRank n = n / 9 := by
  have h := of_decide_eq_false h
  cases e : spIsSquare n with
  | false => unfold spFile at h; rw [e] at h; simp at h
  | true => have := isSquare_iff.1 e; exact ⟨⟨this.1, this.2⟩, by unfold spFile; rw [if_pos e], by unfold spRank; rw [if_pos e]⟩
theorem pr_w {n : Int} (h : decide (spFile n < 0) = false) : Sqr n ∧ [IntKind.u8.wrap (IntKind.i64.wrap (97 + spFile n)), IntKind.u8.wrap (IntKind.i64.wrap (48 + spRank n))] = [97 + n % 9, 48 + n / 9] := by
  obtain ⟨hs, e1, e2⟩ := fileA_pos h
  have h1 := hs.lo; have h2 := hs.hi
  refine ⟨hs, ?_⟩
  rw [e1, e2, wrap64 (x := 97 + n % 9) (by omega) (by omega), wrap64 (x := 48 + n / 9) (by omega) (by omega), wrapB (by omega) (by omega), wrapB (by omega) (by omega)]
theorem print_4 {f t : Int} (hf : Sqr f) (ht : Sqr t) : spPrint f t = bytesOf ((pr4 f t).take (2 * 2)) := if_pos ⟨hf.is, ht.is⟩
theorem print_n1 {f t : Int} (h : decide (spFile f < 0) = true) : spPrint f t = ⟨#[]⟩ := print_no (by rw [fileA_neg h]; simp)
theorem print_n2 {f t : Int} (h : decide (spFile t < 0) = true) : spPrint f t = ⟨#[]⟩ := print_no (by rw [fileA_neg h]; simp)
attribute [irreducible] iS iF iT iOk iErr iFr iTo rSq spPrint
end Go.X

namespace Go.X
open Go Go.Proofs

def cISq : Con
  | [.a (.i .u8 f), .a (.i .u8 r)] => some ⟨[BY f, BY r], .a (.i .i64 (rSq f r)), [], []⟩
  | _ => none
def cR12sq : Con
  | [.a (.s t)] => some ⟨[S2 t], .a (.i .i64 (rSq (byteAt t 0) (byteAt t 1))), [], []⟩
  | _ => none
def cR12Sq : Con
  | [.a (.i .i64 n)] => some ⟨[Sqr n], .a (.s (bytesOf [97 + n % 9, 48 + n / 9])), [], []⟩
  | _ => none
def cIParse : Con
  | [.a (.s s)] => some ⟨[], .tup [.agg [.a (.i .i64 (iFr s)), .a (.i .i64 (iTo s))], .a (.i .i64 (iErr s))], [], []⟩
  | _ => none
def cIPrint : Con
  | [.agg [.a (.i .i64 f), .a (.i .i64 t)]] => some ⟨[], .a (.s (spPrint f t)), [], []⟩
  | _ => none
def cR12Parse : Con
  | [.a (.s s)] => some ⟨[], .tup [.agg [.a (.i .i64 (iFr s)), .a (.i .i64 (iTo s))], .a (.i .i64 (iErr s))], [], []⟩
  | _ => none
def cR12Print : Con
  | [.agg [.a (.i .i64 f), .a (.i .i64 t)]] => some ⟨[], .a (.s (spPrint f t)), [], []⟩
  | _ => none
section
variable {G : Nat → World → Prop}
set_option maxHeartbeats 4000000 in
set_option maxRecDepth 20000 in
theorem okISq (hS : Hyp G) : ConOK Tryz.prog G 26 cISq := by
  refine seat_con hS.seat [(39, cSquare)] [] ⟨okSquare hS, trivial⟩ Tryz.func26 rfl rfl rfl ?_
  intro rvs cr hcr hpre
  unfold cISq at hcr
  split at hcr
  · rename_i f r
    cases hcr
    simp only [List.mem_cons, List.not_mem_nil, or_false, forall_eq_or_imp, forall_eq] at hpre
    refine ⟨⟨rfl, rfl, rfl⟩, fun c hc vs => ?_⟩
    have hf := hpre.1
    have hr := hpre.2
    have f1 := hf.lo; have f2 := hf.hi; have r1 := hr.lo; have r2 := hr.hi
    repeat' (first | exact Bool.noConfusion ‹(!true) = true› | exact Bool.noConfusion ‹(!false) = false› | (intro h; exact h) | (intro h; rw [h]; rfl) | (intro h1 h2; rw [h1, h2]; rfl) | (intro _; assumption) | (intro _; exact rfl) | (intro h; exact Bool.noConfusion (h.symm.trans ‹_ = false›)) | refine ⟨fun _ => ?_, fun _ => ?_⟩ | refine ⟨?_⟩ | refine ⟨?_, ?_⟩ | fail)
    all_goals first | exact rfl | skip
    all_goals (refine chk_i ?_; simp only [Bool.and_eq_true, Bool.and_eq_false_iff, decide_eq_true_eq, decide_eq_false_iff_not, rSq_eq, square_eq] at *)
    · rw [wrapB (x := f + 32) (by omega) (by omega), wrap64 (x := f + 32) (by omega) (by omega), wrap64 (x := r) (by omega) (by omega), wrap64 (x := f + 32 - 97) (by omega) (by omega), wrap64 (x := r - 48) (by omega) (by omega)]
      (repeat' split) <;> omega
    · rw [wrap64 (x := f) (by omega) (by omega), wrap64 (x := r) (by omega) (by omega), wrap64 (x := f - 97) (by omega) (by omega), wrap64 (x := r - 48) (by omega) (by omega)]
      (repeat' split) <;> omega
    · (repeat' split) <;> omega
  · cases hcr
set_option maxHeartbeats 4000000 in
set_option maxRecDepth 20000 in
theorem okR12sq (hS : Hyp G) : ConOK Tryz.prog G 18 cR12sq := by
  refine seat_con hS.seat [] [] trivial Tryz.func18 rfl rfl rfl ?_
  intro rvs cr hcr hpre
  unfold cR12sq at hcr
  split at hcr
  · rename_i t
    cases hcr
    simp only [List.mem_cons, List.not_mem_nil, or_false, forall_eq_or_imp, forall_eq] at hpre
    refine ⟨⟨rfl, rfl, rfl⟩, fun c hc vs => ?_⟩
    have h2 := hpre.le
    have hf := BY.at t 0
    have hr := BY.at t 1
    have f1 := hf.lo; have f2 := hf.hi; have r1 := hr.lo; have r2 := hr.hi
    repeat' (first | exact Bool.noConfusion ‹(!true) = true› | exact Bool.noConfusion ‹(!false) = false› | (intro h; exact h) | (intro h; rw [h]; rfl) | (intro h1 h2; rw [h1, h2]; rfl) | (intro _; assumption) | (intro _; exact rfl) | (intro h; exact Bool.noConfusion (h.symm.trans ‹_ = false›)) | refine ⟨fun _ => ?_, fun _ => ?_⟩ | refine ⟨?_⟩ | refine ⟨?_, ?_⟩ | fail)
    all_goals first | exact trivial | (refine (?_ : (_ : Int) ≠ _); decide) | exact rfl | skip
    all_goals first | (intro _; exact ⟨by decide, by omega⟩) | exact ⟨by decide, by omega⟩ | skip
    all_goals first | exact rfl | (show (0 : Int) < (t.size : Int); omega) | (show (1 : Int) < (t.size : Int); omega) | skip
    all_goals first | exact ⟨by decide, by show (1 : Int) < (t.size : Int); omega⟩ | (intro _; exact ⟨by decide, by show (1 : Int) < (t.size : Int); omega⟩) | (intro _; exact ⟨by decide, by show (0 : Int) < (t.size : Int); omega⟩) | skip
    all_goals (refine chk_i ?_)
    all_goals (try dsimp only at *)
    all_goals (simp only [show Int.toNat 0 = 0 from rfl, show Int.toNat 1 = 1 from rfl, Bool.or_eq_true, Bool.or_eq_false_iff, Bool.and_eq_true, Bool.and_eq_false_iff, decide_eq_true_eq, decide_eq_false_iff_not, rSq_eq] at *)
    all_goals
      generalize byteAt t 0 = f at *
      generalize byteAt t 1 = r at *
      have e65 : 65 ≤ f → IntKind.i64.wrap (IntKind.u8.wrap (f - 65)) = f - 65 := fun h => by rw [wrapB (by omega) (by omega), wrap64 (by omega) (by omega)]
      have e97 : 97 ≤ f → IntKind.i64.wrap (IntKind.u8.wrap (f - 97)) = f - 97 := fun h => by rw [wrapB (by omega) (by omega), wrap64 (by omega) (by omega)]
      have e48 : 48 ≤ r → IntKind.i64.wrap (IntKind.i64.wrap (9 * IntKind.i64.wrap (IntKind.u8.wrap (r - 48))) + (f - 65)) = 9 * (r - 48) + (f - 65) := fun h => by rw [wrapB (by omega) (by omega), wrap64 (x := r - 48) (by omega) (by omega), wrap64 (x := 9 * (r - 48)) (by omega) (by omega), wrap64 (by omega) (by omega)]
      have e49 : 48 ≤ r → IntKind.i64.wrap (IntKind.i64.wrap (9 * IntKind.i64.wrap (IntKind.u8.wrap (r - 48))) + (f - 97)) = 9 * (r - 48) + (f - 97) := fun h => by rw [wrapB (by omega) (by omega), wrap64 (x := r - 48) (by omega) (by omega), wrap64 (x := 9 * (r - 48)) (by omega) (by omega), wrap64 (by omega) (by omega)]
      by_cases h48 : 48 ≤ r
      all_goals
        first
          | omega
          | (rw [e65 (by omega)] at *; try rw [e48 h48]
             (repeat' split) <;> omega)
          | (rw [e97 (by omega)] at *; try rw [e49 h48]
             (repeat' split) <;> omega)
          | ((repeat' split) <;> omega)
  · cases hcr
set_option maxHeartbeats 4000000 in
set_option maxRecDepth 20000 in
theorem okR12Sq (hS : Hyp G) : ConOK Tryz.prog G 21 cR12Sq := by
  refine seat_con hS.seat [] [] trivial Tryz.func21 rfl rfl rfl ?_
  intro rvs cr hcr hpre
  unfold cR12Sq at hcr
  split at hcr
  · rename_i n
    cases hcr
    simp only [List.mem_cons, List.not_mem_nil, or_false, forall_eq_or_imp, forall_eq] at hpre
    refine ⟨⟨rfl, rfl, rfl⟩, fun c hc vs => ?_⟩
    have h1 := hpre.lo
    have h2 := hpre.hi
    repeat' (first | exact Bool.noConfusion ‹(!true) = true› | exact Bool.noConfusion ‹(!false) = false› | (intro h; exact h) | (intro h; rw [h]; rfl) | (intro h1 h2; rw [h1, h2]; rfl) | (intro _; assumption) | (intro _; exact rfl) | (intro h; exact Bool.noConfusion (h.symm.trans ‹_ = false›)) | refine ⟨fun _ => ?_, fun _ => ?_⟩ | refine ⟨?_⟩ | refine ⟨?_, ?_⟩ | fail)
    all_goals first | exact trivial | (refine (?_ : (_ : Int) ≠ _); decide) | exact rfl | skip
    refine chk_s ?_
    show bytesOf [IntKind.u8.wrap (IntKind.i64.wrap (97 + n.tmod 9)), IntKind.u8.wrap (IntKind.i64.wrap (48 + IntKind.i64.wrap (n.tdiv 9)))] = _
    rw [tmod9 h1, tdiv9 h1, wrap64 (x := n / 9) (by omega) (by omega), wrap64 (x := 97 + n % 9) (by omega) (by omega), wrap64 (x := 48 + n / 9) (by omega) (by omega), wrapB (by omega) (by omega), wrapB (by omega) (by omega)]
  · cases hcr
end
end Go.X

namespace Go.X
open Go Go.Proofs

section
variable {G : Nat → World → Prop}
set_option maxHeartbeats 4000000 in
set_option maxRecDepth 20000 in
theorem okIParse (hS : Hyp G) : ConOK Tryz.prog G 9 cIParse := by
  refine seat_con hS.seat [(26, cISq), (17, cErrIs)] [] ⟨okISq hS, okErrIs hS, trivial⟩ Tryz.func9 rfl rfl rfl ?_
  intro rvs cr hcr hpre
  unfold cIParse at hcr
  split at hcr
  · rename_i s
    cases hcr
    refine ⟨⟨rfl, rfl, rfl⟩, fun c hc vs => ?_⟩
    repeat' (first | exact Bool.noConfusion ‹(!true) = true› | exact Bool.noConfusion ‹(!false) = false› | (intro h; exact h) | (intro h; rw [h]; rfl) | (intro h1 h2; rw [h1, h2]; rfl) | (intro _; assumption) | (intro _; exact rfl) | (intro h; exact Bool.noConfusion (h.symm.trans ‹_ = false›)) | refine ⟨fun _ => ?_, fun _ => ?_⟩ | refine ⟨?_⟩ | refine ⟨?_, ?_⟩ | fail)
    all_goals first | exact trivial | (refine (?_ : (_ : Int) ≠ _); decide) | exact rfl | skip
    refine trOps_none rfl (inl_one false hS.seat.tt rfl rfl Tryz.func16 rfl rfl ?_)
    intro cI hk hr
    refine (vs.kin hk).go rfl ?_
    repeat' (first | exact Bool.noConfusion ‹(!true) = true› | exact Bool.noConfusion ‹(!false) = false› | (intro h; exact h) | (intro h; rw [h]; rfl) | (intro h1 h2; rw [h1, h2]; rfl) | (intro _; assumption) | (intro _; exact rfl) | (intro h; exact Bool.noConfusion (h.symm.trans ‹_ = false›)) | refine ⟨fun _ => ?_, fun _ => ?_⟩ | refine ⟨?_⟩ | refine ⟨?_, ?_⟩ | fail)
    all_goals first | exact trivial | (refine (?_ : (_ : Int) ≠ _); decide) | exact rfl | skip
    all_goals first | (refine vs.on ?_) | skip
    repeat' (first | exact Bool.noConfusion ‹(!true) = true› | exact Bool.noConfusion ‹(!false) = false› | (intro h; exact h) | (intro h; rw [h]; rfl) | (intro h1 h2; rw [h1, h2]; rfl) | (intro _; assumption) | (intro _; exact rfl) | (intro h; exact Bool.noConfusion (h.symm.trans ‹_ = false›)) | refine ⟨fun _ => ?_, fun _ => ?_⟩ | refine ⟨?_⟩ | refine ⟨?_, ?_⟩ | fail)
    all_goals first | exact trivial | (refine (?_ : (_ : Int) ≠ _); decide) | exact rfl | skip
    all_goals first | (intro h; have h := beqT h; exact ⟨by decide, by omega⟩) | (have h5 := size5 (s := s) ‹_›; first | omega | (simp only [ByteArray.size_extract]; omega)) | skip
    all_goals first | exact BY.at _ _ | skip
    all_goals (try simp only [show Int.toNat 0 = 0 from rfl, show Int.toNat 1 = 1 from rfl, show Int.toNat 2 = 2 from rfl, show Int.toNat 3 = 3 from rfl] at *)
    all_goals first | (have h4 := ne4 (by with_reducible assumption); omega) | skip
    all_goals first
      | (have e := iS_t (s := s) (by with_reducible assumption); first | (have r := okX_4 e (by with_reducible assumption); refine chk_i ?_; first | (with_reducible exact r.1.symm) | (with_reducible exact r.2.1.symm) | (with_reducible exact r.2.2.symm)) | (have r := okX_n e (by with_reducible assumption); refine chk_i ?_; first | (with_reducible exact r.1.symm) | (with_reducible exact r.2.1.symm) | (with_reducible exact r.2.2.symm)) | (have r := okX_y e (by with_reducible assumption) (by with_reducible assumption); refine chk_i ?_; first | (with_reducible exact r.1.symm) | (with_reducible exact r.2.1.symm) | (with_reducible exact r.2.2.symm)))
      | (have e := iS_f (s := s) (by with_reducible assumption); first | (have r := okX_4 e (by with_reducible assumption); refine chk_i ?_; first | (with_reducible exact r.1.symm) | (with_reducible exact r.2.1.symm) | (with_reducible exact r.2.2.symm)) | (have r := okX_n e (by with_reducible assumption); refine chk_i ?_; first | (with_reducible exact r.1.symm) | (with_reducible exact r.2.1.symm) | (with_reducible exact r.2.2.symm)) | (have r := okX_y e (by with_reducible assumption) (by with_reducible assumption); refine chk_i ?_; first | (with_reducible exact r.1.symm) | (with_reducible exact r.2.1.symm) | (with_reducible exact r.2.2.symm)))
      | skip
  · cases hcr
end
end Go.X

namespace Go.X
open Go.RowKit Go.Sort

def joinS (l : List ByteArray) (sep : ByteArray) : ByteArray := ⟨(Lib.join (l.map (·.data.toList)) sep.data.toList).toArray⟩
structure LJ (l : List ByteArray) (sep : ByteArray) : Prop where
  len : l.length ≤ 140737488355328
  sz : (Lib.join (l.map (·.data.toList)) sep.data.toList).length ≤ 140737488355328
  v : True
def cJoin : Con
  | [.row _ ⟨_, .str, l, true⟩, .a (.s sep)] => some ⟨[LJ l sep], .a (.s (joinS l sep)), [], []⟩
  | _ => none
theorem valsS (l : List ByteArray) : valsOf .str l = l.map Value.string := by
  unfold valsOf
  induction l with
  | nil => rfl
  | cons x l ih => simp only [List.flatMap_cons, EK.vals, List.map_cons, List.singleton_append]; rw [← ih]; rfl
theorem allRes2 {st : St} {avs : List AV} {r1 r2 : RV} (h : allRes (resolve st) avs = some [r1, r2]) : ∃ v u, avs = [v, u] ∧ resolve st v = some r1 ∧ resolve st u = some r2 := by
  cases avs with
  | nil => simp [allRes] at h
  | cons v l =>
    cases l with
    | nil =>
      simp only [allRes] at h
      split at h <;> simp at h
    | cons u l =>
      simp only [allRes] at h
      split at h
      · rename_i r hr
        split at h
        · rename_i m hm
          cases h
          split at hm
          · rename_i r' hr'
            split at hm
            · rename_i m' hm'
              cases hm
              cases l with
              | nil => exact ⟨v, u, rfl, hr, hr'⟩
              | cons y l =>
                simp only [allRes] at hm'
                split at hm'
                · split at hm' <;> simp at hm'
                · cases hm'
            · cases hm
          · cases hm
        · cases h
      · cases h
theorem con_join {P : Program} {G : Nat → World → Prop} {f : FuncId} {fn : Func} (hf : P.funcs[f]? = some fn) (hb : fn.body.isSome = true) (hname : (fn.name == "runtime.NumGoroutine") = false)
    (hs : ∀ (bk o c : Nat) (xs : List ByteArray) (sep : ByteArray) (w : World), (∀ (j : Nat) x, xs[j]? = some x → w.cell? ⟨bk, o + j, none⟩ = some (.string x)) → bk < w.heap.size → xs.length ≤ 140737488355328 → xs.length ≤ c → (Lib.join (xs.map (·.data.toList)) sep.data.toList).length ≤ 140737488355328 →
      Calls P f #[.slice (some ⟨bk, o, none⟩) xs.length c, .string sep] w fun e w' => e = .returned (.string (joinS xs sep)) ∧ Below w.heap.size w w')
    (hn : ∀ (p : Option Addr) (cap : Nat) (sep : ByteArray) (w : World), Calls P f #[.slice p 0 cap, .string sep] w fun e w' => e = .returned (.string ⟨#[]⟩) ∧ w' = w) : ConOK P G f cJoin := by
  intro c e st w avs rvs cr vals fb fr hG hh hres hargs hcr hpre _ _
  refine ⟨⟨fn, hf, hb, hname⟩, ?_⟩
  unfold cJoin at hcr
  split at hcr
  · rename_i id T' l sep
    cases hcr
    have hlj := hpre _ (List.mem_singleton.2 rfl)
    obtain ⟨v, u, rfl, h1, h2⟩ := allRes2 hres
    obtain ⟨x, xs, rfl, hx, hxs⟩ := hargs
    obtain ⟨y, ys, rfl, hy, hys⟩ := hxs
    simp only [RL] at hys
    subst hys
    have hy' := valRV_R (u := .string sep) h2 rfl hy
    subst hy'
    unfold resolve at h1
    cases v with
    | row id' =>
      simp only [resolveF] at h1
      split at h1
      · rename_i r hr
        simp only [Option.some.injEq, RV.row.injEq] at h1
        obtain ⟨rfl, rfl⟩ := h1
        obtain ⟨_, rfl⟩ := hx
        obtain ⟨hpos, hown, hmine⟩ := hh.row _ _ hr
        rcases hown with ⟨hv, hl0⟩ | ⟨g, cap, cur, fz, hv, hgg, hfz, hnc, hcm, hcs, htake⟩
        · have hl0' : l = [] := hl0
          subst hl0'
          rw [hv]
          refine (hn none 0 sep w).mono ?_
          rintro en w' ⟨rfl, rfl⟩
          exact ⟨_, e, rfl, hh, pres_refl, rfl⟩
        · rw [hv]
          have hglt : g < w.heap.size := (Array.getElem?_eq_some_iff.1 hgg).1
          have htake' : cur.toList.take l.length = l.map Value.string := by
            have := htake
            rw [valsS] at this
            simpa [EK.size] using this
          refine (hs g 0 cap l sep w ?_ hglt hlj.len hnc hlj.sz).mono ?_
          · intro j x hj
            have hjl := (List.getElem?_eq_some_iff.1 hj).1
            have h3 := congrArg (fun m => m[j]?) htake'
            simp only [List.getElem?_take, if_pos hjl, List.getElem?_map, hj, Option.map_some, Array.getElem?_toList] at h3
            unfold World.cell?
            simp only [hgg, Nat.zero_add]
            rw [h3]; rfl
          · rintro en w' ⟨rfl, hbl⟩
            exact ⟨_, e, rfl, hh.moved hbl, pres_refl, rfl⟩
      · cases h1
    | _ =>
      simp only [resolveF] at h1
      first
        | (cases h1; done)
        | (split at h1 <;> first | (cases h1; done) | (split at h1 <;> cases h1))
  · cases hcr
end Go.X

namespace Go.X
open Go

structure S1 (s : ByteArray) : Prop where
  is : s.size = 1
  u : True
  v : True
theorem toList_loop (b : ByteArray) : ∀ (k i : Nat) (r : List UInt8), b.size - i = k → ByteArray.toList.loop b i r = r.reverse ++ b.data.toList.drop i := by
  intro k
  induction k with
  | zero =>
    intro i r h
    unfold ByteArray.toList.loop
    rw [if_neg (by omega), List.drop_of_length_le (by have : b.data.toList.length = b.size := rfl; omega), List.append_nil]
  | succ k ih =>
    intro i r h
    unfold ByteArray.toList.loop
    rw [if_pos (by omega), ih (i + 1) _ (by omega), List.reverse_cons, List.append_assoc]
    have hi : i < b.data.toList.length := by have : b.data.toList.length = b.size := rfl; omega
    rw [List.drop_eq_getElem_cons hi]
    congr 2
    have hi' : i < b.data.size := hi
    show b.data[i]! :: _ = _
    rw [getElem!_pos b.data i hi']; rfl
theorem toList_data (b : ByteArray) : b.toList = b.data.toList := toList_loop b _ 0 [] rfl
theorem strEq_eq {x y : ByteArray} (h : strEq x y = true) : x = y := by
  unfold strEq at h
  have h := beq_iff_eq.1 h
  rw [toList_data, toList_data] at h
  exact ByteArray.ext (Array.toList_inj.1 h)
theorem idx_self {s t : ByteArray} (h1 : t.size = 1) (h : strEq t s = true) : spIdxB s.data.toList (byteAt t 0) = 0 := by
  have := strEq_eq h
  subst this
  obtain ⟨⟨l⟩⟩ := t
  match l, h1 with
  | [x], _ =>
    unfold spIdxB byteAt
    simp [Lib.indexByte]
def prM (m : Int × Int) : ByteArray := spPrint m.1 m.2
def spText (l : List (Int × Int)) : ByteArray := if (l.all fun m => !strEq (prM m) ⟨#[]⟩) = true then joinS (l.map prM) ⟨#[32]⟩ else ⟨#[]⟩
theorem text_bad {l : List (Int × Int)} {i : Nat} (hi : i < l.length) (h : strEq (prM (l.getD i (0, 0))) ⟨#[]⟩ = true) : spText l = ⟨#[]⟩ := by
  unfold spText
  rw [if_neg]
  intro ha
  rw [List.all_eq_true] at ha
  have := ha (l.getD i (0, 0)) (by rw [List.getD_eq_getElem?_getD, List.getElem?_eq_getElem hi]; exact List.getElem_mem hi)
  rw [h] at this; cases this
theorem text_ok {l : List (Int × Int)} (h : ∀ j, j < l.length → strEq (prM (l.getD j (0, 0))) ⟨#[]⟩ = false) : spText l = joinS (l.map prM) ⟨#[32]⟩ := by
  unfold spText
  rw [if_pos]
  rw [List.all_eq_true]
  intro m hm
  obtain ⟨j, hj, rfl⟩ := List.mem_iff_getElem.1 hm
  have := h j hj
  rw [List.getD_eq_getElem?_getD, List.getElem?_eq_getElem hj] at this
  simp only [Option.getD_some] at this
  rw [this]; rfl
theorem take_map_next {α β : Type} (f : α → β) (d : α) {l : List α} {i : Nat} (hi : i < l.length) : (l.take (i + 1)).map f = (l.take i).map f ++ [f (l.getD i d)] := by
  rw [List.take_succ_eq_append_getElem hi, List.map_append, List.getD_eq_getElem?_getD, List.getElem?_eq_getElem hi]; rfl
structure LML (l : List (Int × Int)) : Prop where
  le : l.length ≤ 4096
  u : True
  v : True
theorem print_len (f t : Int) : (spPrint f t).size ≤ 4 := by
  unfold spPrint
  split
  · rw [bytesOf_size]; exact Nat.le_refl _
  · exact Nat.zero_le _
theorem join_len (sep : List UInt8) : ∀ L : List (List UInt8), (∀ x ∈ L, x.length ≤ 4) → (Lib.join L sep).length ≤ (4 + sep.length) * L.length := by
  intro L
  induction L with
  | nil => intro _; simp [Lib.join]
  | cons x L ih =>
    intro h
    have hx := h x (by simp)
    have := ih fun y hy => h y (by simp [hy])
    cases L with
    | nil => simp [Lib.join]; omega
    | cons y L =>
      have e : Lib.join (x :: y :: L) sep = x ++ (sep ++ Lib.join (y :: L) sep) := by simp [Lib.join, List.intercalate]
      rw [e, List.length_append, List.length_append, List.length_cons, Nat.mul_succ]
      omega
theorem text_lj {l : List (Int × Int)} (h : l.length ≤ 4096) : LJ (l.map prM) ⟨#[32]⟩ := by
  refine ⟨by rw [List.length_map]; omega, ?_, trivial⟩
  refine Nat.le_trans (join_len _ _ ?_) ?_
  · intro x hx
    simp only [List.map_map, List.mem_map] at hx
    obtain ⟨m, _, rfl⟩ := hx
    exact print_len m.1 m.2
  · simp only [List.length_map]
    show 5 * l.length ≤ _
    omega
def sameM (l m : List (Int × Int)) : Bool := decide (l = m)
structure LL (l m : List (Int × Int)) : Prop where
  l : l.length ≤ 1000000
  m : m.length ≤ 1000000
  v : True
theorem same_len {l m : List (Int × Int)} (h : ((l.length : Int) != (m.length : Int)) = true) : sameM l m = false := by
  unfold sameM
  rw [decide_eq_false_iff_not]
  intro e
  subst e
  simp at h
theorem same_no {l m : List (Int × Int)} {i : Nat} (hi : i < l.length) (hm : i < m.length) (h : (!(EK.eqb (.pair (.int .i64) (.int .i64)) (l.getD i (0, 0)) (m.getD i (0, 0)))) = true) : sameM l m = false := by
  unfold sameM
  rw [decide_eq_false_iff_not]
  intro e
  subst e
  simp [EK.eqb] at h
theorem same_yes {l m : List (Int × Int)} (hl : l.length = m.length) (h : ∀ j, j < l.length → l.getD j (0, 0) = m.getD j (0, 0)) : sameM l m = true := by
  unfold sameM
  rw [decide_eq_true_eq]
  refine List.ext_getElem hl fun j h1 h2 => ?_
  have := h j h1
  rwa [List.getD_eq_getElem?_getD, List.getD_eq_getElem?_getD, List.getElem?_eq_getElem h1, List.getElem?_eq_getElem h2] at this
theorem pair_eq {x y : Int × Int} (h : (!(EK.eqb (.pair (.int .i64) (.int .i64)) x y)) = false) : x = y := by
  have h := bn h
  simp [EK.eqb] at h
  exact Prod.ext h.1 h.2
end Go.X

namespace Go.X
open Go Go.Proofs

def cLIdx : Con
  | [.a (.s s), .a (.i .u8 c)] => some ⟨[], .a (.i .i64 (spIdxB s.data.toList c)), [], []⟩
  | _ => none
def cSIdx : Con
  | [.a (.s s), .a (.s t)] => some ⟨[S1 t], .a (.i .i64 (spIdxB s.data.toList (byteAt t 0))), [], []⟩
  | _ => none
def cSIndex : Con
  | [.a (.s s), .a (.s t)] => some ⟨[S1 t], .a (.i .i64 (spIdxB s.data.toList (byteAt t 0))), [], []⟩
  | _ => none
def cSplit : Con
  | [.a (.s s), .a (.s t), .a (.i .i64 k)] => some ⟨[], .fn 47 [.box 9 [.a (.s t)], .box 9 [.a (.s s)], .box 3 [.a (.i .i64 k)]], [], []⟩
  | _ => none
def cSplitSeq : Con
  | [.a (.s s), .a (.s t)] => some ⟨[], .fn 47 [.box 9 [.a (.s t)], .box 9 [.a (.s s)], .box 3 [.a (.i .i64 0)]], [], []⟩
  | _ => none
section
variable {G : Nat → World → Prop}
theorem okLIdx (_ : Hyp G) : ConOK Tryz.prog G 89 cLIdx := by
  refine con_ext Tryz.func89 rfl rfl ?_
  intro rvs cr hcr hpre
  unfold cLIdx at hcr
  split at hcr
  · cases hcr
    refine ⟨_, _, _, rfl, rfl, fun _ _ => rfl, fun g0 w _ _ => (Tryz.stringslite_IndexByte _ _ w).mono ?_⟩
    rintro e w' ⟨rfl, rfl⟩
    exact ⟨rfl, ⟨rfl, rfl, rfl, Nat.le_refl _, fun _ _ => rfl⟩⟩
  · cases hcr
theorem okJoin (_ : Hyp G) : ConOK Tryz.prog G 25 cJoin := con_join Tryz.func25 rfl rfl (fun bk o c xs sep w h1 h2 h3 h4 h5 => Tryz.strings_Join bk o c xs sep w h1 h2 h3 h4 h5) (fun p cap sep w => Tryz.strings_Join_none p cap sep w)
set_option maxHeartbeats 4000000 in
set_option maxRecDepth 20000 in
theorem okSplit (hS : Hyp G) : ConOK Tryz.prog G 33 cSplit := by
  refine seat_con hS.seat [] [] trivial Tryz.func33 rfl rfl rfl ?_
  intro rvs cr hcr hpre
  unfold cSplit at hcr
  split at hcr
  · cases hcr
    refine ⟨⟨rfl, rfl, rfl⟩, fun c hc vs => ?_⟩
    repeat' (first | exact Bool.noConfusion ‹(!true) = true› | exact Bool.noConfusion ‹(!false) = false› | (intro h; exact h) | (intro h; rw [h]; rfl) | (intro h1 h2; rw [h1, h2]; rfl) | (intro _; assumption) | (intro _; exact rfl) | (intro h; exact Bool.noConfusion (h.symm.trans ‹_ = false›)) | refine ⟨fun _ => ?_, fun _ => ?_⟩ | refine ⟨?_⟩ | refine ⟨?_, ?_⟩ | fail)
    all_goals first | exact rfl | exact trivial | skip
  · cases hcr
set_option maxHeartbeats 4000000 in
set_option maxRecDepth 20000 in
theorem okSplitSeq (hS : Hyp G) : ConOK Tryz.prog G 23 cSplitSeq := by
  refine seat_con hS.seat [(33, cSplit)] [] ⟨okSplit hS, trivial⟩ Tryz.func23 rfl rfl rfl ?_
  intro rvs cr hcr hpre
  unfold cSplitSeq at hcr
  split at hcr
  · cases hcr
    refine ⟨⟨rfl, rfl, rfl⟩, fun c hc vs => ?_⟩
    repeat' (first | exact Bool.noConfusion ‹(!true) = true› | exact Bool.noConfusion ‹(!false) = false› | (intro h; exact h) | (intro h; rw [h]; rfl) | (intro h1 h2; rw [h1, h2]; rfl) | (intro _; assumption) | (intro _; exact rfl) | (intro h; exact Bool.noConfusion (h.symm.trans ‹_ = false›)) | refine ⟨fun _ => ?_, fun _ => ?_⟩ | refine ⟨?_⟩ | refine ⟨?_, ?_⟩ | fail)
    all_goals first | exact rfl | exact trivial | skip
  · cases hcr
set_option maxHeartbeats 4000000 in
set_option maxRecDepth 20000 in
theorem okSIdx (hS : Hyp G) : ConOK Tryz.prog G 73 cSIdx := by
  refine seat_conT hS.seat [(89, cLIdx)] [] ⟨okLIdx hS, trivial⟩ Tryz.func73 rfl rfl ?_
  intro rvs cr hcr hpre
  unfold cSIdx at hcr
  split at hcr
  · rename_i s t
    cases hcr
    simp only [List.mem_cons, List.not_mem_nil, or_false, forall_eq_or_imp, forall_eq] at hpre
    refine ⟨⟨rfl, rfl, rfl⟩, fun c hc vs => ?_⟩
    have h1 := hpre.is
    refine vs.go rfl ?_
    repeat' (first | exact Bool.noConfusion ‹(!true) = true› | exact Bool.noConfusion ‹(!false) = false› | (intro h; exact h) | (intro h; rw [h]; rfl) | (intro h1 h2; rw [h1, h2]; rfl) | (intro _; assumption) | (intro _; exact rfl) | (intro h; exact Bool.noConfusion (h.symm.trans ‹_ = false›)) | refine ⟨fun _ => ?_, fun _ => ?_⟩ | refine ⟨?_⟩ | refine ⟨?_, ?_⟩ | fail)
    all_goals first | exact rfl | skip
    · refine chk_i ?_
      have hx := ‹((t.size : Int) == 0 || strEq t s) = true›
      rw [show ((t.size : Int) == 0) = false by rw [h1]; rfl, Bool.false_or] at hx
      exact (idx_self h1 hx).symm
    · show (0 : Int) < (t.size : Int); omega
    all_goals
      exfalso
      have hx := beqF ‹((t.size : Int) == 1) = false›
      omega
  · cases hcr
set_option maxHeartbeats 4000000 in
set_option maxRecDepth 20000 in
theorem okSIndex (hS : Hyp G) : ConOK Tryz.prog G 49 cSIndex := by
  refine seat_con hS.seat [(73, cSIdx)] [] ⟨okSIdx hS, trivial⟩ Tryz.func49 rfl rfl rfl ?_
  intro rvs cr hcr hpre
  unfold cSIndex at hcr
  split at hcr
  · cases hcr
    simp only [List.mem_cons, List.not_mem_nil, or_false, forall_eq_or_imp, forall_eq] at hpre
    refine ⟨⟨rfl, rfl, rfl⟩, fun c hc vs => ?_⟩
    repeat' (first | exact Bool.noConfusion ‹(!true) = true› | exact Bool.noConfusion ‹(!false) = false› | (intro h; exact h) | (intro h; rw [h]; rfl) | (intro h1 h2; rw [h1, h2]; rfl) | (intro _; assumption) | (intro _; exact rfl) | (intro h; exact Bool.noConfusion (h.symm.trans ‹_ = false›)) | refine ⟨fun _ => ?_, fun _ => ?_⟩ | refine ⟨?_⟩ | refine ⟨?_, ?_⟩ | fail)
    all_goals first | exact rfl | exact hpre | skip
  · cases hcr
end
end Go.X

namespace Go.X
open Go Go.Proofs

def cSeen : Con
  | [.a (.i .i64 n), .a (.i .i64 side)] => some ⟨[], .tup [.agg [.a (.i .i64 (spSF n side)), .a (.i .i64 (spSR n side))], .a (.b (spOk n side))], [], []⟩
  | _ => none
def cPal : Con
  | [.agg [.a (.i .i64 f), .a (.i .i64 r)]] => some ⟨[], .a (.b (spPal f r)), [], []⟩
  | _ => none
def cOvr : Con
  | [.agg [.a (.i .i64 _), .a (.i .i64 r)]] => some ⟨[], .a (.b (spOvr r)), [], []⟩
  | _ => none
def cAdv : Con
  | [.agg [.a (.i .i64 f), .a (.i .i64 r)]] => some ⟨[], .a (.b (spAdv f r)), [], []⟩
  | _ => none
def cEle : Con
  | [.agg [.a (.i .i64 f), .a (.i .i64 r)]] => some ⟨[], .a (.b (spEle f r)), [], []⟩
  | _ => none
def cPwn : Con
  | [.agg [.a (.i .i64 f), .a (.i .i64 r)]] => some ⟨[], .a (.b (spPwn f r)), [], []⟩
  | _ => none
def cMay : Con
  | [.a (.i .u8 c), .a (.i .i64 n)] => some ⟨[], .a (.b (spMay c n)), [], []⟩
  | _ => none
def cOver : Con
  | [.a (.i .i64 n), .a (.i .i64 side)] => some ⟨[], .a (.b (spOver n side)), [], []⟩
  | _ => none
section
variable {G : Nat → World → Prop}
set_option maxHeartbeats 4000000 in
set_option maxRecDepth 20000 in
theorem okSeen (hS : Hyp G) : ConOK Tryz.prog G 59 cSeen := by
  refine seat_con hS.seat [] [] trivial Tryz.func59 rfl rfl rfl ?_
  intro rvs cr hcr hpre
  unfold cSeen at hcr
  split at hcr
  · rename_i n side
    cases hcr
    refine ⟨⟨rfl, rfl, rfl⟩, fun c hc vs => ?_⟩
    repeat' (first | exact Bool.noConfusion ‹(!true) = true› | exact Bool.noConfusion ‹(!false) = false› | (intro h; exact h) | (intro h; rw [h]; rfl) | (intro h1 h2; rw [h1, h2]; rfl) | (intro _; assumption) | (intro _; exact rfl) | (intro h; exact Bool.noConfusion (h.symm.trans ‹_ = false›)) | refine ⟨fun _ => ?_, fun _ => ?_⟩ | refine ⟨?_⟩ | refine ⟨?_, ?_⟩ | fail)
    all_goals first | exact trivial | (refine (?_ : (_ : Int) ≠ _); decide) | exact rfl | skip
    · refine chk_i ?_; rw [spSF, if_neg]; rw [ok_bad ‹_›]; simp
    · refine chk_i ?_; rw [spSR, if_neg]; rw [ok_bad ‹_›]; simp
    · refine chk_b ?_; rw [ok_bad ‹_›]
    all_goals
      rename_i h hs
      have hok := ok_good h
      have hb : 0 ≤ n ∧ n < 90 := by simp [spOk] at hok; omega
      simp only [beq_iff_eq, beq_eq_false_iff_ne] at hs
    · refine chk_i ?_; rw [spSF, if_pos hok, spTurned, if_pos hs, wrap64 (by omega) (by omega), tmod9 (by omega)]
    · refine chk_i ?_; rw [spSR, if_pos hok, spTurned, if_pos hs, wrap64 (x := 89 - n) (by omega) (by omega), tdiv9 (by omega), wrap64 (by omega) (by omega)]
    · exact chk_b hok.symm
    · refine chk_i ?_; rw [spSF, if_pos hok, spTurned, if_neg hs, tmod9 (by omega)]
    · refine chk_i ?_; rw [spSR, if_pos hok, spTurned, if_neg hs, tdiv9 (by omega), wrap64 (by omega) (by omega)]
    · exact chk_b hok.symm
  · cases hcr
set_option maxHeartbeats 4000000 in
set_option maxRecDepth 20000 in
theorem okPal (hS : Hyp G) : ConOK Tryz.prog G 60 cPal := by
  refine seat_con hS.seat [] [] trivial Tryz.func60 rfl rfl rfl ?_
  intro rvs cr hcr hpre
  unfold cPal at hcr
  split at hcr
  · cases hcr
    refine ⟨⟨rfl, rfl, rfl⟩, fun c hc vs => ?_⟩
    repeat' (first | exact Bool.noConfusion ‹(!true) = true› | exact Bool.noConfusion ‹(!false) = false› | (intro h; exact h) | (intro h; rw [h]; rfl) | (intro h1 h2; rw [h1, h2]; rfl) | (intro _; assumption) | (intro _; exact rfl) | (intro h; exact Bool.noConfusion (h.symm.trans ‹_ = false›)) | refine ⟨fun _ => ?_, fun _ => ?_⟩ | refine ⟨?_⟩ | refine ⟨?_, ?_⟩ | fail)
    all_goals first | exact rfl | (refine chk_i ?_; simp_all [spPal]; done) | (refine chk_i ?_; simp only [spPal, decide_eq_true_eq, decide_eq_false_iff_not, Bool.not_eq_true', Bool.not_eq_false', Bool.or_eq_true, Bool.or_eq_false_iff, Bool.and_eq_true, Bool.and_eq_false_iff] at *; (repeat' split) <;> first | rfl | omega | (simp_all; done) | (simp_all; omega)) | (refine chk_b ?_; simp_all [spPal]; done) | (refine chk_b ?_; simp only [spPal, decide_eq_true_eq, decide_eq_false_iff_not, Bool.not_eq_true', Bool.not_eq_false', Bool.or_eq_true, Bool.or_eq_false_iff, Bool.and_eq_true, Bool.and_eq_false_iff] at *; (repeat' split) <;> first | rfl | omega | (simp_all; done) | (simp_all; omega)) | (refine chk_s ?_; simp_all [spPal]; done) | (refine chk_s ?_; simp only [spPal, decide_eq_true_eq, decide_eq_false_iff_not, Bool.not_eq_true', Bool.not_eq_false', Bool.or_eq_true, Bool.or_eq_false_iff, Bool.and_eq_true, Bool.and_eq_false_iff] at *; (repeat' split) <;> first | rfl | omega | (simp_all; done) | (simp_all; omega)) | (simp_all [spPal]; done) | (simp_all [spPal]; omega) | skip
  · cases hcr
set_option maxHeartbeats 4000000 in
set_option maxRecDepth 20000 in
theorem okOvr (hS : Hyp G) : ConOK Tryz.prog G 83 cOvr := by
  refine seat_con hS.seat [] [] trivial Tryz.func83 rfl rfl rfl ?_
  intro rvs cr hcr hpre
  unfold cOvr at hcr
  split at hcr
  · cases hcr
    refine ⟨⟨rfl, rfl, rfl⟩, fun c hc vs => ?_⟩
    repeat' (first | exact Bool.noConfusion ‹(!true) = true› | exact Bool.noConfusion ‹(!false) = false› | (intro h; exact h) | (intro h; rw [h]; rfl) | (intro h1 h2; rw [h1, h2]; rfl) | (intro _; assumption) | (intro _; exact rfl) | (intro h; exact Bool.noConfusion (h.symm.trans ‹_ = false›)) | refine ⟨fun _ => ?_, fun _ => ?_⟩ | refine ⟨?_⟩ | refine ⟨?_, ?_⟩ | fail)
    all_goals first | exact rfl | (refine chk_i ?_; simp_all [spOvr]; done) | (refine chk_i ?_; simp only [spOvr, decide_eq_true_eq, decide_eq_false_iff_not, Bool.not_eq_true', Bool.not_eq_false', Bool.or_eq_true, Bool.or_eq_false_iff, Bool.and_eq_true, Bool.and_eq_false_iff] at *; (repeat' split) <;> first | rfl | omega | (simp_all; done) | (simp_all; omega)) | (refine chk_b ?_; simp_all [spOvr]; done) | (refine chk_b ?_; simp only [spOvr, decide_eq_true_eq, decide_eq_false_iff_not, Bool.not_eq_true', Bool.not_eq_false', Bool.or_eq_true, Bool.or_eq_false_iff, Bool.and_eq_true, Bool.and_eq_false_iff] at *; (repeat' split) <;> first | rfl | omega | (simp_all; done) | (simp_all; omega)) | (refine chk_s ?_; simp_all [spOvr]; done) | (refine chk_s ?_; simp only [spOvr, decide_eq_true_eq, decide_eq_false_iff_not, Bool.not_eq_true', Bool.not_eq_false', Bool.or_eq_true, Bool.or_eq_false_iff, Bool.and_eq_true, Bool.and_eq_false_iff] at *; (repeat' split) <;> first | rfl | omega | (simp_all; done) | (simp_all; omega)) | (simp_all [spOvr]; done) | (simp_all [spOvr]; omega) | skip
  · cases hcr
set_option maxHeartbeats 4000000 in
set_option maxRecDepth 20000 in
theorem okAdv (hS : Hyp G) : ConOK Tryz.prog G 61 cAdv := by
  refine seat_con hS.seat [(60, cPal)] [] ⟨okPal hS, trivial⟩ Tryz.func61 rfl rfl rfl ?_
  intro rvs cr hcr hpre
  unfold cAdv at hcr
  split at hcr
  · cases hcr
    refine ⟨⟨rfl, rfl, rfl⟩, fun c hc vs => ?_⟩
    repeat' (first | exact Bool.noConfusion ‹(!true) = true› | exact Bool.noConfusion ‹(!false) = false› | (intro h; exact h) | (intro h; rw [h]; rfl) | (intro h1 h2; rw [h1, h2]; rfl) | (intro _; assumption) | (intro _; exact rfl) | (intro h; exact Bool.noConfusion (h.symm.trans ‹_ = false›)) | refine ⟨fun _ => ?_, fun _ => ?_⟩ | refine ⟨?_⟩ | refine ⟨?_, ?_⟩ | fail)
    all_goals first | exact rfl | (refine chk_i ?_; simp_all [spAdv]; done) | (refine chk_i ?_; simp only [spAdv, decide_eq_true_eq, decide_eq_false_iff_not, Bool.not_eq_true', Bool.not_eq_false', Bool.or_eq_true, Bool.or_eq_false_iff, Bool.and_eq_true, Bool.and_eq_false_iff] at *; (repeat' split) <;> first | rfl | omega | (simp_all; done) | (simp_all; omega)) | (refine chk_b ?_; simp_all [spAdv]; done) | (refine chk_b ?_; simp only [spAdv, decide_eq_true_eq, decide_eq_false_iff_not, Bool.not_eq_true', Bool.not_eq_false', Bool.or_eq_true, Bool.or_eq_false_iff, Bool.and_eq_true, Bool.and_eq_false_iff] at *; (repeat' split) <;> first | rfl | omega | (simp_all; done) | (simp_all; omega)) | (refine chk_s ?_; simp_all [spAdv]; done) | (refine chk_s ?_; simp only [spAdv, decide_eq_true_eq, decide_eq_false_iff_not, Bool.not_eq_true', Bool.not_eq_false', Bool.or_eq_true, Bool.or_eq_false_iff, Bool.and_eq_true, Bool.and_eq_false_iff] at *; (repeat' split) <;> first | rfl | omega | (simp_all; done) | (simp_all; omega)) | (simp_all [spAdv]; done) | (simp_all [spAdv]; omega) | skip
  · cases hcr
set_option maxHeartbeats 4000000 in
set_option maxRecDepth 20000 in
theorem okEle (hS : Hyp G) : ConOK Tryz.prog G 62 cEle := by
  refine seat_con hS.seat [] [] trivial Tryz.func62 rfl rfl rfl ?_
  intro rvs cr hcr hpre
  unfold cEle at hcr
  split at hcr
  · cases hcr
    refine ⟨⟨rfl, rfl, rfl⟩, fun c hc vs => ?_⟩
    repeat' (first | exact Bool.noConfusion ‹(!true) = true› | exact Bool.noConfusion ‹(!false) = false› | (intro h; exact h) | (intro h; rw [h]; rfl) | (intro h1 h2; rw [h1, h2]; rfl) | (intro _; assumption) | (intro _; exact rfl) | (intro h; exact Bool.noConfusion (h.symm.trans ‹_ = false›)) | refine ⟨fun _ => ?_, fun _ => ?_⟩ | refine ⟨?_⟩ | refine ⟨?_, ?_⟩ | fail)
    all_goals first | exact rfl | (refine chk_i ?_; simp_all [spEle]; done) | (refine chk_i ?_; simp only [spEle, decide_eq_true_eq, decide_eq_false_iff_not, Bool.not_eq_true', Bool.not_eq_false', Bool.or_eq_true, Bool.or_eq_false_iff, Bool.and_eq_true, Bool.and_eq_false_iff] at *; (repeat' split) <;> first | rfl | omega | (simp_all; done) | (simp_all; omega)) | (refine chk_b ?_; simp_all [spEle]; done) | (refine chk_b ?_; simp only [spEle, decide_eq_true_eq, decide_eq_false_iff_not, Bool.not_eq_true', Bool.not_eq_false', Bool.or_eq_true, Bool.or_eq_false_iff, Bool.and_eq_true, Bool.and_eq_false_iff] at *; (repeat' split) <;> first | rfl | omega | (simp_all; done) | (simp_all; omega)) | (refine chk_s ?_; simp_all [spEle]; done) | (refine chk_s ?_; simp only [spEle, decide_eq_true_eq, decide_eq_false_iff_not, Bool.not_eq_true', Bool.not_eq_false', Bool.or_eq_true, Bool.or_eq_false_iff, Bool.and_eq_true, Bool.and_eq_false_iff] at *; (repeat' split) <;> first | rfl | omega | (simp_all; done) | (simp_all; omega)) | (simp_all [spEle]; done) | (simp_all [spEle]; omega) | skip
  · cases hcr
set_option maxHeartbeats 4000000 in
set_option maxRecDepth 20000 in
theorem okPwn (hS : Hyp G) : ConOK Tryz.prog G 63 cPwn := by
  refine seat_con hS.seat [(83, cOvr)] [] ⟨okOvr hS, trivial⟩ Tryz.func63 rfl rfl rfl ?_
  intro rvs cr hcr hpre
  unfold cPwn at hcr
  split at hcr
  · cases hcr
    refine ⟨⟨rfl, rfl, rfl⟩, fun c hc vs => ?_⟩
    repeat' (first | exact Bool.noConfusion ‹(!true) = true› | exact Bool.noConfusion ‹(!false) = false› | (intro h; exact h) | (intro h; rw [h]; rfl) | (intro h1 h2; rw [h1, h2]; rfl) | (intro _; assumption) | (intro _; exact rfl) | (intro h; exact Bool.noConfusion (h.symm.trans ‹_ = false›)) | refine ⟨fun _ => ?_, fun _ => ?_⟩ | refine ⟨?_⟩ | refine ⟨?_, ?_⟩ | fail)
    all_goals first | exact rfl | (refine chk_i ?_; simp_all [spPwn]; done) | (refine chk_i ?_; simp only [spPwn, decide_eq_true_eq, decide_eq_false_iff_not, Bool.not_eq_true', Bool.not_eq_false', Bool.or_eq_true, Bool.or_eq_false_iff, Bool.and_eq_true, Bool.and_eq_false_iff] at *; (repeat' split) <;> first | rfl | omega | (simp_all; done) | (simp_all; omega)) | (refine chk_b ?_; simp_all [spPwn]; done) | (refine chk_b ?_; simp only [spPwn, decide_eq_true_eq, decide_eq_false_iff_not, Bool.not_eq_true', Bool.not_eq_false', Bool.or_eq_true, Bool.or_eq_false_iff, Bool.and_eq_true, Bool.and_eq_false_iff] at *; (repeat' split) <;> first | rfl | omega | (simp_all; done) | (simp_all; omega)) | (refine chk_s ?_; simp_all [spPwn]; done) | (refine chk_s ?_; simp only [spPwn, decide_eq_true_eq, decide_eq_false_iff_not, Bool.not_eq_true', Bool.not_eq_false', Bool.or_eq_true, Bool.or_eq_false_iff, Bool.and_eq_true, Bool.and_eq_false_iff] at *; (repeat' split) <;> first | rfl | omega | (simp_all; done) | (simp_all; omega)) | (simp_all [spPwn]; done) | (simp_all [spPwn]; omega) | skip
  · cases hcr
set_option maxHeartbeats 4000000 in
set_option maxRecDepth 20000 in
theorem okMay (hS : Hyp G) : ConOK Tryz.prog G 41 cMay := by
  refine seat_con hS.seat [(50, cSide), (43, cKind), (59, cSeen), (60, cPal), (61, cAdv), (62, cEle), (63, cPwn)] [] ⟨okSide hS, okKind hS, okSeen hS, okPal hS, okAdv hS, okEle hS, okPwn hS, trivial⟩ Tryz.func41 rfl rfl rfl ?_
  intro rvs cr hcr hpre
  unfold cMay at hcr
  split at hcr
  · cases hcr
    refine ⟨⟨rfl, rfl, rfl⟩, fun c hc vs => ?_⟩
    repeat' (first | exact Bool.noConfusion ‹(!true) = true› | exact Bool.noConfusion ‹(!false) = false› | (intro h; exact h) | (intro h; rw [h]; rfl) | (intro h1 h2; rw [h1, h2]; rfl) | (intro _; assumption) | (intro _; exact rfl) | (intro h; exact Bool.noConfusion (h.symm.trans ‹_ = false›)) | refine ⟨fun _ => ?_, fun _ => ?_⟩ | refine ⟨?_⟩ | refine ⟨?_, ?_⟩ | fail)
    all_goals first | exact rfl | (refine chk_i ?_; simp_all [spMay]; done) | (refine chk_i ?_; simp only [spMay, decide_eq_true_eq, decide_eq_false_iff_not, Bool.not_eq_true', Bool.not_eq_false', Bool.or_eq_true, Bool.or_eq_false_iff, Bool.and_eq_true, Bool.and_eq_false_iff] at *; (repeat' split) <;> first | rfl | omega | (simp_all; done) | (simp_all; omega)) | (refine chk_b ?_; simp_all [spMay]; done) | (refine chk_b ?_; simp only [spMay, decide_eq_true_eq, decide_eq_false_iff_not, Bool.not_eq_true', Bool.not_eq_false', Bool.or_eq_true, Bool.or_eq_false_iff, Bool.and_eq_true, Bool.and_eq_false_iff] at *; (repeat' split) <;> first | rfl | omega | (simp_all; done) | (simp_all; omega)) | (refine chk_s ?_; simp_all [spMay]; done) | (refine chk_s ?_; simp only [spMay, decide_eq_true_eq, decide_eq_false_iff_not, Bool.not_eq_true', Bool.not_eq_false', Bool.or_eq_true, Bool.or_eq_false_iff, Bool.and_eq_true, Bool.and_eq_false_iff] at *; (repeat' split) <;> first | rfl | omega | (simp_all; done) | (simp_all; omega)) | (simp_all [spMay]; done) | (simp_all [spMay]; omega) | skip
  · cases hcr
set_option maxHeartbeats 4000000 in
set_option maxRecDepth 20000 in
theorem okOver (hS : Hyp G) : ConOK Tryz.prog G 113 cOver := by
  refine seat_con hS.seat [(59, cSeen), (83, cOvr)] [] ⟨okSeen hS, okOvr hS, trivial⟩ Tryz.func113 rfl rfl rfl ?_
  intro rvs cr hcr hpre
  unfold cOver at hcr
  split at hcr
  · cases hcr
    refine ⟨⟨rfl, rfl, rfl⟩, fun c hc vs => ?_⟩
    repeat' (first | exact Bool.noConfusion ‹(!true) = true› | exact Bool.noConfusion ‹(!false) = false› | (intro h; exact h) | (intro h; rw [h]; rfl) | (intro h1 h2; rw [h1, h2]; rfl) | (intro _; assumption) | (intro _; exact rfl) | (intro h; exact Bool.noConfusion (h.symm.trans ‹_ = false›)) | refine ⟨fun _ => ?_, fun _ => ?_⟩ | refine ⟨?_⟩ | refine ⟨?_, ?_⟩ | fail)
    all_goals first | exact rfl | (refine chk_i ?_; simp_all [spOver]; done) | (refine chk_i ?_; simp only [spOver, decide_eq_true_eq, decide_eq_false_iff_not, Bool.not_eq_true', Bool.not_eq_false', Bool.or_eq_true, Bool.or_eq_false_iff, Bool.and_eq_true, Bool.and_eq_false_iff] at *; (repeat' split) <;> first | rfl | omega | (simp_all; done) | (simp_all; omega)) | (refine chk_b ?_; simp_all [spOver]; done) | (refine chk_b ?_; simp only [spOver, decide_eq_true_eq, decide_eq_false_iff_not, Bool.not_eq_true', Bool.not_eq_false', Bool.or_eq_true, Bool.or_eq_false_iff, Bool.and_eq_true, Bool.and_eq_false_iff] at *; (repeat' split) <;> first | rfl | omega | (simp_all; done) | (simp_all; omega)) | (refine chk_s ?_; simp_all [spOver]; done) | (refine chk_s ?_; simp only [spOver, decide_eq_true_eq, decide_eq_false_iff_not, Bool.not_eq_true', Bool.not_eq_false', Bool.or_eq_true, Bool.or_eq_false_iff, Bool.and_eq_true, Bool.and_eq_false_iff] at *; (repeat' split) <;> first | rfl | omega | (simp_all; done) | (simp_all; omega)) | (simp_all [spOver]; done) | (simp_all [spOver]; omega) | skip
  · cases hcr
end
end Go.X

namespace Go.X
open Go Go.Proofs

def rtS (s : BS) : RT := .agg [.a (.i .u64 (.ofNat s.1)), .a (.i .u64 (.ofNat s.2))]
def cOne : Con
  | [.a (.i .i64 n)] => some ⟨[], rtS (spOne n), [], []⟩
  | _ => none
def cOr : Con
  | [.agg [.a (.i .u64 a0), .a (.i .u64 a1)], .agg [.a (.i .u64 b0), .a (.i .u64 b1)]] => some ⟨[UI a0, UI a1, UI b0, UI b1], rtS (spOr (a0.toNat, a1.toNat) (b0.toNat, b1.toNat)), [], []⟩
  | _ => none
def cMinus : Con
  | [.agg [.a (.i .u64 a0), .a (.i .u64 a1)], .agg [.a (.i .u64 b0), .a (.i .u64 b1)]] => some ⟨[UI a0, UI a1, UI b0, UI b1], rtS (spMinus (a0.toNat, a1.toNat) (b0.toNat, b1.toNat)), [], []⟩
  | _ => none
def cWith : Con
  | [.agg [.a (.i .u64 a0), .a (.i .u64 a1)], .a (.i .i64 n)] => some ⟨[UI a0, UI a1], rtS (spWith (a0.toNat, a1.toNat) n), [], []⟩
  | _ => none
def cWithout : Con
  | [.agg [.a (.i .u64 a0), .a (.i .u64 a1)], .a (.i .i64 n)] => some ⟨[UI a0, UI a1], rtS (spWithout (a0.toNat, a1.toNat) n), [], []⟩
  | _ => none
def cPlain : Con
  | [.agg [.a (.i .u64 a0), .a (.i .u64 a1)]] => some ⟨[UI a0, UI a1], rtS (spPlain (a0.toNat, a1.toNat)), [], []⟩
  | _ => none
def cTz : Con
  | [.a (.i .u64 x)] => some ⟨[UI x], .a (.i .i64 (.ofNat (Lib.ctz 64 x.toNat))), [], []⟩
  | _ => none
def cFirst : Con
  | [.agg [.a (.i .u64 a0), .a (.i .u64 a1)]] => some ⟨[UI a0, UI a1], .a (.i .i64 (spFirst (a0.toNat, a1.toNat))), [], []⟩
  | _ => none
def cEach : Con
  | [.agg [.a (.i .u64 a0), .a (.i .u64 a1)]] => some ⟨[], .fn 128 [.box 133 [.a (.i .u64 a0), .a (.i .u64 a1)]], [], []⟩
  | _ => none

theorem shl64 {n : Int} (h : 0 ≤ n) (h' : n < 45) : IntKind.u64.wrap (1 * 2 ^ min n.toNat IntKind.u64.bits) = Int.ofNat (2 ^ n.toNat) := by
  have h1 : min n.toNat IntKind.u64.bits = n.toNat := Nat.min_eq_left (by show n.toNat ≤ 64; omega)
  have h2 : 2 ^ n.toNat < 2 ^ 45 := Nat.pow_lt_pow_right (by decide) (by omega)
  rw [h1, IntKind.wrap_u64, Int.one_mul]
  have h3 : ((2 : Int) ^ n.toNat) = ((2 ^ n.toNat : Nat) : Int) := by simp
  rw [h3]
  show _ = ((2 ^ n.toNat : Nat) : Int)
  generalize 2 ^ n.toNat = m at h2
  have : m < 35184372088832 := h2
  omega
section
variable {G : Nat → World → Prop}
set_option maxHeartbeats 4000000 in
set_option maxRecDepth 20000 in
theorem okOne (hS : Hyp G) : ConOK Tryz.prog G 126 cOne := by
  refine seat_con hS.seat [] [] trivial Tryz.func126 rfl rfl rfl ?_
  intro rvs cr hcr hpre
  unfold cOne at hcr
  split at hcr
  · cases hcr
    refine ⟨⟨rfl, rfl, rfl⟩, fun c hc vs => ?_⟩
    repeat' (first | exact Bool.noConfusion ‹(!true) = true› | exact Bool.noConfusion ‹(!false) = false› | (intro h; exact h) | (intro h; rw [h]; rfl) | (intro h1 h2; rw [h1, h2]; rfl) | (intro _; assumption) | (intro _; exact rfl) | (intro h; exact Bool.noConfusion (h.symm.trans ‹_ = false›)) | refine ⟨fun _ => ?_, fun _ => ?_⟩ | refine ⟨?_⟩ | refine ⟨?_, ?_⟩ | fail)
    all_goals first | (refine chk_i ?_) | (refine chk_b ?_) | (refine chk_s ?_) | exact trivial | exact rfl | skip
    · rename_i n _ h; rw [spOne, if_pos h]; rfl
    · rename_i n _ h; rw [spOne, if_pos h]; rfl
    · rename_i n _ h1 h2; simp at h1; omega
    · rename_i n _ h1 h2
      rw [spOne, h1, if_neg (by simp), if_pos (by simpa using h2)]
      simp at h1 h2
      exact shl64 (by omega) (by omega)
    · rename_i n _ h1 h2
      rw [spOne, h1, if_neg (by simp), if_pos (by simpa using h2)]; rfl
    · rename_i n _ h1 h2; simp at h1 h2; rw [wrap64 (by omega) (by omega)]; omega
    · rename_i n _ h1 h2
      rw [spOne, h1, if_neg (by simp), if_neg (by simpa using h2)]; rfl
    · rename_i n _ h1 h2
      rw [spOne, h1, if_neg (by simp), if_neg (by simpa using h2)]
      simp at h1 h2
      rw [wrap64 (by omega) (by omega)]
      exact shl64 (by omega) (by omega)
  · cases hcr
set_option maxHeartbeats 4000000 in
set_option maxRecDepth 20000 in
theorem okPlain (hS : Hyp G) : ConOK Tryz.prog G 129 cPlain := by
  refine seat_con hS.seat [] [] trivial Tryz.func129 rfl rfl rfl ?_
  intro rvs cr hcr hpre
  unfold cPlain at hcr
  split at hcr
  · cases hcr
    simp only [List.mem_cons, List.not_mem_nil, or_false, forall_eq_or_imp, forall_eq] at hpre
    refine ⟨⟨rfl, rfl, rfl⟩, fun c hc vs => ?_⟩
    repeat' (first | exact Bool.noConfusion ‹(!true) = true› | exact Bool.noConfusion ‹(!false) = false› | (intro h; exact h) | (intro h; rw [h]; rfl) | (intro h1 h2; rw [h1, h2]; rfl) | (intro _; assumption) | (intro _; exact rfl) | (intro h; exact Bool.noConfusion (h.symm.trans ‹_ = false›)) | refine ⟨fun _ => ?_, fun _ => ?_⟩ | refine ⟨?_⟩ | refine ⟨?_, ?_⟩ | fail)
    all_goals first | (refine chk_i ?_) | (refine chk_b ?_) | (refine chk_s ?_) | exact trivial | exact rfl | skip
    · exact and_nat hpre.1 UI_M
    · exact and_nat hpre.2 UI_M
  · cases hcr
set_option maxHeartbeats 4000000 in
set_option maxRecDepth 20000 in
theorem okOr (hS : Hyp G) : ConOK Tryz.prog G 125 cOr := by
  refine seat_con hS.seat [(129, cPlain)] [] ⟨okPlain hS, trivial⟩ Tryz.func125 rfl rfl rfl ?_
  intro rvs cr hcr hpre
  unfold cOr at hcr
  split at hcr
  · cases hcr
    simp only [List.mem_cons, List.not_mem_nil, or_false, forall_eq_or_imp, forall_eq] at hpre
    refine ⟨⟨rfl, rfl, rfl⟩, fun c hc vs => ?_⟩
    repeat' (first | exact Bool.noConfusion ‹(!true) = true› | exact Bool.noConfusion ‹(!false) = false› | (intro h; exact h) | (intro h; rw [h]; rfl) | (intro h1 h2; rw [h1, h2]; rfl) | (intro _; assumption) | (intro _; exact rfl) | (intro h; exact Bool.noConfusion (h.symm.trans ‹_ = false›)) | refine ⟨fun _ => ?_, fun _ => ?_⟩ | refine ⟨?_⟩ | refine ⟨?_, ?_⟩ | fail)
    all_goals first | (refine chk_i ?_) | (refine chk_b ?_) | (refine chk_s ?_) | exact trivial | exact rfl | skip
    · exact UI_or hpre.1 hpre.2.2.1
    · exact UI_or hpre.2.1 hpre.2.2.2
    · rw [or_nat hpre.1 hpre.2.2.1, or_nat hpre.2.1 hpre.2.2.2]; rfl
    · rw [or_nat hpre.1 hpre.2.2.1, or_nat hpre.2.1 hpre.2.2.2]; rfl
  · cases hcr
set_option maxHeartbeats 4000000 in
set_option maxRecDepth 20000 in
theorem okMinus (hS : Hyp G) : ConOK Tryz.prog G 141 cMinus := by
  refine seat_con hS.seat [(129, cPlain)] [] ⟨okPlain hS, trivial⟩ Tryz.func141 rfl rfl rfl ?_
  intro rvs cr hcr hpre
  unfold cMinus at hcr
  split at hcr
  · cases hcr
    simp only [List.mem_cons, List.not_mem_nil, or_false, forall_eq_or_imp, forall_eq] at hpre
    refine ⟨⟨rfl, rfl, rfl⟩, fun c hc vs => ?_⟩
    repeat' (first | exact Bool.noConfusion ‹(!true) = true› | exact Bool.noConfusion ‹(!false) = false› | (intro h; exact h) | (intro h; rw [h]; rfl) | (intro h1 h2; rw [h1, h2]; rfl) | (intro _; assumption) | (intro _; exact rfl) | (intro h; exact Bool.noConfusion (h.symm.trans ‹_ = false›)) | refine ⟨fun _ => ?_, fun _ => ?_⟩ | refine ⟨?_⟩ | refine ⟨?_, ?_⟩ | fail)
    all_goals first | (refine chk_i ?_) | (refine chk_b ?_) | (refine chk_s ?_) | exact trivial | exact rfl | skip
    · exact UI_andNot hpre.1 hpre.2.2.1
    · exact UI_andNot hpre.2.1 hpre.2.2.2
    · rw [andNot_nat hpre.1 hpre.2.2.1, andNot_nat hpre.2.1 hpre.2.2.2]; rfl
    · rw [andNot_nat hpre.1 hpre.2.2.1, andNot_nat hpre.2.1 hpre.2.2.2]; rfl
  · cases hcr
set_option maxHeartbeats 4000000 in
set_option maxRecDepth 20000 in
theorem okWith (hS : Hyp G) : ConOK Tryz.prog G 102 cWith := by
  refine seat_con hS.seat [(126, cOne), (125, cOr)] [] ⟨okOne hS, okOr hS, trivial⟩ Tryz.func102 rfl rfl rfl ?_
  intro rvs cr hcr hpre
  unfold cWith at hcr
  split at hcr
  · cases hcr
    simp only [List.mem_cons, List.not_mem_nil, or_false, forall_eq_or_imp, forall_eq] at hpre
    refine ⟨⟨rfl, rfl, rfl⟩, fun c hc vs => ?_⟩
    repeat' (first | exact Bool.noConfusion ‹(!true) = true› | exact Bool.noConfusion ‹(!false) = false› | (intro h; exact h) | (intro h; rw [h]; rfl) | (intro h1 h2; rw [h1, h2]; rfl) | (intro _; assumption) | (intro _; exact rfl) | (intro h; exact Bool.noConfusion (h.symm.trans ‹_ = false›)) | refine ⟨fun _ => ?_, fun _ => ?_⟩ | refine ⟨?_⟩ | refine ⟨?_, ?_⟩ | fail)
    all_goals first | (refine chk_i ?_) | (refine chk_b ?_) | (refine chk_s ?_) | exact trivial | exact rfl | skip
    · exact hpre.1
    · exact hpre.2
    · exact UI.nat (by have := one_lt ‹Int›; omega)
    · exact UI.nat (by have := one_lt ‹Int›; omega)
    · rfl
    · rfl
  · cases hcr
set_option maxHeartbeats 4000000 in
set_option maxRecDepth 20000 in
theorem okWithout (hS : Hyp G) : ConOK Tryz.prog G 131 cWithout := by
  refine seat_con hS.seat [(126, cOne), (141, cMinus)] [] ⟨okOne hS, okMinus hS, trivial⟩ Tryz.func131 rfl rfl rfl ?_
  intro rvs cr hcr hpre
  unfold cWithout at hcr
  split at hcr
  · cases hcr
    simp only [List.mem_cons, List.not_mem_nil, or_false, forall_eq_or_imp, forall_eq] at hpre
    refine ⟨⟨rfl, rfl, rfl⟩, fun c hc vs => ?_⟩
    repeat' (first | exact Bool.noConfusion ‹(!true) = true› | exact Bool.noConfusion ‹(!false) = false› | (intro h; exact h) | (intro h; rw [h]; rfl) | (intro h1 h2; rw [h1, h2]; rfl) | (intro _; assumption) | (intro _; exact rfl) | (intro h; exact Bool.noConfusion (h.symm.trans ‹_ = false›)) | refine ⟨fun _ => ?_, fun _ => ?_⟩ | refine ⟨?_⟩ | refine ⟨?_, ?_⟩ | fail)
    all_goals first | (refine chk_i ?_) | (refine chk_b ?_) | (refine chk_s ?_) | exact trivial | exact rfl | skip
    · exact hpre.1
    · exact hpre.2
    · exact UI.nat (by have := one_lt ‹Int›; omega)
    · exact UI.nat (by have := one_lt ‹Int›; omega)
    · rfl
    · rfl
  · cases hcr
theorem okTz (hS : Hyp G) : ConOK Tryz.prog G 140 cTz := by
  refine con_ext Tryz.func140 rfl rfl ?_
  intro rvs cr hcr hpre
  unfold cTz at hcr
  split at hcr
  · cases hcr
    rename_i x
    have hx := hpre _ (List.mem_singleton.2 rfl)
    obtain ⟨n, rfl⟩ := Int.eq_ofNat_of_zero_le hx.lo
    have hx2 := hx.hi
    refine ⟨_, _, _, rfl, rfl, fun _ _ => rfl, fun g0 w _ hG => (Tryz.bits_TrailingZeros64 n (by omega) w (fun _ => hS.tab g0 w hG)).mono ?_⟩
    rintro e w' ⟨rfl, rfl⟩
    exact ⟨rfl, ⟨rfl, rfl, rfl, Nat.le_refl _, fun _ _ => rfl⟩⟩
  · cases hcr
set_option maxHeartbeats 4000000 in
set_option maxRecDepth 20000 in
theorem okFirst (hS : Hyp G) : ConOK Tryz.prog G 130 cFirst := by
  refine seat_con hS.seat [(129, cPlain), (140, cTz)] [] ⟨okPlain hS, okTz hS, trivial⟩ Tryz.func130 rfl rfl rfl ?_
  intro rvs cr hcr hpre
  unfold cFirst at hcr
  split at hcr
  · cases hcr
    simp only [List.mem_cons, List.not_mem_nil, or_false, forall_eq_or_imp, forall_eq] at hpre
    refine ⟨⟨rfl, rfl, rfl⟩, fun c hc vs => ?_⟩
    repeat' (first | exact Bool.noConfusion ‹(!true) = true› | exact Bool.noConfusion ‹(!false) = false› | (intro h; exact h) | (intro h; rw [h]; rfl) | (intro h1 h2; rw [h1, h2]; rfl) | (intro _; assumption) | (intro _; exact rfl) | (intro h; exact Bool.noConfusion (h.symm.trans ‹_ = false›)) | refine ⟨fun _ => ?_, fun _ => ?_⟩ | refine ⟨?_⟩ | refine ⟨?_, ?_⟩ | fail)
    all_goals first | (refine chk_i ?_) | (refine chk_b ?_) | (refine chk_s ?_) | exact trivial | exact rfl | skip
    all_goals obtain ⟨ha, hb⟩ := hpre
    · exact ha
    · exact hb
    · exact UI.nat (Nat.lt_trans (plain_lt _).1 (by decide))
    · rename_i h; exact first1 _ h
    · exact UI.nat (Nat.lt_trans (plain_lt _).2 (by decide))
    · rename_i h1 h2; exact first2 _ h1 h2
    · rename_i h1 h2; exact first3 _ h1 h2
  · cases hcr
set_option maxHeartbeats 4000000 in
set_option maxRecDepth 20000 in
theorem okEach (hS : Hyp G) : ConOK Tryz.prog G 104 cEach := by
  refine seat_con hS.seat [] [] trivial Tryz.func104 rfl rfl rfl ?_
  intro rvs cr hcr hpre
  unfold cEach at hcr
  split at hcr
  · cases hcr
    simp only [List.mem_cons, List.not_mem_nil, or_false, forall_eq_or_imp, forall_eq] at hpre
    refine ⟨⟨rfl, rfl, rfl⟩, fun c hc vs => ?_⟩
    repeat' (first | exact Bool.noConfusion ‹(!true) = true› | exact Bool.noConfusion ‹(!false) = false› | (intro h; exact h) | (intro h; rw [h]; rfl) | (intro h1 h2; rw [h1, h2]; rfl) | (intro _; assumption) | (intro _; exact rfl) | (intro h; exact Bool.noConfusion (h.symm.trans ‹_ = false›)) | refine ⟨fun _ => ?_, fun _ => ?_⟩ | refine ⟨?_⟩ | refine ⟨?_, ?_⟩ | fail)
    all_goals first | (refine chk_i ?_) | (refine chk_b ?_) | (refine chk_s ?_) | exact trivial | exact rfl | skip
    · rfl
    · rfl
  · cases hcr
end
end Go.X

namespace Go.X
open Go Go.Proofs

def cList : Con
  | [.agg [.a (.i .u64 a0), .a (.i .u64 a1)]] => some ⟨[UI a0, UI a1], .row ⟨3, .int .i64, spList (a0.toNat, a1.toNat), true⟩, [], []⟩
  | _ => none
section
variable {G : Nat → World → Prop}
set_option maxHeartbeats 4000000 in
set_option maxRecDepth 20000 in
theorem okList (hS : Hyp G) : ConOK Tryz.prog G 86 cList := by
  refine seat_con hS.seat [(104, cEach), (129, cPlain), (130, cFirst), (131, cWithout)] [] ⟨okEach hS, okPlain hS, okFirst hS, okWithout hS, trivial⟩ Tryz.func86 rfl rfl rfl ?_
  intro rvs cr hcr hpre
  unfold cList at hcr
  split at hcr
  · rename_i x a0 a1
    cases hcr
    simp only [List.mem_cons, List.not_mem_nil, or_false, forall_eq_or_imp, forall_eq] at hpre
    refine ⟨⟨rfl, rfl, rfl⟩, fun c hc vs => ?_⟩
    repeat' (first | exact Bool.noConfusion ‹(!true) = true› | exact Bool.noConfusion ‹(!false) = false› | (intro h; exact h) | (intro h; rw [h]; rfl) | (intro h1 h2; rw [h1, h2]; rfl) | (intro _; assumption) | (intro _; exact rfl) | (intro h; exact Bool.noConfusion (h.symm.trans ‹_ = false›)) | refine ⟨fun _ => ?_, fun _ => ?_⟩ | refine ⟨?_⟩ | refine ⟨?_, ?_⟩ | fail)
    refine trOps_none rfl (inl_one false hS.seat.tt rfl rfl Tryz.func103 rfl rfl ?_)
    intro cI hk hr
    refine (vs.kin hk).go rfl ?_
    repeat' (first | exact Bool.noConfusion ‹(!true) = true› | exact Bool.noConfusion ‹(!false) = false› | (intro h; exact h) | (intro h; rw [h]; rfl) | (intro h1 h2; rw [h1, h2]; rfl) | (intro _; assumption) | (intro _; exact rfl) | (intro h; exact Bool.noConfusion (h.symm.trans ‹_ = false›)) | refine ⟨fun _ => ?_, fun _ => ?_⟩ | refine ⟨?_⟩ | refine ⟨?_, ?_⟩ | fail)
    refine trOps_none rfl (inl_one false hS.seat.tt rfl rfl Tryz.func127 rfl rfl ?_)
    intro cI2 hk2 hr2
    refine ((vs.kin hk).kin hk2).go rfl ?_
    repeat' (first | exact Bool.noConfusion ‹(!true) = true› | exact Bool.noConfusion ‹(!false) = false› | (intro h; exact h) | (intro h; rw [h]; rfl) | (intro h1 h2; rw [h1, h2]; rfl) | (intro _; assumption) | (intro _; exact rfl) | (intro h; exact Bool.noConfusion (h.symm.trans ‹_ = false›)) | refine ⟨fun _ => ?_, fun _ => ?_⟩ | refine ⟨?_⟩ | refine ⟨?_, ?_⟩ | fail)
    refine Tr_nilBox 3 (.int .i64) 2 0 rfl rfl (by decide) ?_
    refine tr_range hr2 rfl Tryz.func128 rfl rfl rfl (fun c2 hk3 hr3 hI => ?_)
    refine (((vs.kin hk).kin hk2).kin hk3).go rfl ?_
    repeat' (first | exact Bool.noConfusion ‹(!true) = true› | exact Bool.noConfusion ‹(!false) = false› | (intro h; exact h) | (intro h; rw [h]; rfl) | (intro h1 h2; rw [h1, h2]; rfl) | (intro _; assumption) | (intro _; exact rfl) | (intro h; exact Bool.noConfusion (h.symm.trans ‹_ = false›)) | refine ⟨fun _ => ?_, fun _ => ?_⟩ | refine ⟨?_⟩ | refine ⟨?_, ?_⟩ | fail)
    · exact hpre.1
    · exact hpre.2
    refine Tr_loopH (α := BS × List Int) (fun _ => []) (fun x => [(1, some ⟨133, [.i .u64 (.ofNat x.1.1), .i .u64 (.ofNat x.1.2)], true⟩)]) (fun x => [(0, some ⟨3, .int .i64, x.2, true⟩)])
      (fun x => (x.1.1 < 2 ^ 45 ∧ x.1.2 < 2 ^ 45) ∧ x.2 ++ spList x.1 = spList (a0.toNat, a1.toNat)) (fun x => (spList x.1).length) (spPlain (a0.toNat, a1.toNat), []) ?_ ?_ ?_
    · exact ⟨plain_lt _, by rw [List.nil_append, spList_plain]⟩
    · (refine ⟨?_, rfl, ?_, ?_, ?_, rfl⟩ <;> repeat' (first | exact trivial | (refine ⟨rfl, ?_⟩) | fail))
    · rintro ⟨b, acc⟩ ⟨hb, hacc⟩
      have hlen : acc.length ≤ 90 := by
        have h1 := congrArg List.length hacc
        have h2 := spList_len (a0.toNat, a1.toNat)
        simp only [List.length_append] at h1
        omega
      refine (((vs.kin hk).kin hk2).kin hk3).go rfl ?_
      repeat' (first | exact Bool.noConfusion ‹(!true) = true› | exact Bool.noConfusion ‹(!false) = false› | (intro h; exact h) | (intro h; rw [h]; rfl) | (intro h1 h2; rw [h1, h2]; rfl) | (intro _; assumption) | (intro _; exact rfl) | (intro h; exact Bool.noConfusion (h.symm.trans ‹_ = false›)) | refine ⟨fun _ => ?_, fun _ => ?_⟩ | refine ⟨?_⟩ | refine ⟨?_, ?_⟩ | fail)
      · exact UI.nat (Nat.lt_trans hb.1 (by decide))
      · exact UI.nat (Nat.lt_trans hb.2 (by decide))
      · rename_i hne
        refine trOps_none rfl (yield_one false hI rfl rfl rfl rfl ?_)
        intro c3 hk4
        refine ((((vs.kin hk).kin hk2).kin hk3).kin hk4).go rfl ?_
        repeat' (first | exact Bool.noConfusion ‹(!true) = true› | exact Bool.noConfusion ‹(!false) = false› | (intro h; exact h) | (intro h; rw [h]; rfl) | (intro h1 h2; rw [h1, h2]; rfl) | (intro _; assumption) | (intro _; exact rfl) | (intro h; exact Bool.noConfusion (h.symm.trans ‹_ = false›)) | refine ⟨fun _ => ?_, fun _ => ?_⟩ | refine ⟨?_⟩ | refine ⟨?_, ?_⟩ | fail)
        refine ((((vs.kin hk).kin hk2).kin hk3).kin hk4).go rfl ?_
        repeat' (first | exact Bool.noConfusion ‹(!true) = true› | exact Bool.noConfusion ‹(!false) = false› | (intro h; exact h) | (intro h; rw [h]; rfl) | (intro h1 h2; rw [h1, h2]; rfl) | (intro _; assumption) | (intro _; exact rfl) | (intro h; exact Bool.noConfusion (h.symm.trans ‹_ = false›)) | refine ⟨fun _ => ?_, fun _ => ?_⟩ | refine ⟨?_⟩ | refine ⟨?_, ?_⟩ | fail)
        · show acc.length + 1 ≤ 4000000000; omega
        · show (acc.length + 1) * 8 ≤ 140737488355328; omega
        refine (((vs.kin hk).kin hk2).kin hk3).on ?_
        repeat' (first | exact Bool.noConfusion ‹(!true) = true› | exact Bool.noConfusion ‹(!false) = false› | (intro h; exact h) | (intro h; rw [h]; rfl) | (intro h1 h2; rw [h1, h2]; rfl) | (intro _; assumption) | (intro _; exact rfl) | (intro h; exact Bool.noConfusion (h.symm.trans ‹_ = false›)) | refine ⟨fun _ => ?_, fun _ => ?_⟩ | refine ⟨?_⟩ | refine ⟨?_, ?_⟩ | fail)
        · exact UI.nat (Nat.lt_trans hb.1 (by decide))
        · exact UI.nat (Nat.lt_trans hb.2 (by decide))
        have h0 : b ≠ (0, 0) := fun h => by rw [h] at hne; simp [EK.eqb] at hne
        have hst := spList_step hb h0
        refine Again.mk (spWithout b (spFirst b), acc ++ [spFirst b]) ⟨minus_lt _ _, ?_⟩ ?_ ?_
        · show (acc ++ [spFirst b]) ++ spList (spWithout b (spFirst b)) = _
          rw [← hacc, List.append_assoc]
          show acc ++ (spFirst b :: spList (spWithout b (spFirst b))) = acc ++ spList b
          rw [hst]
        · show (spList (spWithout b (spFirst b))).length < (spList b).length
          rw [hst]; simp
        · (refine ⟨?_, rfl, ?_, ?_, ?_, rfl⟩ <;> repeat' (first | exact trivial | (refine ⟨rfl, ?_⟩) | fail))
      · rename_i he
        have h0 : b = (0, 0) := by
          obtain ⟨u, v⟩ := b
          simp [EK.eqb] at he
          have h1 : u = 0 := by omega
          have h2 : v = 0 := by omega
          rw [h1, h2]
        have hacc' : acc = spList (a0.toNat, a1.toNat) := by
          rw [← hacc]; show acc = acc ++ spList b
          rw [h0, spList_zero, List.append_nil]
        refine (vs.kin hk).on ?_
        repeat' (first | exact Bool.noConfusion ‹(!true) = true› | exact Bool.noConfusion ‹(!false) = false› | (intro h; exact h) | (intro h; rw [h]; rfl) | (intro h1 h2; rw [h1, h2]; rfl) | (intro _; assumption) | (intro _; exact rfl) | (intro h; exact Bool.noConfusion (h.symm.trans ‹_ = false›)) | refine ⟨fun _ => ?_, fun _ => ?_⟩ | refine ⟨?_⟩ | refine ⟨?_, ?_⟩ | fail)
        refine vs.on ?_
        repeat' (first | exact Bool.noConfusion ‹(!true) = true› | exact Bool.noConfusion ‹(!false) = false› | (intro h; exact h) | (intro h; rw [h]; rfl) | (intro h1 h2; rw [h1, h2]; rfl) | (intro _; assumption) | (intro _; exact rfl) | (intro h; exact Bool.noConfusion (h.symm.trans ‹_ = false›)) | refine ⟨fun _ => ?_, fun _ => ?_⟩ | refine ⟨?_⟩ | refine ⟨?_, ?_⟩ | fail)
        · show (⟨3, .int .i64, acc, true⟩ : Row) = ⟨3, .int .i64, spList (a0.toNat, a1.toNat), true⟩
          rw [hacc']
        · rfl
  · cases hcr
end
end Go.X

namespace Go.X
open Go Go.Proofs

def cPieces : Con
  | [.a (.s p), .a (.i .i64 side)] => some ⟨[], .row ⟨3, .int .i64, spList (spSet p (spOf side)), true⟩, [], []⟩
  | _ => none
def cFind : Con
  | [.a (.s p), .a (.i .u8 c)] => some ⟨[], .row ⟨3, .int .i64, spList (spSet p (· == c)), true⟩, [], []⟩
  | _ => none
def cPieces1 : Con
  | [.a (.i .u8 c), .box _ 0 _ _ [.a (.i .i64 side)]] => some ⟨[], .a (.b (spOf side c)), [], []⟩
  | _ => none
def cFind1 : Con
  | [.a (.i .u8 x), .box _ 0 _ _ [.a (.i .u8 c)]] => some ⟨[], .a (.b (x == c)), [], []⟩
  | _ => none
section
variable {G : Nat → World → Prop}
set_option maxHeartbeats 4000000 in
set_option maxRecDepth 20000 in
theorem okPieces1 (hS : Hyp G) : ConOK Tryz.prog G 88 cPieces1 := by
  refine seat_con hS.seat [(50, cSide)] [] ⟨okSide hS, trivial⟩ Tryz.func88 rfl rfl rfl ?_
  intro rvs cr hcr hpre
  unfold cPieces1 at hcr
  split at hcr
  · cases hcr
    refine ⟨⟨rfl, rfl, rfl⟩, fun c hc vs => ?_⟩
    repeat' (first | exact Bool.noConfusion ‹(!true) = true› | exact Bool.noConfusion ‹(!false) = false› | (intro h; exact h) | (intro h; rw [h]; rfl) | (intro h1 h2; rw [h1, h2]; rfl) | (intro _; assumption) | (intro _; exact rfl) | (intro h; exact Bool.noConfusion (h.symm.trans ‹_ = false›)) | refine ⟨fun _ => ?_, fun _ => ?_⟩ | refine ⟨?_⟩ | refine ⟨?_, ?_⟩ | fail)
    all_goals first | exact rfl | (refine chk_i ?_; simp_all [spOf]; done) | (refine chk_i ?_; simp only [spOf, decide_eq_true_eq, decide_eq_false_iff_not, Bool.not_eq_true', Bool.not_eq_false', Bool.or_eq_true, Bool.or_eq_false_iff, Bool.and_eq_true, Bool.and_eq_false_iff] at *; (repeat' split) <;> first | rfl | omega | (simp_all; done) | (simp_all; omega)) | (refine chk_b ?_; simp_all [spOf]; done) | (refine chk_b ?_; simp only [spOf, decide_eq_true_eq, decide_eq_false_iff_not, Bool.not_eq_true', Bool.not_eq_false', Bool.or_eq_true, Bool.or_eq_false_iff, Bool.and_eq_true, Bool.and_eq_false_iff] at *; (repeat' split) <;> first | rfl | omega | (simp_all; done) | (simp_all; omega)) | (refine chk_s ?_; simp_all [spOf]; done) | (refine chk_s ?_; simp only [spOf, decide_eq_true_eq, decide_eq_false_iff_not, Bool.not_eq_true', Bool.not_eq_false', Bool.or_eq_true, Bool.or_eq_false_iff, Bool.and_eq_true, Bool.and_eq_false_iff] at *; (repeat' split) <;> first | rfl | omega | (simp_all; done) | (simp_all; omega)) | (simp_all [spOf]; done) | (simp_all [spOf]; omega) | skip
  · cases hcr
set_option maxHeartbeats 4000000 in
set_option maxRecDepth 20000 in
theorem okFind1 (hS : Hyp G) : ConOK Tryz.prog G 85 cFind1 := by
  refine seat_con hS.seat [] [] trivial Tryz.func85 rfl rfl rfl ?_
  intro rvs cr hcr hpre
  unfold cFind1 at hcr
  split at hcr
  · cases hcr
    refine ⟨⟨rfl, rfl, rfl⟩, fun c hc vs => ?_⟩
    repeat' (first | exact Bool.noConfusion ‹(!true) = true› | exact Bool.noConfusion ‹(!false) = false› | (intro h; exact h) | (intro h; rw [h]; rfl) | (intro h1 h2; rw [h1, h2]; rfl) | (intro _; assumption) | (intro _; exact rfl) | (intro h; exact Bool.noConfusion (h.symm.trans ‹_ = false›)) | refine ⟨fun _ => ?_, fun _ => ?_⟩ | refine ⟨?_⟩ | refine ⟨?_, ?_⟩ | fail)
    all_goals first | exact rfl | (refine chk_i ?_; simp_all [id_eq]; done) | (refine chk_i ?_; simp only [id_eq, decide_eq_true_eq, decide_eq_false_iff_not, Bool.not_eq_true', Bool.not_eq_false', Bool.or_eq_true, Bool.or_eq_false_iff, Bool.and_eq_true, Bool.and_eq_false_iff] at *; (repeat' split) <;> first | rfl | omega | (simp_all; done) | (simp_all; omega)) | (refine chk_b ?_; simp_all [id_eq]; done) | (refine chk_b ?_; simp only [id_eq, decide_eq_true_eq, decide_eq_false_iff_not, Bool.not_eq_true', Bool.not_eq_false', Bool.or_eq_true, Bool.or_eq_false_iff, Bool.and_eq_true, Bool.and_eq_false_iff] at *; (repeat' split) <;> first | rfl | omega | (simp_all; done) | (simp_all; omega)) | (refine chk_s ?_; simp_all [id_eq]; done) | (refine chk_s ?_; simp only [id_eq, decide_eq_true_eq, decide_eq_false_iff_not, Bool.not_eq_true', Bool.not_eq_false', Bool.or_eq_true, Bool.or_eq_false_iff, Bool.and_eq_true, Bool.and_eq_false_iff] at *; (repeat' split) <;> first | rfl | omega | (simp_all; done) | (simp_all; omega)) | (simp_all [id_eq]; done) | (simp_all [id_eq]; omega) | skip
  · cases hcr
def cSetP : Con
  | [.a (.s p), .fn 88 [.box _ 0 3 _ [.a (.i .i64 v)]]] => some ⟨[], rtS (spSet p (spOf v)), [], []⟩
  | _ => none
set_option maxHeartbeats 4000000 in
set_option maxRecDepth 20000 in
theorem okSetP (hS : Hyp G) : ConOK Tryz.prog G 84 cSetP := by
  refine seat_con hS.seat [(40, cIs), (88, cPieces1), (102, cWith)] [] ⟨okIs hS, okPieces1 hS, okWith hS, trivial⟩ Tryz.func84 rfl rfl rfl ?_
  intro rvs cr hcr hpre
  unfold cSetP at hcr
  split at hcr
  · rename_i p id o v
    cases hcr
    refine ⟨⟨rfl, rfl, rfl⟩, fun c hc vs => ?_⟩
    repeat' (first | exact Bool.noConfusion ‹(!true) = true› | exact Bool.noConfusion ‹(!false) = false› | (intro h; exact h) | (intro h; rw [h]; rfl) | (intro h1 h2; rw [h1, h2]; rfl) | (intro _; assumption) | (intro _; exact rfl) | (intro h; exact Bool.noConfusion (h.symm.trans ‹_ = false›)) | refine ⟨fun _ => ?_, fun _ => ?_⟩ | refine ⟨?_⟩ | refine ⟨?_, ?_⟩ | fail)
    · rename_i his
      refine Tr_loopH (α := Nat) (fun i => [(9, .i .i64 (.ofNat i))]) (fun i => [(2, some ⟨133, [.i .u64 (.ofNat (spUpTo p (spOf v) i).1), .i .u64 (.ofNat (spUpTo p (spOf v) i).2)], true⟩)]) (fun _ => [])
        (fun i => i ≤ 90) (fun i => 90 - i) 0 (by omega) (by (refine ⟨?_, rfl, ?_, ?_, ?_, rfl⟩ <;> repeat' (first | exact trivial | (refine ⟨rfl, ?_⟩) | fail))) ?_
      intro i hi
      refine vs.go rfl ?_
      repeat' (first | exact Bool.noConfusion ‹(!true) = true› | exact Bool.noConfusion ‹(!false) = false› | (intro h; exact h) | (intro h; rw [h]; rfl) | (intro h1 h2; rw [h1, h2]; rfl) | (intro _; assumption) | (intro _; exact rfl) | (intro h; exact Bool.noConfusion (h.symm.trans ‹_ = false›)) | refine ⟨fun _ => ?_, fun _ => ?_⟩ | refine ⟨?_⟩ | refine ⟨?_, ?_⟩ | fail)
      · rename_i h; have := spIs_size his; simp at h; show (i : Int) < p.size; omega
      · exact UI.nat (Nat.lt_trans (upTo_lt _ _ _).1 (by decide))
      · exact UI.nat (Nat.lt_trans (upTo_lt _ _ _).2 (by decide))
      · rename_i h hf
        have h' : i < 90 := by simp at h; omega
        refine Again.mk (i + 1) (by omega) (by omega) ?_
        have e : spUpTo p (spOf v) (i + 1) = spWith (spUpTo p (spOf v) i) i := by
          rw [spUpTo, if_pos]; exact hf
        dsimp only
        rw [wrapS (by omega), e]
        (refine ⟨?_, rfl, ?_, ?_, ?_, rfl⟩ <;> repeat' (first | exact trivial | (refine ⟨rfl, ?_⟩) | fail))
      · rename_i h hf
        have h' : i < 90 := by simp at h; omega
        refine Again.mk (i + 1) (by omega) (by omega) ?_
        have e : spUpTo p (spOf v) (i + 1) = spUpTo p (spOf v) i := by
          rw [spUpTo, if_neg]; intro hh; exact Bool.noConfusion (hh.symm.trans hf)
        rw [wrapS (by omega), e]
        (refine ⟨?_, rfl, ?_, ?_, ?_, rfl⟩ <;> repeat' (first | exact trivial | (refine ⟨rfl, ?_⟩) | fail))
      all_goals
        rename_i h
        have h90 : i = 90 := by simp at h; omega
        subst h90
        have e : spSet p (spOf v) = spUpTo p (spOf v) 90 := by rw [spSet, if_pos his]
      · rw [e]; exact rfl
      · rw [e]; exact rfl
      · trivial
      · rfl
    all_goals
      rename_i his
      have e : spSet p (spOf v) = (0, 0) := by rw [spSet, his]; rfl
    · rw [e]; exact rfl
    · rw [e]; exact rfl
    · trivial
    · rfl
  · cases hcr
def cSetF : Con
  | [.a (.s p), .fn 85 [.box _ 0 5 _ [.a (.i .u8 v)]]] => some ⟨[], rtS (spSet p ((· == v))), [], []⟩
  | _ => none
set_option maxHeartbeats 4000000 in
set_option maxRecDepth 20000 in
theorem okSetF (hS : Hyp G) : ConOK Tryz.prog G 84 cSetF := by
  refine seat_con hS.seat [(40, cIs), (85, cFind1), (102, cWith)] [] ⟨okIs hS, okFind1 hS, okWith hS, trivial⟩ Tryz.func84 rfl rfl rfl ?_
  intro rvs cr hcr hpre
  unfold cSetF at hcr
  split at hcr
  · rename_i p id o v
    cases hcr
    refine ⟨⟨rfl, rfl, rfl⟩, fun c hc vs => ?_⟩
    repeat' (first | exact Bool.noConfusion ‹(!true) = true› | exact Bool.noConfusion ‹(!false) = false› | (intro h; exact h) | (intro h; rw [h]; rfl) | (intro h1 h2; rw [h1, h2]; rfl) | (intro _; assumption) | (intro _; exact rfl) | (intro h; exact Bool.noConfusion (h.symm.trans ‹_ = false›)) | refine ⟨fun _ => ?_, fun _ => ?_⟩ | refine ⟨?_⟩ | refine ⟨?_, ?_⟩ | fail)
    · rename_i his
      refine Tr_loopH (α := Nat) (fun i => [(9, .i .i64 (.ofNat i))]) (fun i => [(2, some ⟨133, [.i .u64 (.ofNat (spUpTo p ((· == v)) i).1), .i .u64 (.ofNat (spUpTo p ((· == v)) i).2)], true⟩)]) (fun _ => [])
        (fun i => i ≤ 90) (fun i => 90 - i) 0 (by omega) (by (refine ⟨?_, rfl, ?_, ?_, ?_, rfl⟩ <;> repeat' (first | exact trivial | (refine ⟨rfl, ?_⟩) | fail))) ?_
      intro i hi
      refine vs.go rfl ?_
      repeat' (first | exact Bool.noConfusion ‹(!true) = true› | exact Bool.noConfusion ‹(!false) = false› | (intro h; exact h) | (intro h; rw [h]; rfl) | (intro h1 h2; rw [h1, h2]; rfl) | (intro _; assumption) | (intro _; exact rfl) | (intro h; exact Bool.noConfusion (h.symm.trans ‹_ = false›)) | refine ⟨fun _ => ?_, fun _ => ?_⟩ | refine ⟨?_⟩ | refine ⟨?_, ?_⟩ | fail)
      · rename_i h; have := spIs_size his; simp at h; show (i : Int) < p.size; omega
      · exact UI.nat (Nat.lt_trans (upTo_lt _ _ _).1 (by decide))
      · exact UI.nat (Nat.lt_trans (upTo_lt _ _ _).2 (by decide))
      · rename_i h hf
        have h' : i < 90 := by simp at h; omega
        refine Again.mk (i + 1) (by omega) (by omega) ?_
        have e : spUpTo p ((· == v)) (i + 1) = spWith (spUpTo p ((· == v)) i) i := by
          rw [spUpTo, if_pos]; exact hf
        dsimp only
        rw [wrapS (by omega), e]
        (refine ⟨?_, rfl, ?_, ?_, ?_, rfl⟩ <;> repeat' (first | exact trivial | (refine ⟨rfl, ?_⟩) | fail))
      · rename_i h hf
        have h' : i < 90 := by simp at h; omega
        refine Again.mk (i + 1) (by omega) (by omega) ?_
        have e : spUpTo p ((· == v)) (i + 1) = spUpTo p ((· == v)) i := by
          rw [spUpTo, if_neg]; intro hh; exact Bool.noConfusion (hh.symm.trans hf)
        rw [wrapS (by omega), e]
        (refine ⟨?_, rfl, ?_, ?_, ?_, rfl⟩ <;> repeat' (first | exact trivial | (refine ⟨rfl, ?_⟩) | fail))
      all_goals
        rename_i h
        have h90 : i = 90 := by simp at h; omega
        subst h90
        have e : spSet p ((· == v)) = spUpTo p ((· == v)) 90 := by rw [spSet, if_pos his]
      · rw [e]; exact rfl
      · rw [e]; exact rfl
      · trivial
      · rfl
    all_goals
      rename_i his
      have e : spSet p ((· == v)) = (0, 0) := by rw [spSet, his]; rfl
    · rw [e]; exact rfl
    · rw [e]; exact rfl
    · trivial
    · rfl
  · cases hcr
set_option maxHeartbeats 4000000 in
set_option maxRecDepth 20000 in
theorem okPieces (hS : Hyp G) : ConOK Tryz.prog G 69 cPieces := by
  refine seat_con hS.seat [(84, cSetP), (86, cList)] [] ⟨okSetP hS, okList hS, trivial⟩ Tryz.func69 rfl rfl rfl ?_
  intro rvs cr hcr hpre
  unfold cPieces at hcr
  split at hcr
  · cases hcr
    refine ⟨⟨rfl, rfl, rfl⟩, fun c hc vs => ?_⟩
    repeat' (first | exact Bool.noConfusion ‹(!true) = true› | exact Bool.noConfusion ‹(!false) = false› | (intro h; exact h) | (intro h; rw [h]; rfl) | (intro h1 h2; rw [h1, h2]; rfl) | (intro _; assumption) | (intro _; exact rfl) | (intro h; exact Bool.noConfusion (h.symm.trans ‹_ = false›)) | refine ⟨fun _ => ?_, fun _ => ?_⟩ | refine ⟨?_⟩ | refine ⟨?_, ?_⟩ | fail)
    · exact UI.nat (Nat.lt_trans (set_lt _ _).1 (by decide))
    · exact UI.nat (Nat.lt_trans (set_lt _ _).2 (by decide))
    · rfl
    · rfl
  · cases hcr
set_option maxHeartbeats 4000000 in
set_option maxRecDepth 20000 in
theorem okFind (hS : Hyp G) : ConOK Tryz.prog G 65 cFind := by
  refine seat_con hS.seat [(84, cSetF), (86, cList)] [] ⟨okSetF hS, okList hS, trivial⟩ Tryz.func65 rfl rfl rfl ?_
  intro rvs cr hcr hpre
  unfold cFind at hcr
  split at hcr
  · cases hcr
    refine ⟨⟨rfl, rfl, rfl⟩, fun c hc vs => ?_⟩
    repeat' (first | exact Bool.noConfusion ‹(!true) = true› | exact Bool.noConfusion ‹(!false) = false› | (intro h; exact h) | (intro h; rw [h]; rfl) | (intro h1 h2; rw [h1, h2]; rfl) | (intro _; assumption) | (intro _; exact rfl) | (intro h; exact Bool.noConfusion (h.symm.trans ‹_ = false›)) | refine ⟨fun _ => ?_, fun _ => ?_⟩ | refine ⟨?_⟩ | refine ⟨?_, ?_⟩ | fail)
    · exact UI.nat (Nat.lt_trans (set_lt _ _).1 (by decide))
    · exact UI.nat (Nat.lt_trans (set_lt _ _).2 (by decide))
    · rfl
    · rfl
  · cases hcr
end
end Go.X

namespace Go.X
open Go Go.Proofs

def cIs0 : Con
  | [.a (.i .i64 n)] => some ⟨[], .a (.b (spIsSquare n)), [], []⟩
  | _ => none
def cAllowed1 : Con
  | [.a (.i .i64 n), .box _ 0 _ _ [.a (.s _), .a (.i .i64 _), .a (.i .u8 c)]] => some ⟨[], .a (.b (!spMay c n)), [], []⟩
  | _ => none
section
variable {G : Nat → World → Prop}
set_option maxHeartbeats 4000000 in
set_option maxRecDepth 20000 in
theorem okAllowed1 (hS : Hyp G) : ConOK Tryz.prog G 132 cAllowed1 := by
  refine seat_con hS.seat [(41, cMay)] [] ⟨okMay hS, trivial⟩ Tryz.func132 rfl rfl rfl ?_
  intro rvs cr hcr hpre
  unfold cAllowed1 at hcr
  split at hcr
  · cases hcr
    refine ⟨⟨rfl, rfl, rfl⟩, fun c hc vs => ?_⟩
    repeat' (first | exact Bool.noConfusion ‹(!true) = true› | exact Bool.noConfusion ‹(!false) = false› | (intro h; exact h) | (intro h; rw [h]; rfl) | (intro h1 h2; rw [h1, h2]; rfl) | (intro _; assumption) | (intro _; exact rfl) | (intro h; exact Bool.noConfusion (h.symm.trans ‹_ = false›)) | refine ⟨fun _ => ?_, fun _ => ?_⟩ | refine ⟨?_⟩ | refine ⟨?_, ?_⟩ | fail)
    all_goals first | exact rfl | (refine chk_i ?_; simp_all [id_eq]; done) | (refine chk_i ?_; simp only [id_eq, decide_eq_true_eq, decide_eq_false_iff_not, Bool.not_eq_true', Bool.not_eq_false', Bool.or_eq_true, Bool.or_eq_false_iff, Bool.and_eq_true, Bool.and_eq_false_iff] at *; (repeat' split) <;> first | rfl | omega | (simp_all; done) | (simp_all; omega)) | (refine chk_b ?_; simp_all [id_eq]; done) | (refine chk_b ?_; simp only [id_eq, decide_eq_true_eq, decide_eq_false_iff_not, Bool.not_eq_true', Bool.not_eq_false', Bool.or_eq_true, Bool.or_eq_false_iff, Bool.and_eq_true, Bool.and_eq_false_iff] at *; (repeat' split) <;> first | rfl | omega | (simp_all; done) | (simp_all; omega)) | (refine chk_s ?_; simp_all [id_eq]; done) | (refine chk_s ?_; simp only [id_eq, decide_eq_true_eq, decide_eq_false_iff_not, Bool.not_eq_true', Bool.not_eq_false', Bool.or_eq_true, Bool.or_eq_false_iff, Bool.and_eq_true, Bool.and_eq_false_iff] at *; (repeat' split) <;> first | rfl | omega | (simp_all; done) | (simp_all; omega)) | (simp_all [id_eq]; done) | (simp_all [id_eq]; omega) | skip
  · cases hcr
def cIdxA : Con
  | [.row _ ⟨3, .int .i64, l, _⟩, .fn 132 [.box _ 0 123 _ [.a (.s p), .a (.i .i64 fr), .a (.i .u8 pc)]]] => some ⟨LB l :: [], .a (.i .i64 (spIdx (fun n => !spMay pc n) l)), [], []⟩
  | _ => none
set_option maxHeartbeats 4000000 in
set_option maxRecDepth 20000 in
theorem okIdxA (hS : Hyp G) : ConOK Tryz.prog G 87 cIdxA := by
  refine seat_con hS.seat [(132, cAllowed1)] [none] ⟨okAllowed1 hS, trivial⟩ Tryz.func87 rfl rfl rfl ?_
  intro rvs cr hcr hpre
  unfold cIdxA at hcr
  split at hcr
  · rename_i x _ l _ _ _ p fr pc
    cases hcr
    simp only [List.mem_cons, List.not_mem_nil, or_false, forall_eq_or_imp, forall_eq] at hpre
    refine ⟨⟨rfl, rfl, rfl⟩, fun c hc vs => ?_⟩
    repeat' (first | exact Bool.noConfusion ‹(!true) = true› | exact Bool.noConfusion ‹(!false) = false› | (intro h; exact h) | (intro h; rw [h]; rfl) | (intro h1 h2; rw [h1, h2]; rfl) | (intro _; assumption) | (intro _; exact rfl) | (intro h; exact Bool.noConfusion (h.symm.trans ‹_ = false›)) | refine ⟨fun _ => ?_, fun _ => ?_⟩ | refine ⟨?_⟩ | refine ⟨?_, ?_⟩ | fail)
    all_goals first | exact trivial | (refine (?_ : (_ : Int) ≠ _); decide) | exact rfl | skip
    refine Tr_loopH (α := Nat) (fun i => [(8, .i .i64 (.ofNat i))]) (fun _ => []) (fun _ => [])
        (fun i => i ≤ l.length ∧ ∀ x ∈ l.take i, (fun n => !spMay pc n) x = false) (fun i => l.length - i) 0 ⟨by omega, by simp⟩ (by (refine ⟨?_, rfl, ?_, ?_, ?_, rfl⟩ <;> repeat' (first | exact trivial | (refine ⟨rfl, ?_⟩) | fail))) ?_
    rintro i ⟨hi, hq⟩
    refine vs.go rfl ?_
    repeat' (first | exact Bool.noConfusion ‹(!true) = true› | exact Bool.noConfusion ‹(!false) = false› | (intro h; exact h) | (intro h; rw [h]; rfl) | (intro h1 h2; rw [h1, h2]; rfl) | (intro _; assumption) | (intro _; exact rfl) | (intro h; exact Bool.noConfusion (h.symm.trans ‹_ = false›)) | refine ⟨fun _ => ?_, fun _ => ?_⟩ | refine ⟨?_⟩ | refine ⟨?_, ?_⟩ | fail)
    all_goals first | exact trivial | (refine (?_ : (_ : Int) ≠ _); decide) | exact rfl | skip
    all_goals first | exact hpre.1 | exact hpre.2 | exact hpre.2.1 | exact hpre.2.2 | exact NE.of' hpre.2 ‹decide _ = true› | skip
    · rename_i h; simpa using h
    · rename_i h hf; simp at h; exact chk_i (idx_some h hq hf).symm
    · rename_i h hf
      simp at h
      refine Again.mk (i + 1) ⟨by omega, take_next h hq hf⟩ (by omega) ?_
      rw [wrapN (by have hll : l.length ≤ 2000000000 := (by first | exact hpre | exact hpre.1); omega)]
      (refine ⟨?_, rfl, ?_, ?_, ?_, rfl⟩ <;> repeat' (first | exact trivial | (refine ⟨rfl, ?_⟩) | fail))
    · rename_i h
      simp at h
      have hi' : i = l.length := by omega
      subst hi'
      exact chk_i (idx_none hq).symm
  · cases hcr
def cDelA : Con
  | [.row id ⟨3, .int .i64, l, true⟩, .fn 132 [.box _ 0 123 _ [.a (.s p), .a (.i .i64 fr), .a (.i .u8 pc)]]] => some ⟨LB l :: [], .row ⟨3, .int .i64, l.filter (fun x => !(fun n => !spMay pc n) x), true⟩, [id], []⟩
  | _ => none
set_option maxHeartbeats 4000000 in
set_option maxRecDepth 20000 in
theorem okDelA (hS : Hyp G) : ConOK Tryz.prog G 68 cDelA := by
  refine seat_con hS.seat [(87, cIdxA), (132, cAllowed1)] [] ⟨okIdxA hS, okAllowed1 hS, trivial⟩ Tryz.func68 rfl rfl rfl ?_
  intro rvs cr hcr hpre
  unfold cDelA at hcr
  split at hcr
  · rename_i id l _ _ p fr pc
    cases hcr
    simp only [List.mem_cons, List.not_mem_nil, or_false, forall_eq_or_imp, forall_eq] at hpre
    refine ⟨⟨rfl, rfl, by simp [occOk, normL, occL, occ, vwsL, vws]⟩, fun c hc vs => ?_⟩
    simp only [normL, impL, imp, List.contains_cons, beq_self_eq_true, Bool.true_or, Bool.true_and]
    repeat' (first | exact Bool.noConfusion ‹(!true) = true› | exact Bool.noConfusion ‹(!false) = false› | (intro h; exact h) | (intro h; rw [h]; rfl) | (intro h1 h2; rw [h1, h2]; rfl) | (intro _; assumption) | (intro _; exact rfl) | (intro h; exact Bool.noConfusion (h.symm.trans ‹_ = false›)) | refine ⟨fun _ => ?_, fun _ => ?_⟩ | refine ⟨?_⟩ | refine ⟨?_, ?_⟩ | fail)
    all_goals first | exact trivial | (refine (?_ : (_ : Int) ≠ _); decide) | exact rfl | skip
    all_goals first | exact hpre | exact hpre.1 | exact hpre.2 | exact hpre.2.1 | exact hpre.2.2 | skip
    · rename_i h
      rcases idx_spec (fun n => !spMay pc n) l with ⟨_, h2⟩ | ⟨i, _, h2, _⟩
      · show (⟨3, .int .i64, l, true⟩ : Row) = ⟨3, .int .i64, _, true⟩
        rw [idx_all h2]
      · rw [h2] at h; simp at h
    · rename_i h
      rcases idx_spec (fun n => !spMay pc n) l with ⟨h2, _⟩ | ⟨w, hw, h2, h3, h4⟩
      · rw [h2] at h; simp at h
      · simp only [h2]
        rw [wrapN (by have hll : l.length ≤ 2000000000 := (by first | exact hpre | exact hpre.1); omega)]
        refine Tr_loopH (α := Nat × Nat × List Int) (fun x => [(5, .i .i64 (.ofNat x.1)), (6, .i .i64 (.ofNat x.2.1))]) (fun _ => []) (fun x => [(0, some ⟨3, .int .i64, x.2.2, true⟩)])
          (fun x => DelInv (fun n => !spMay pc n) l x.1 x.2.1 x.2.2) (fun x => l.length - x.2.1) (w, w + 1, l) (DelInv.start hw h3 h4) (by (refine ⟨?_, rfl, ?_, ?_, ?_, rfl⟩ <;> repeat' (first | exact trivial | (refine ⟨rfl, ?_⟩) | fail))) ?_
        rintro ⟨i, j, row⟩ hq
        dsimp only at hq ⊢
        refine vs.go rfl ?_
        repeat' (first | exact Bool.noConfusion ‹(!true) = true› | exact Bool.noConfusion ‹(!false) = false› | (intro h; exact h) | (intro h; rw [h]; rfl) | (intro h1 h2; rw [h1, h2]; rfl) | (intro _; assumption) | (intro _; exact rfl) | (intro h; exact Bool.noConfusion (h.symm.trans ‹_ = false›)) | refine ⟨fun _ => ?_, fun _ => ?_⟩ | refine ⟨?_⟩ | refine ⟨?_, ?_⟩ | fail)
        all_goals first | exact trivial | (refine (?_ : (_ : Int) ≠ _); decide) | exact rfl | skip
        all_goals try dsimp only at *
        all_goals first | exact hpre.1 | exact hpre.2 | exact hpre.2.1 | exact hpre.2.2 | exact NE.of hpre.2 hw | skip
        all_goals (have hlt := hq.lt; have hle := hq.le; have hlen := hq.len)
        · rename_i h; simpa using h
        · rename_i h _; simp at h; show (i : Int) < row.length; omega
        · rename_i h hf
          simp at h
          refine Again.mk (i + 1, j + 1, row.set i (row.getD j 0)) (hq.keep (by omega) hf) (by show l.length - (j + 1) < l.length - j; omega) ?_
          rw [wrapN (by have hll : l.length ≤ 2000000000 := (by first | exact hpre | exact hpre.1); omega), wrapN (by have hll : l.length ≤ 2000000000 := (by first | exact hpre | exact hpre.1); omega)]
          (refine ⟨?_, rfl, ?_, ?_, ?_, rfl⟩ <;> repeat' (first | exact trivial | (refine ⟨rfl, ?_⟩) | fail))
        · rename_i h hf
          simp at h
          refine Again.mk (i, j + 1, row) (hq.del (by omega) hf) (by show l.length - (j + 1) < l.length - j; omega) ?_
          rw [wrapN (by have hll : l.length ≤ 2000000000 := (by first | exact hpre | exact hpre.1); omega)]
          (refine ⟨?_, rfl, ?_, ?_, ?_, rfl⟩ <;> repeat' (first | exact trivial | (refine ⟨rfl, ?_⟩) | fail))
        all_goals rename_i h; simp at h
        · show (i : Int) ≤ row.length; omega
        · show i ≤ row.length; omega
        · exact Nat.le_refl _
        all_goals simp only [Int.toNat_natCast, Int.ofNat_eq_natCast, List.length_append, List.length_take, List.length_replicate, List.length_drop, List.take_append, List.take_take]
        · omega
        · omega
        · rw [show i - min i row.length = 0 by omega, show i - (min i row.length + (row.length - i)) = 0 by omega, Nat.min_self, List.take_zero, List.take_zero, List.append_nil, List.append_nil, hq.done (by omega)]
  · cases hcr
def cCompact : Con
  | [.row id ⟨3, .int .i64, l, true⟩] => some ⟨[LB l], .row ⟨3, .int .i64, spCompact l, true⟩, [id], []⟩
  | _ => none
set_option maxHeartbeats 4000000 in
set_option maxRecDepth 20000 in
theorem okCompact (hS : Hyp G) : ConOK Tryz.prog G 79 cCompact := by
  refine seat_con hS.seat [] [] trivial Tryz.func79 rfl rfl rfl ?_
  intro rvs cr hcr hpre
  unfold cCompact at hcr
  split at hcr
  · rename_i id l
    cases hcr
    simp only [List.mem_cons, List.not_mem_nil, or_false, forall_eq_or_imp, forall_eq] at hpre
    refine ⟨⟨rfl, rfl, by simp [occOk, normL, occL, occ, vwsL, vws]⟩, fun c hc vs => ?_⟩
    simp only [normL, impL, imp, List.contains_cons, beq_self_eq_true, Bool.true_or, Bool.true_and]
    repeat' (first | exact Bool.noConfusion ‹(!true) = true› | exact Bool.noConfusion ‹(!false) = false› | (intro h; exact h) | (intro h; rw [h]; rfl) | (intro h1 h2; rw [h1, h2]; rfl) | (intro _; assumption) | (intro _; exact rfl) | (intro h; exact Bool.noConfusion (h.symm.trans ‹_ = false›)) | refine ⟨fun _ => ?_, fun _ => ?_⟩ | refine ⟨?_⟩ | refine ⟨?_, ?_⟩ | fail)
    all_goals first | exact trivial | (refine (?_ : (_ : Int) ≠ _); decide) | exact rfl | skip
    · rename_i h
      simp at h
      show (⟨3, .int .i64, l, true⟩ : Row) = ⟨3, .int .i64, _, true⟩
      rw [compact_short (by omega)]
    · rename_i h
      simp at h
      refine Tr_loopH (α := Nat) (fun k => [(3, .i .i64 (.ofNat k))]) (fun _ => []) (fun _ => [])
        (fun k => 1 ≤ k ∧ k ≤ l.length ∧ spCompact (l.take k) = l.take k) (fun k => l.length - k) 1 ⟨by omega, by omega, compact_one (by omega)⟩ (by (refine ⟨?_, rfl, ?_, ?_, ?_, rfl⟩ <;> repeat' (first | exact trivial | (refine ⟨rfl, ?_⟩) | fail))) ?_
      rintro k ⟨hk1, hk2, hk3⟩
      have hwp : IntKind.i64.wrap (Int.ofNat k - 1) = Int.ofNat (k - 1) := wrapP hk1 (by unfold LB at hpre; omega)
      refine vs.go rfl ?_
      repeat' (first | exact Bool.noConfusion ‹(!true) = true› | exact Bool.noConfusion ‹(!false) = false› | (intro h; exact h) | (intro h; rw [h]; rfl) | (intro h1 h2; rw [h1, h2]; rfl) | (intro _; assumption) | (intro _; exact rfl) | (intro h; exact Bool.noConfusion (h.symm.trans ‹_ = false›)) | refine ⟨fun _ => ?_, fun _ => ?_⟩ | refine ⟨?_⟩ | refine ⟨?_, ?_⟩ | fail)
      all_goals first | exact trivial | (refine (?_ : (_ : Int) ≠ _); decide) | exact rfl | skip
      all_goals try dsimp only at *
      · rename_i h; simpa using h
      · rw [hwp]; simp
      · rename_i h; rw [hwp]; simp at h; show ((k - 1 : Nat) : Int) < l.length; omega
      · rename_i h _; simp at h; show (k : Int) ≤ l.length; omega
      · rename_i h he
        rw [hwp] at he
        have hkl : k < l.length := by simp at h; omega
        refine Tr_loopH (α := Nat × Nat × List Int) (fun x => [(3, .i .i64 (.ofNat x.1)), (5, .i .i64 (.ofNat x.2.1))]) (fun _ => []) (fun x => [(0, some ⟨3, .int .i64, x.2.2, true⟩)])
          (fun x => 1 ≤ x.2.1 ∧ CmpInv l x.1 (k + x.2.1) x.2.2) (fun x => l.length - (k + x.2.1)) (k, 1, l) ⟨by show 1 ≤ 1; omega, CmpInv.start hk1 hkl hk3 (beqT he)⟩ (by (refine ⟨?_, rfl, ?_, ?_, ?_, rfl⟩ <;> repeat' (first | exact trivial | (refine ⟨rfl, ?_⟩) | fail))) ?_
        rintro ⟨w, j, row⟩ ⟨hj1, hq⟩
        dsimp only at hj1 hq ⊢
        have hlt := hq.lt
        have hle := hq.le
        have hlen := hq.len
        have hll : l.length ≤ 2000000000 := hpre
        have hwj : IntKind.i64.wrap (Int.ofNat j - 1) = Int.ofNat (j - 1) := wrapP hj1 (by omega)
        refine vs.go rfl ?_
        repeat' (first | exact Bool.noConfusion ‹(!true) = true› | exact Bool.noConfusion ‹(!false) = false› | (intro h; exact h) | (intro h; rw [h]; rfl) | (intro h1 h2; rw [h1, h2]; rfl) | (intro _; assumption) | (intro _; exact rfl) | (intro h; exact Bool.noConfusion (h.symm.trans ‹_ = false›)) | refine ⟨fun _ => ?_, fun _ => ?_⟩ | refine ⟨?_⟩ | refine ⟨?_, ?_⟩ | fail)
        all_goals first | exact trivial | (refine (?_ : (_ : Int) ≠ _); decide) | exact rfl | skip
        all_goals try dsimp only at *
        · rename_i h; simpa using h
        · rw [hwj]; simp
        · rename_i h; rw [hwj]; simp at h; show ((j - 1 : Nat) : Int) < (l.length - k : Nat); omega
        · rename_i h _; simpa using h
        · show (w : Int) < row.length; omega
        · rename_i h hn
          rw [hwj] at hn
          have hjl : k + j < l.length := by simp at h; omega
          have hn' : row.getD (k + j) 0 ≠ row.getD (k + j - 1) 0 := by
            rw [show k + j - 1 = k + (j - 1) by omega]; exact bneT hn
          refine Again.mk (w + 1, j + 1, row.set w (row.getD (k + j) 0)) ⟨by show 1 ≤ j + 1; omega, hq.new hjl hn'⟩ (by show l.length - (k + (j + 1)) < l.length - (k + j); omega) ?_
          rw [wrapN (by omega), wrapN (by omega)]
          (refine ⟨?_, rfl, ?_, ?_, ?_, rfl⟩ <;> repeat' (first | exact trivial | (refine ⟨rfl, ?_⟩) | fail))
        · rename_i h hn
          rw [hwj] at hn
          have hjl : k + j < l.length := by simp at h; omega
          have hn' : row.getD (k + j) 0 = row.getD (k + j - 1) 0 := by
            rw [show k + j - 1 = k + (j - 1) by omega]; exact bneF hn
          refine Again.mk (w, j + 1, row) ⟨by show 1 ≤ j + 1; omega, hq.same hjl hn'⟩ (by show l.length - (k + (j + 1)) < l.length - (k + j); omega) ?_
          rw [wrapN (by omega)]
          (refine ⟨?_, rfl, ?_, ?_, ?_, rfl⟩ <;> repeat' (first | exact trivial | (refine ⟨rfl, ?_⟩) | fail))
        all_goals rename_i h; simp at h
        · show (w : Int) ≤ row.length; omega
        · show w ≤ row.length; omega
        · exact Nat.le_refl _
        all_goals simp only [Int.toNat_natCast, Int.ofNat_eq_natCast, List.length_append, List.length_take, List.length_replicate, List.length_drop, List.take_append, List.take_take]
        · omega
        · omega
        · rw [show w - min w row.length = 0 by omega, show w - (min w row.length + (row.length - w)) = 0 by omega, Nat.min_self, List.take_zero, List.take_zero, List.append_nil, List.append_nil, hq.done (by omega)]
      · rename_i h he
        rw [hwp] at he
        have hkl : k < l.length := by simp at h; omega
        refine Again.mk (k + 1) ⟨by omega, by omega, compact_go hk1 hkl hk3 (beqF he)⟩ (by omega) ?_
        rw [wrapN (by have hll : l.length ≤ 2000000000 := (by first | exact hpre | exact hpre.1); omega)]
        (refine ⟨?_, rfl, ?_, ?_, ?_, rfl⟩ <;> repeat' (first | exact trivial | (refine ⟨rfl, ?_⟩) | fail))
      · rename_i h
        simp at h
        show (⟨3, .int .i64, l, true⟩ : Row) = ⟨3, .int .i64, _, true⟩
        rw [List.take_of_length_le (by omega)] at hk3
        rw [hk3]
  · cases hcr
end
end Go.X

namespace Go.X
open Go Go.Proofs

def cRIs : Con
  | [.a (.i .i64 n)] => some ⟨[], .a (.b (spIsSquare n)), [], []⟩
  | _ => none
def cStep : Con
  | [.agg [.a (.s _), .a (.i .i64 fr), .a (.i .u8 _)], .a (.i .i64 a), .a (.i .i64 b)] => some ⟨[SM a, SM b], .a (.i .i64 (spStep fr a b)), [], []⟩
  | _ => none
def cEmpty : Con
  | [.agg [.a (.s p), .a (.i .i64 _), .a (.i .u8 _)], .a (.i .i64 n)] => some ⟨[S90 p], .a (.b (spEmpty p n)), [], []⟩
  | _ => none
def cFour : Con
  | [.agg [.a (.s _), .a (.i .i64 fr), .a (.i .u8 _)], .a (.i .i64 a), .a (.i .i64 b)] => some ⟨[SM a, SM b], .row ⟨3, .int .i64, spFour fr a b, true⟩, [], []⟩
  | _ => none
def cLine : Con
  | [.agg [.a (.s p), .a (.i .i64 fr), .a (.i .u8 _)], .a (.i .i64 a), .a (.i .i64 b)] => some ⟨[Dir a b, S90 p], .tup [.row ⟨3, .int .i64, spFree p fr a b, true⟩, .a (.i .i64 (spFirst2 p fr a b 0)), .a (.i .i64 (spFirst2 p fr a b 1))], [], []⟩
  | _ => none
def cAllow : Con
  | [.agg [.a (.s _), .a (.i .i64 _), .a (.i .u8 pc)], .row id ⟨3, .int .i64, l, true⟩] => some ⟨[LB l], .row ⟨3, .int .i64, l.filter (spMay pc), true⟩, [id], []⟩
  | _ => none
def cGen : Con
  | [.agg [.a (.s _), .a (.i .i64 fr), .a (.i .u8 pc)]] => some ⟨[], .row ⟨3, .int .i64, spGen fr pc, true⟩, [], []⟩
  | _ => none
def cAdvL : Con
  | [.agg [.a (.s _), .a (.i .i64 fr), .a (.i .u8 pc)]] => some ⟨[], .row ⟨3, .int .i64, spAdvL fr pc, true⟩, [], []⟩
  | _ => none
def cEle1 : Con
  | [.a (.i .i64 n), .box _ 0 _ _ [.a (.s p), .a (.i .i64 fr), .a (.i .u8 _)]] => some ⟨[S90 p, Sq fr], .a (.b (!spEmpty p (IntKind.i64.wrap ((IntKind.i64.wrap (fr + n)).tdiv 2)))), [], []⟩
  | _ => none
def cEleL : Con
  | [.agg [.a (.s p), .a (.i .i64 fr), .a (.i .u8 pc)]] => some ⟨[S90 p, Sq fr], .row ⟨3, .int .i64, spEleL p fr pc, true⟩, [], []⟩
  | _ => none
def cHorse : Con
  | [.agg [.a (.s p), .a (.i .i64 fr), .a (.i .u8 _)]] => some ⟨[S90 p], .row ⟨3, .int .i64, spHorse p fr, true⟩, [], []⟩
  | _ => none
def cLines : Con
  | [.agg [.a (.s p), .a (.i .i64 fr), .a (.i .u8 _)], .a (.b second)] => some ⟨[S90 p], .row ⟨3, .int .i64, spLines p fr second, true⟩, [], []⟩
  | _ => none
def cChariot : Con
  | [.agg [.a (.s p), .a (.i .i64 fr), .a (.i .u8 _)]] => some ⟨[S90 p], .row ⟨3, .int .i64, spLines p fr false, true⟩, [], []⟩
  | _ => none
def cCannon : Con
  | [.agg [.a (.s p), .a (.i .i64 fr), .a (.i .u8 _)]] => some ⟨[S90 p], .row ⟨3, .int .i64, spLines p fr true, true⟩, [], []⟩
  | _ => none
def cPawn : Con
  | [.agg [.a (.s _), .a (.i .i64 fr), .a (.i .u8 pc)]] => some ⟨[], .row ⟨3, .int .i64, spPawnL fr pc, true⟩, [], []⟩
  | _ => none
section
variable {G : Nat → World → Prop}
set_option maxHeartbeats 4000000 in
set_option maxRecDepth 20000 in
theorem okRIs (hS : Hyp G) : ConOK Tryz.prog G 66 cRIs := by
  refine seat_con hS.seat [] [] trivial Tryz.func66 rfl rfl rfl ?_
  intro rvs cr hcr hpre
  unfold cRIs at hcr
  split at hcr
  · cases hcr
    refine ⟨⟨rfl, rfl, rfl⟩, fun c hc vs => ?_⟩
    repeat' (first | exact Bool.noConfusion ‹(!true) = true› | exact Bool.noConfusion ‹(!false) = false› | (intro h; exact h) | (intro h; rw [h]; rfl) | (intro h1 h2; rw [h1, h2]; rfl) | (intro _; assumption) | (intro _; exact rfl) | (intro h; exact Bool.noConfusion (h.symm.trans ‹_ = false›)) | refine ⟨fun _ => ?_, fun _ => ?_⟩ | refine ⟨?_⟩ | refine ⟨?_, ?_⟩ | fail)
    all_goals first | exact rfl | (refine chk_i ?_; simp_all [spIsSquare]; done) | (refine chk_i ?_; simp only [spIsSquare, decide_eq_true_eq, decide_eq_false_iff_not, Bool.not_eq_true', Bool.not_eq_false', Bool.or_eq_true, Bool.or_eq_false_iff, Bool.and_eq_true, Bool.and_eq_false_iff] at *; (repeat' split) <;> first | rfl | omega | (simp_all; done) | (simp_all; omega)) | (refine chk_b ?_; simp_all [spIsSquare]; done) | (refine chk_b ?_; simp only [spIsSquare, decide_eq_true_eq, decide_eq_false_iff_not, Bool.not_eq_true', Bool.not_eq_false', Bool.or_eq_true, Bool.or_eq_false_iff, Bool.and_eq_true, Bool.and_eq_false_iff] at *; (repeat' split) <;> first | rfl | omega | (simp_all; done) | (simp_all; omega)) | (refine chk_s ?_; simp_all [spIsSquare]; done) | (refine chk_s ?_; simp only [spIsSquare, decide_eq_true_eq, decide_eq_false_iff_not, Bool.not_eq_true', Bool.not_eq_false', Bool.or_eq_true, Bool.or_eq_false_iff, Bool.and_eq_true, Bool.and_eq_false_iff] at *; (repeat' split) <;> first | rfl | omega | (simp_all; done) | (simp_all; omega)) | (simp_all [spIsSquare]; done) | (simp_all [spIsSquare]; omega) | skip
  · cases hcr
set_option maxHeartbeats 4000000 in
set_option maxRecDepth 20000 in
theorem okStep (hS : Hyp G) : ConOK Tryz.prog G 111 cStep := by
  refine seat_con hS.seat [(19, cFile), (20, cRank), (39, cSquare)] [] ⟨okFile hS, okRank hS, okSquare hS, trivial⟩ Tryz.func111 rfl rfl rfl ?_
  intro rvs cr hcr hpre
  unfold cStep at hcr
  split at hcr
  · cases hcr
    simp only [List.mem_cons, List.not_mem_nil, or_false, forall_eq_or_imp, forall_eq] at hpre
    refine ⟨⟨rfl, rfl, rfl⟩, fun c hc vs => ?_⟩
    repeat' (first | exact Bool.noConfusion ‹(!true) = true› | exact Bool.noConfusion ‹(!false) = false› | (intro h; exact h) | (intro h; rw [h]; rfl) | (intro h1 h2; rw [h1, h2]; rfl) | (intro _; assumption) | (intro _; exact rfl) | (intro h; exact Bool.noConfusion (h.symm.trans ‹_ = false›)) | refine ⟨fun _ => ?_, fun _ => ?_⟩ | refine ⟨?_⟩ | refine ⟨?_, ?_⟩ | fail)
    all_goals first | exact trivial | (refine (?_ : (_ : Int) ≠ _); decide) | exact rfl | skip
    exact chk_i (step_wrap hpre.1 hpre.2)
  · cases hcr
set_option maxHeartbeats 4000000 in
set_option maxRecDepth 20000 in
theorem okEmpty (hS : Hyp G) : ConOK Tryz.prog G 110 cEmpty := by
  refine seat_con hS.seat [(66, cRIs)] [] ⟨okRIs hS, trivial⟩ Tryz.func110 rfl rfl rfl ?_
  intro rvs cr hcr hpre
  unfold cEmpty at hcr
  split at hcr
  · cases hcr
    simp only [List.mem_cons, List.not_mem_nil, or_false, forall_eq_or_imp, forall_eq] at hpre
    refine ⟨⟨rfl, rfl, rfl⟩, fun c hc vs => ?_⟩
    repeat' (first | exact Bool.noConfusion ‹(!true) = true› | exact Bool.noConfusion ‹(!false) = false› | (intro h; exact h) | (intro h; rw [h]; rfl) | (intro h1 h2; rw [h1, h2]; rfl) | (intro _; assumption) | (intro _; exact rfl) | (intro h; exact Bool.noConfusion (h.symm.trans ‹_ = false›)) | refine ⟨fun _ => ?_, fun _ => ?_⟩ | refine ⟨?_⟩ | refine ⟨?_, ?_⟩ | fail)
    all_goals first | exact trivial | (refine (?_ : (_ : Int) ≠ _); decide) | exact rfl | skip
    intro h; have h := isSquare_iff.1 h; have := hpre.is; omega
  · cases hcr
set_option maxHeartbeats 4000000 in
set_option maxRecDepth 20000 in
theorem okFour (hS : Hyp G) : ConOK Tryz.prog G 108 cFour := by
  refine seat_con hS.seat [(111, cStep)] [] ⟨okStep hS, trivial⟩ Tryz.func108 rfl rfl rfl ?_
  intro rvs cr hcr hpre
  unfold cFour at hcr
  split at hcr
  · cases hcr
    simp only [List.mem_cons, List.not_mem_nil, or_false, forall_eq_or_imp, forall_eq] at hpre
    refine ⟨⟨rfl, rfl, rfl⟩, fun c hc vs => ?_⟩
    have h1 := neg_wrap hpre.1
    have h2 := neg_wrap hpre.2
    have h3 := hpre.1.neg
    have h4 := hpre.2.neg
    repeat' (first | exact Bool.noConfusion ‹(!true) = true› | exact Bool.noConfusion ‹(!false) = false› | (intro h; exact h) | (intro h; rw [h]; rfl) | (intro h1 h2; rw [h1, h2]; rfl) | (intro _; assumption) | (intro _; exact rfl) | (intro h; exact Bool.noConfusion (h.symm.trans ‹_ = false›)) | refine ⟨fun _ => ?_, fun _ => ?_⟩ | refine ⟨?_⟩ | refine ⟨?_, ?_⟩ | fail)
    all_goals first | exact trivial | (refine (?_ : (_ : Int) ≠ _); decide) | exact rfl | skip
    all_goals first | exact hpre.1 | exact hpre.2 | (rw [h1]; exact h3) | (rw [h2]; exact h4) | skip
    show (⟨_, _, _, _⟩ : Row) = ⟨_, _, _, _⟩
    rw [h1, h2]; rfl
  · cases hcr
set_option maxHeartbeats 4000000 in
set_option maxRecDepth 20000 in
theorem okLine (hS : Hyp G) : ConOK Tryz.prog G 133 cLine := by
  refine seat_con hS.seat [(111, cStep), (66, cRIs)] [] ⟨okStep hS, okRIs hS, trivial⟩ Tryz.func133 rfl rfl rfl ?_
  intro rvs cr hcr hpre
  unfold cLine at hcr
  split at hcr
  · rename_i p fr pc a b
    cases hcr
    simp only [List.mem_cons, List.not_mem_nil, or_false, forall_eq_or_imp, forall_eq] at hpre
    refine ⟨⟨rfl, rfl, rfl⟩, fun c hc vs => ?_⟩
    repeat' (first | exact Bool.noConfusion ‹(!true) = true› | exact Bool.noConfusion ‹(!false) = false› | (intro h; exact h) | (intro h; rw [h]; rfl) | (intro h1 h2; rw [h1, h2]; rfl) | (intro _; assumption) | (intro _; exact rfl) | (intro h; exact Bool.noConfusion (h.symm.trans ‹_ = false›)) | refine ⟨fun _ => ?_, fun _ => ?_⟩ | refine ⟨?_⟩ | refine ⟨?_, ?_⟩ | fail)
    all_goals first | exact trivial | (refine (?_ : (_ : Int) ≠ _); decide) | exact rfl | skip
    refine Tr_nilTmp 3 (.int .i64) 6 rfl (by decide) ?_
    repeat' (first | exact Bool.noConfusion ‹(!true) = true› | exact Bool.noConfusion ‹(!false) = false› | (intro h; exact h) | (intro h; rw [h]; rfl) | (intro h1 h2; rw [h1, h2]; rfl) | (intro _; assumption) | (intro _; exact rfl) | (intro h; exact Bool.noConfusion (h.symm.trans ‹_ = false›)) | refine ⟨fun _ => ?_, fun _ => ?_⟩ | refine ⟨?_⟩ | refine ⟨?_, ?_⟩ | fail)
    refine Tr_loopH (α := List Int) (fun d => [(6, .row 0), (7, .i .i64 (nth (blk p d) 0)), (8, .i .i64 (nth (blk p d) 1)), (9, .i .i64 (.ofNat (blk p d).length)), (10, .i .i64 (.ofNat (d.length + 1)))]) (fun _ => [])
      (fun d => [(0, some ⟨3, .int .i64, d.takeWhile (free p), true⟩)]) (fun d => Scan fr a b d) (fun d => 20 - d.length) [] Scan.start (by (refine ⟨?_, rfl, ?_, ?_, ?_, rfl⟩ <;> repeat' (first | exact trivial | (refine ⟨rfl, ?_⟩) | fail))) ?_
    intro d hq
    have hle := hq.le
    have hbl : (blk p d).length ≤ 9 := Nat.le_trans (List.length_filter_le _ _) hle
    have hft : (d.takeWhile (free p)).length ≤ 9 := Nat.le_trans ((List.takeWhile_prefix _).length_le) hle
    have hda : -1 ≤ a ∧ a ≤ 1 ∧ -1 ≤ b ∧ b ≤ 1 := by rcases hpre.1.is with ⟨rfl, rfl⟩ | ⟨rfl, rfl⟩ | ⟨rfl, rfl⟩ | ⟨rfl, rfl⟩ <;> omega
    have hma : -10 ≤ (d.length + 1 : Int) * a ∧ (d.length + 1 : Int) * a ≤ 10 ∧ -10 ≤ (d.length + 1 : Int) * b ∧ (d.length + 1 : Int) * b ≤ 10 := by
      rcases hpre.1.is with ⟨rfl, rfl⟩ | ⟨rfl, rfl⟩ | ⟨rfl, rfl⟩ | ⟨rfl, rfl⟩ <;> omega
    have ea : IntKind.i64.wrap (Int.ofNat (d.length + 1) * a) = Int.ofNat (d.length + 1) * a := by
      rw [wrap64] <;> simp <;> omega
    have eb : IntKind.i64.wrap (Int.ofNat (d.length + 1) * b) = Int.ofNat (d.length + 1) * b := by
      rw [wrap64] <;> simp <;> omega
    have hsa : SM (Int.ofNat (d.length + 1) * a) := .of (by simp; omega) (by simp; omega)
    have hsb : SM (Int.ofNat (d.length + 1) * b) := .of (by simp; omega) (by simp; omega)
    have hs9 := hpre.2.is
    refine vs.go rfl ?_
    repeat' (first | exact Bool.noConfusion ‹(!true) = true› | exact Bool.noConfusion ‹(!false) = false› | (intro h; exact h) | (intro h; rw [h]; rfl) | (intro h1 h2; rw [h1, h2]; rfl) | (intro _; assumption) | (intro _; exact rfl) | (intro h; exact Bool.noConfusion (h.symm.trans ‹_ = false›)) | refine ⟨fun _ => ?_, fun _ => ?_⟩ | refine ⟨?_⟩ | refine ⟨?_, ?_⟩ | fail)
    all_goals first | exact trivial | (refine (?_ : (_ : Int) ≠ _); decide) | exact rfl | skip
    all_goals try dsimp only at *
    all_goals simp only [ea, eb] at *
    · exact hsa
    · exact hsb
    · rename_i h; have e := hq.stop (bt h); show (⟨_, _, _, _⟩ : Row) = ⟨_, _, _, _⟩; rw [spFree, e]
    · rename_i h; have e := hq.stop (bt h); exact chk_i (by rw [spFirst2, e])
    · rename_i h; have e := hq.stop (bt h); exact chk_i (by rw [spFirst2, e])
    · rename_i h; have := isSquare_iff.1 (bn h); omega
    · rename_i h; have := isSquare_iff.1 (bn h); omega
    · simp; omega
    · simp; omega
    · rename_i h2 h0 hs hf
      have hn := hq.next hpre.1 (bn hs)
      refine Again.mk _ hn (by have := hn.le; simp at this ⊢; omega) ?_
      have h0' : (blk p d).length = 0 := by simpa using h0
      rw [blk_free hf, free_more h0' hf, List.length_append, List.length_singleton, wrapN (by omega)]
      (refine ⟨?_, rfl, ?_, ?_, ?_, rfl⟩ <;> repeat' (first | exact trivial | (refine ⟨rfl, ?_⟩) | fail))
    · rename_i h2 h0 hs hf
      have hn := hq.next hpre.1 (bn hs)
      refine Again.mk _ hn (by have := hn.le; simp at this ⊢; omega) ?_
      have h0' : (blk p d).length ≠ 0 := by simpa using h0
      rw [blk_free hf, free_same h0', List.length_append, List.length_singleton, wrapN (by omega)]
      (refine ⟨?_, rfl, ?_, ?_, ?_, rfl⟩ <;> repeat' (first | exact trivial | (refine ⟨rfl, ?_⟩) | fail))
    · rename_i h2 h0 hs hf
      have hn := hq.next hpre.1 (bn hs)
      refine Again.mk _ hn (by have := hn.le; simp at this ⊢; omega) ?_
      have h0' : blk p d = [] := by simpa using h0
      rw [blk_more hf, free_none hf, h0', wrapN (by omega)]
      simp only [List.length_append, List.length_singleton]
      (refine ⟨?_, rfl, ?_, ?_, ?_, rfl⟩ <;> repeat' (first | exact trivial | (refine ⟨rfl, ?_⟩) | fail))
    · rename_i h2 h0 hs hf
      have hn := hq.next hpre.1 (bn hs)
      refine Again.mk _ hn (by have := hn.le; simp at this ⊢; omega) ?_
      have h0' : (blk p d).length = 1 := by simp at h0 h2; have := List.length_pos_iff.2 h0; omega
      obtain ⟨x, hx⟩ := List.length_eq_one_iff.1 h0'
      rw [blk_more hf, free_none hf, hx, wrapN (by omega)]
      simp only [List.length_append, List.length_singleton]
      (refine ⟨?_, rfl, ?_, ?_, ?_, rfl⟩ <;> repeat' (first | exact trivial | (refine ⟨rfl, ?_⟩) | fail))
    all_goals
      rename_i h
      have h2 : 2 ≤ (blk p d).length := by simp at h; omega
      have e := hq.two h2
    · show (⟨_, _, _, _⟩ : Row) = ⟨_, _, _, _⟩; rw [e.1]
    · exact chk_i e.2.1.symm
    · exact chk_i e.2.2.symm
  · cases hcr
set_option maxHeartbeats 4000000 in
set_option maxRecDepth 20000 in
theorem okAllow (hS : Hyp G) : ConOK Tryz.prog G 107 cAllow := by
  refine seat_con hS.seat [(68, cDelA), (1000068, cMark)] [] ⟨okDelA hS, okMark, trivial⟩ Tryz.func107 rfl rfl rfl ?_
  intro rvs cr hcr hpre
  unfold cAllow at hcr
  split at hcr
  · cases hcr
    simp only [List.mem_cons, List.not_mem_nil, or_false, forall_eq_or_imp, forall_eq] at hpre
    refine ⟨⟨rfl, rfl, by simp [occOk, normL, occL, occ, vwsL, vws]⟩, fun c hc vs => ?_⟩
    simp only [normL, impL, imp, List.contains_cons, beq_self_eq_true, Bool.true_or, Bool.true_and]
    repeat' (first | exact Bool.noConfusion ‹(!true) = true› | exact Bool.noConfusion ‹(!false) = false› | (intro h; exact h) | (intro h; rw [h]; rfl) | (intro h1 h2; rw [h1, h2]; rfl) | (intro _; assumption) | (intro _; exact rfl) | (intro h; exact Bool.noConfusion (h.symm.trans ‹_ = false›)) | refine ⟨fun _ => ?_, fun _ => ?_⟩ | refine ⟨?_⟩ | refine ⟨?_, ?_⟩ | fail)
    all_goals first | exact trivial | (refine (?_ : (_ : Int) ≠ _); decide) | exact rfl | skip
    · exact hpre
    · show (⟨_, _, _, _⟩ : Row) = ⟨_, _, _, _⟩
      simp only [Bool.not_not]
  · cases hcr
set_option maxHeartbeats 4000000 in
set_option maxRecDepth 20000 in
theorem okGen (hS : Hyp G) : ConOK Tryz.prog G 93 cGen := by
  refine seat_con hS.seat [(108, cFour), (107, cAllow), (1000107, cMark)] [] ⟨okFour hS, okAllow hS, okMark, trivial⟩ Tryz.func93 rfl rfl rfl ?_
  intro rvs cr hcr hpre
  unfold cGen at hcr
  split at hcr
  · cases hcr
    refine ⟨⟨rfl, rfl, rfl⟩, fun c hc vs => ?_⟩
    repeat' (first | exact Bool.noConfusion ‹(!true) = true› | exact Bool.noConfusion ‹(!false) = false› | (intro h; exact h) | (intro h; rw [h]; rfl) | (intro h1 h2; rw [h1, h2]; rfl) | (intro _; assumption) | (intro _; exact rfl) | (intro h; exact Bool.noConfusion (h.symm.trans ‹_ = false›)) | refine ⟨fun _ => ?_, fun _ => ?_⟩ | refine ⟨?_⟩ | refine ⟨?_, ?_⟩ | fail)
    all_goals first | exact trivial | (refine (?_ : (_ : Int) ≠ _); decide) | exact rfl | skip
    all_goals first | exact SM.of (by decide) (by decide) | skip
    · simp [spFour]
    · simp [spFour]
    · show LB (spFour _ 1 0 ++ spFour _ 0 1); simp [spFour, LB]
  · cases hcr
set_option maxHeartbeats 4000000 in
set_option maxRecDepth 20000 in
theorem okAdvL (hS : Hyp G) : ConOK Tryz.prog G 94 cAdvL := by
  refine seat_con hS.seat [(108, cFour), (107, cAllow), (1000107, cMark)] [] ⟨okFour hS, okAllow hS, okMark, trivial⟩ Tryz.func94 rfl rfl rfl ?_
  intro rvs cr hcr hpre
  unfold cAdvL at hcr
  split at hcr
  · cases hcr
    refine ⟨⟨rfl, rfl, rfl⟩, fun c hc vs => ?_⟩
    repeat' (first | exact Bool.noConfusion ‹(!true) = true› | exact Bool.noConfusion ‹(!false) = false› | (intro h; exact h) | (intro h; rw [h]; rfl) | (intro h1 h2; rw [h1, h2]; rfl) | (intro _; assumption) | (intro _; exact rfl) | (intro h; exact Bool.noConfusion (h.symm.trans ‹_ = false›)) | refine ⟨fun _ => ?_, fun _ => ?_⟩ | refine ⟨?_⟩ | refine ⟨?_, ?_⟩ | fail)
    all_goals first | exact trivial | (refine (?_ : (_ : Int) ≠ _); decide) | exact rfl | skip
    all_goals first | exact SM.of (by decide) (by decide) | skip
    · simp [spFour, LB]
  · cases hcr
set_option maxHeartbeats 4000000 in
set_option maxRecDepth 20000 in
theorem okLines (hS : Hyp G) : ConOK Tryz.prog G 112 cLines := by
  refine seat_con hS.seat [(133, cLine)] [] ⟨okLine hS, trivial⟩ Tryz.func112 rfl rfl rfl ?_
  intro rvs cr hcr hpre
  unfold cLines at hcr
  split at hcr
  · rename_i p fr pc sec
    cases hcr
    simp only [List.mem_cons, List.not_mem_nil, or_false, forall_eq_or_imp, forall_eq] at hpre
    refine ⟨⟨rfl, rfl, rfl⟩, fun c hc vs => ?_⟩
    repeat' (first | exact Bool.noConfusion ‹(!true) = true› | exact Bool.noConfusion ‹(!false) = false› | (intro h; exact h) | (intro h; rw [h]; rfl) | (intro h1 h2; rw [h1, h2]; rfl) | (intro _; assumption) | (intro _; exact rfl) | (intro h; exact Bool.noConfusion (h.symm.trans ‹_ = false›)) | refine ⟨fun _ => ?_, fun _ => ?_⟩ | refine ⟨?_⟩ | refine ⟨?_, ?_⟩ | fail)
    all_goals first | exact trivial | (refine (?_ : (_ : Int) ≠ _); decide) | exact rfl | skip
    refine Tr_nilTmp 3 (.int .i64) 5 rfl (by decide) ?_
    repeat' (first | exact Bool.noConfusion ‹(!true) = true› | exact Bool.noConfusion ‹(!false) = false› | (intro h; exact h) | (intro h; rw [h]; rfl) | (intro h1 h2; rw [h1, h2]; rfl) | (intro _; assumption) | (intro _; exact rfl) | (intro h; exact Bool.noConfusion (h.symm.trans ‹_ = false›)) | refine ⟨fun _ => ?_, fun _ => ?_⟩ | refine ⟨?_⟩ | refine ⟨?_, ?_⟩ | fail)
    refine Tr_loopH (α := Nat) (fun i => [(5, .row 1), (17, .i .i64 (.ofNat i))]) (fun _ => []) (fun i => [(1, some ⟨3, .int .i64, (dirs.take i).flatMap (line1 p fr sec), true⟩)])
      (fun i => i ≤ 4) (fun i => 4 - i) 0 (by omega) (by (refine ⟨?_, rfl, ?_, ?_, ?_, rfl⟩ <;> repeat' (first | exact trivial | (refine ⟨rfl, ?_⟩) | fail))) ?_
    intro i hi
    have hl1 := dirs_len (f := line1 p fr sec) (fun w => line1_len _ _ _ w) hi
    have hl2 := free_len p fr (dirs.getD i (0, 0)).1 (dirs.getD i (0, 0)).2
    refine vs.go rfl ?_
    repeat' (first | exact Bool.noConfusion ‹(!true) = true› | exact Bool.noConfusion ‹(!false) = false› | (intro h; exact h) | (intro h; rw [h]; rfl) | (intro h1 h2; rw [h1, h2]; rfl) | (intro _; assumption) | (intro _; exact rfl) | (intro h; exact Bool.noConfusion (h.symm.trans ‹_ = false›)) | refine ⟨fun _ => ?_, fun _ => ?_⟩ | refine ⟨?_⟩ | refine ⟨?_, ?_⟩ | fail)
    all_goals first | exact trivial | (refine (?_ : (_ : Int) ≠ _); decide) | exact rfl | skip
    all_goals try dsimp only at *
    · rename_i h; simpa using h
    · rename_i h; simp at h; exact dirs_dir (i := i) (by omega)
    · exact hpre
    · show ((dirs.take i).flatMap (line1 p fr sec)).length + (spFree p fr (dirs.getD i (0, 0)).1 (dirs.getD i (0, 0)).2).length ≤ 4000000000
      omega
    · show (((dirs.take i).flatMap (line1 p fr sec)).length + (spFree p fr (dirs.getD i (0, 0)).1 (dirs.getD i (0, 0)).2).length) * 8 ≤ 140737488355328
      omega
    iterate 2
      · show ((dirs.take i).flatMap (line1 p fr sec) ++ spFree p fr (dirs.getD i (0, 0)).1 (dirs.getD i (0, 0)).2).length + 1 ≤ 4000000000
        rw [List.length_append]; omega
      · show (((dirs.take i).flatMap (line1 p fr sec) ++ spFree p fr (dirs.getD i (0, 0)).1 (dirs.getD i (0, 0)).2).length + 1) * 8 ≤ 140737488355328
        rw [List.length_append]; omega
      · rename_i h hs
        simp at h
        refine Again.mk (i + 1) (by omega) (by omega) ?_
        have e := dirs_next (by omega : i < 4) (line1 p fr sec)
        rw [e, line1, hs, wrapN (by omega), ← List.append_assoc]
        (refine ⟨?_, rfl, ?_, ?_, ?_, rfl⟩ <;> repeat' (first | exact trivial | (refine ⟨rfl, ?_⟩) | fail))
    all_goals
      rename_i h
      simp at h
      have h4 : i = 4 := by omega
      subst h4
      rfl
  · cases hcr
set_option maxHeartbeats 4000000 in
set_option maxRecDepth 20000 in
theorem okChariot (hS : Hyp G) : ConOK Tryz.prog G 97 cChariot := by
  refine seat_con hS.seat [(112, cLines)] [] ⟨okLines hS, trivial⟩ Tryz.func97 rfl rfl rfl ?_
  intro rvs cr hcr hpre
  unfold cChariot at hcr
  split at hcr
  · cases hcr
    simp only [List.mem_cons, List.not_mem_nil, or_false, forall_eq_or_imp, forall_eq] at hpre
    refine ⟨⟨rfl, rfl, rfl⟩, fun c hc vs => ?_⟩
    repeat' (first | exact Bool.noConfusion ‹(!true) = true› | exact Bool.noConfusion ‹(!false) = false› | (intro h; exact h) | (intro h; rw [h]; rfl) | (intro h1 h2; rw [h1, h2]; rfl) | (intro _; assumption) | (intro _; exact rfl) | (intro h; exact Bool.noConfusion (h.symm.trans ‹_ = false›)) | refine ⟨fun _ => ?_, fun _ => ?_⟩ | refine ⟨?_⟩ | refine ⟨?_, ?_⟩ | fail)
    all_goals first | exact trivial | (refine (?_ : (_ : Int) ≠ _); decide) | exact rfl | skip
    exact hpre
  · cases hcr
set_option maxHeartbeats 4000000 in
set_option maxRecDepth 20000 in
theorem okCannon (hS : Hyp G) : ConOK Tryz.prog G 98 cCannon := by
  refine seat_con hS.seat [(112, cLines)] [] ⟨okLines hS, trivial⟩ Tryz.func98 rfl rfl rfl ?_
  intro rvs cr hcr hpre
  unfold cCannon at hcr
  split at hcr
  · cases hcr
    simp only [List.mem_cons, List.not_mem_nil, or_false, forall_eq_or_imp, forall_eq] at hpre
    refine ⟨⟨rfl, rfl, rfl⟩, fun c hc vs => ?_⟩
    repeat' (first | exact Bool.noConfusion ‹(!true) = true› | exact Bool.noConfusion ‹(!false) = false› | (intro h; exact h) | (intro h; rw [h]; rfl) | (intro h1 h2; rw [h1, h2]; rfl) | (intro _; assumption) | (intro _; exact rfl) | (intro h; exact Bool.noConfusion (h.symm.trans ‹_ = false›)) | refine ⟨fun _ => ?_, fun _ => ?_⟩ | refine ⟨?_⟩ | refine ⟨?_, ?_⟩ | fail)
    all_goals first | exact trivial | (refine (?_ : (_ : Int) ≠ _); decide) | exact rfl | skip
    exact hpre
  · cases hcr
set_option maxHeartbeats 4000000 in
set_option maxRecDepth 20000 in
theorem okHorse (hS : Hyp G) : ConOK Tryz.prog G 96 cHorse := by
  refine seat_con hS.seat [(111, cStep), (110, cEmpty)] [] ⟨okStep hS, okEmpty hS, trivial⟩ Tryz.func96 rfl rfl rfl ?_
  intro rvs cr hcr hpre
  unfold cHorse at hcr
  split at hcr
  · rename_i p fr pc
    cases hcr
    simp only [List.mem_cons, List.not_mem_nil, or_false, forall_eq_or_imp, forall_eq] at hpre
    refine ⟨⟨rfl, rfl, rfl⟩, fun c hc vs => ?_⟩
    repeat' (first | exact Bool.noConfusion ‹(!true) = true› | exact Bool.noConfusion ‹(!false) = false› | (intro h; exact h) | (intro h; rw [h]; rfl) | (intro h1 h2; rw [h1, h2]; rfl) | (intro _; assumption) | (intro _; exact rfl) | (intro h; exact Bool.noConfusion (h.symm.trans ‹_ = false›)) | refine ⟨fun _ => ?_, fun _ => ?_⟩ | refine ⟨?_⟩ | refine ⟨?_, ?_⟩ | fail)
    all_goals first | exact trivial | (refine (?_ : (_ : Int) ≠ _); decide) | exact rfl | skip
    refine Tr_nilTmp 3 (.int .i64) 3 rfl (by decide) ?_
    repeat' (first | exact Bool.noConfusion ‹(!true) = true› | exact Bool.noConfusion ‹(!false) = false› | (intro h; exact h) | (intro h; rw [h]; rfl) | (intro h1 h2; rw [h1, h2]; rfl) | (intro _; assumption) | (intro _; exact rfl) | (intro h; exact Bool.noConfusion (h.symm.trans ‹_ = false›)) | refine ⟨fun _ => ?_, fun _ => ?_⟩ | refine ⟨?_⟩ | refine ⟨?_, ?_⟩ | fail)
    refine Tr_loopH (α := Nat) (fun i => [(3, .row 1), (12, .i .i64 (.ofNat i))]) (fun _ => []) (fun i => [(1, some ⟨3, .int .i64, (dirs.take i).flatMap (horse1 p fr), true⟩)])
      (fun i => i ≤ 4) (fun i => 4 - i) 0 (by omega) (by (refine ⟨?_, rfl, ?_, ?_, ?_, rfl⟩ <;> repeat' (first | exact trivial | (refine ⟨rfl, ?_⟩) | fail))) ?_
    intro i hi
    have hl1 := dirs_len (f := horse1 p fr) (fun w => by unfold horse1; split <;> simp) hi
    refine vs.go rfl ?_
    repeat' (first | exact Bool.noConfusion ‹(!true) = true› | exact Bool.noConfusion ‹(!false) = false› | (intro h; exact h) | (intro h; rw [h]; rfl) | (intro h1 h2; rw [h1, h2]; rfl) | (intro _; assumption) | (intro _; exact rfl) | (intro h; exact Bool.noConfusion (h.symm.trans ‹_ = false›)) | refine ⟨fun _ => ?_, fun _ => ?_⟩ | refine ⟨?_⟩ | refine ⟨?_, ?_⟩ | fail)
    all_goals first | exact trivial | (refine (?_ : (_ : Int) ≠ _); decide) | exact rfl | skip
    all_goals try dsimp only at *
    · rename_i h; simpa using h
    iterate 2
      · have hs := dir_sm (dirs_dir (i := i) (by simp at *; omega))
        first | exact hs.1 | exact hs.2.1
    · exact hpre
    iterate 4
      · have hd := dirs_dir (i := i) (by simp at *; omega)
        have hs := dir_sm hd
        obtain ⟨_, _, h1, h2, h3, h4⟩ := hs
        rw [← dir_w1 hd] at h1
        rw [← dir_w2 hd] at h2
        rw [← dir_w3 hd] at h3
        rw [← dir_w4 hd] at h4
        first | exact h1 | exact h2 | exact h3 | exact h4
    · show ((dirs.take i).flatMap (horse1 p fr)).length + 2 ≤ 4000000000; omega
    · show (((dirs.take i).flatMap (horse1 p fr)).length + 2) * 8 ≤ 140737488355328; omega
    · rename_i h hs
      simp at h
      have hd := dirs_dir (i := i) (by omega)
      refine Again.mk (i + 1) (by omega) (by omega) ?_
      have e := dirs_next (by omega : i < 4) (horse1 p fr)
      have hs' : spEmpty p (spStep fr (dirs.getD i (0, 0)).1 (dirs.getD i (0, 0)).2) = true := hs
      rw [e, horse1, if_pos hs', wrapN (by omega), ← dir_w1 hd, ← dir_w2 hd, ← dir_w3 hd, ← dir_w4 hd]
      (refine ⟨?_, rfl, ?_, ?_, ?_, rfl⟩ <;> repeat' (first | exact trivial | (refine ⟨rfl, ?_⟩) | fail))
    · rename_i h hs
      simp at h
      refine Again.mk (i + 1) (by omega) (by omega) ?_
      have e := dirs_next (by omega : i < 4) (horse1 p fr)
      have hs' : spEmpty p (spStep fr (dirs.getD i (0, 0)).1 (dirs.getD i (0, 0)).2) = false := hs
      rw [e, horse1, hs', wrapN (by omega), if_neg (by simp), List.append_nil]
      (refine ⟨?_, rfl, ?_, ?_, ?_, rfl⟩ <;> repeat' (first | exact trivial | (refine ⟨rfl, ?_⟩) | fail))
    · rename_i h
      simp at h
      have h4 : i = 4 := by omega
      subst h4
      rfl
  · cases hcr
set_option maxHeartbeats 4000000 in
set_option maxRecDepth 20000 in
theorem okPawn (hS : Hyp G) : ConOK Tryz.prog G 99 cPawn := by
  refine seat_con hS.seat [(50, cSide), (111, cStep), (113, cOver)] [] ⟨okSide hS, okStep hS, okOver hS, trivial⟩ Tryz.func99 rfl rfl rfl ?_
  intro rvs cr hcr hpre
  unfold cPawn at hcr
  split at hcr
  · rename_i p fr pc
    cases hcr
    simp only [List.mem_cons, List.not_mem_nil, or_false, forall_eq_or_imp, forall_eq] at hpre
    refine ⟨⟨rfl, rfl, rfl⟩, fun c hc vs => ?_⟩
    have hb := side_bd pc
    have e : IntKind.i64.wrap (1 - IntKind.i64.wrap (2 * spSide pc)) = 1 - 2 * spSide pc := by
      rw [wrap64 (x := 2 * _) (by omega) (by omega), wrap64 (by omega) (by omega)]
    repeat' (first | exact Bool.noConfusion ‹(!true) = true› | exact Bool.noConfusion ‹(!false) = false› | (intro h; exact h) | (intro h; rw [h]; rfl) | (intro h1 h2; rw [h1, h2]; rfl) | (intro _; assumption) | (intro _; exact rfl) | (intro h; exact Bool.noConfusion (h.symm.trans ‹_ = false›)) | refine ⟨fun _ => ?_, fun _ => ?_⟩ | refine ⟨?_⟩ | refine ⟨?_, ?_⟩ | fail)
    all_goals first | exact trivial | (refine (?_ : (_ : Int) ≠ _); decide) | exact rfl | skip
    all_goals first | exact SM.of (by decide) (by decide) | (rw [e]; exact SM.of (by omega) (by omega)) | (simp; done) | skip
    · rename_i h
      show (⟨_, _, _, _⟩ : Row) = ⟨_, _, _, _⟩
      rw [e, spPawnL, if_pos h]
    · rename_i h
      show (⟨_, _, _, _⟩ : Row) = ⟨_, _, _, _⟩
      rw [e, spPawnL, if_neg (by rw [h]; simp)]; rfl
  · cases hcr
end
end Go.X
