/-
  Parts of the proof.
-/
import Derived.Test.YtboohbgmhmpnmaaGreatDoorA3
import Derived.Test.YtboohbgmhmpnmaaGreatDoorA2

set_option linter.unusedSimpArgs false
set_option linter.unusedVariables false

namespace Go.X
open Go Go.Proofs

def cAll1 : Con
  | [.a (.i .i64 n), .box _ 0 _ _ [.a (.s p)], .box _ 0 _ _ [.a (.i .u8 pc)]] => some ⟨[S90 p], .a (.b (spTaken p pc n)), [], []⟩
  | _ => none
def cIndexI : Con
  | [.row _ ⟨3, .int .i64, l, _⟩, .a (.i .i64 v)] => some ⟨[LB l], .a (.i .i64 (spIdx (fun x => v == x) l)), [], []⟩
  | _ => none
def cContainsI : Con
  | [.row _ ⟨3, .int .i64, l, _⟩, .a (.i .i64 v)] => some ⟨[LB l], .a (.b (l.any (fun x => v == x))), [], []⟩
  | _ => none
def cWay : Con
  | [.agg [.a (.s p), .a (.i .i64 fr), .a (.i .u8 pc)]] => some ⟨[WayOk p fr pc], .row ⟨3, .int .i64, spWay p fr pc, true⟩, [], []⟩
  | _ => none
def cAll : Con
  | [.a (.s p), .a (.i .i64 fr)] => some ⟨[], .row ⟨3, .int .i64, spAll p fr, true⟩, [], []⟩
  | _ => none
def cRCan : Con
  | [.a (.s p), .a (.i .i64 fr), .a (.i .i64 to)] => some ⟨[], .a (.b (spCan p fr to)), [], []⟩
  | _ => none
def cSort : Con := cSortI 3
section
variable {G : Nat → World → Prop}
set_option maxHeartbeats 4000000 in
set_option maxRecDepth 20000 in
theorem okEle1 (hS : Hyp G) : ConOK Tryz.prog G 109 cEle1 := by
  refine seat_con hS.seat [(110, cEmpty)] [] ⟨okEmpty hS, trivial⟩ Tryz.func109 rfl rfl rfl ?_
  intro rvs cr hcr hpre
  unfold cEle1 at hcr
  split at hcr
  · cases hcr
    simp only [List.mem_cons, List.not_mem_nil, or_false, forall_eq_or_imp, forall_eq] at hpre
    refine ⟨⟨rfl, rfl, rfl⟩, fun c hc vs => ?_⟩
    repeat' (first | exact Bool.noConfusion ‹(!true) = true› | exact Bool.noConfusion ‹(!false) = false› | (intro h; exact h) | (intro h; rw [h]; rfl) | (intro h1 h2; rw [h1, h2]; rfl) | (intro _; assumption) | (intro _; exact rfl) | (intro h; exact Bool.noConfusion (h.symm.trans ‹_ = false›)) | refine ⟨fun _ => ?_, fun _ => ?_⟩ | refine ⟨?_⟩ | refine ⟨?_, ?_⟩ | fail)
    all_goals first | exact trivial | (refine (?_ : (_ : Int) ≠ _); decide) | exact rfl | skip
    exact hpre.1
  · cases hcr
set_option maxHeartbeats 4000000 in
set_option maxRecDepth 20000 in
theorem okAll1 (hS : Hyp G) : ConOK Tryz.prog G 77 cAll1 := by
  refine seat_con hS.seat [(66, cRIs), (50, cSide)] [] ⟨okRIs hS, okSide hS, trivial⟩ Tryz.func77 rfl rfl rfl ?_
  intro rvs cr hcr hpre
  unfold cAll1 at hcr
  split at hcr
  · cases hcr
    simp only [List.mem_cons, List.not_mem_nil, or_false, forall_eq_or_imp, forall_eq] at hpre
    refine ⟨⟨rfl, rfl, rfl⟩, fun c hc vs => ?_⟩
    repeat' (first | exact Bool.noConfusion ‹(!true) = true› | exact Bool.noConfusion ‹(!false) = false› | (intro h; exact h) | (intro h; rw [h]; rfl) | (intro h1 h2; rw [h1, h2]; rfl) | (intro _; assumption) | (intro _; exact rfl) | (intro h; exact Bool.noConfusion (h.symm.trans ‹_ = false›)) | refine ⟨fun _ => ?_, fun _ => ?_⟩ | refine ⟨?_⟩ | refine ⟨?_, ?_⟩ | fail)
    all_goals first | exact rfl | skip
    all_goals
      have := hpre.is
      intro h
      have h := isSquare_iff.1 (by simpa using h)
      omega
  · cases hcr
def cIdxE : Con
  | [.row _ ⟨3, .int .i64, l, _⟩, .fn 109 [.box _ 0 123 _ [.a (.s p), .a (.i .i64 fr), .a (.i .u8 pc)]]] => some ⟨LB l :: [S90 p, Sq fr], .a (.i .i64 (spIdx (fun n => !spEmpty p (IntKind.i64.wrap ((IntKind.i64.wrap (fr + n)).tdiv 2))) l)), [], []⟩
  | _ => none
set_option maxHeartbeats 4000000 in
set_option maxRecDepth 20000 in
theorem okIdxE (hS : Hyp G) : ConOK Tryz.prog G 87 cIdxE := by
  refine seat_con hS.seat [(109, cEle1)] [none] ⟨okEle1 hS, trivial⟩ Tryz.func87 rfl rfl rfl ?_
  intro rvs cr hcr hpre
  unfold cIdxE at hcr
  split at hcr
  · rename_i x _ l _ _ _ p fr pc
    cases hcr
    simp only [List.mem_cons, List.not_mem_nil, or_false, forall_eq_or_imp, forall_eq] at hpre
    refine ⟨⟨rfl, rfl, rfl⟩, fun c hc vs => ?_⟩
    repeat' (first | exact Bool.noConfusion ‹(!true) = true› | exact Bool.noConfusion ‹(!false) = false› | (intro h; exact h) | (intro h; rw [h]; rfl) | (intro h1 h2; rw [h1, h2]; rfl) | (intro _; assumption) | (intro _; exact rfl) | (intro h; exact Bool.noConfusion (h.symm.trans ‹_ = false›)) | refine ⟨fun _ => ?_, fun _ => ?_⟩ | refine ⟨?_⟩ | refine ⟨?_, ?_⟩ | fail)
    all_goals first | exact trivial | (refine (?_ : (_ : Int) ≠ _); decide) | exact rfl | skip
    refine Tr_loopH (α := Nat) (fun i => [(8, .i .i64 (.ofNat i))]) (fun _ => []) (fun _ => [])
        (fun i => i ≤ l.length ∧ ∀ x ∈ l.take i, (fun n => !spEmpty p (IntKind.i64.wrap ((IntKind.i64.wrap (fr + n)).tdiv 2))) x = false) (fun i => l.length - i) 0 ⟨by omega, by simp⟩ (by (refine ⟨?_, rfl, ?_, ?_, ?_, rfl⟩ <;> repeat' (first | exact trivial | (refine ⟨rfl, ?_⟩) | fail))) ?_
    rintro i ⟨hi, hq⟩
    refine vs.go rfl ?_
    repeat' (first | exact Bool.noConfusion ‹(!true) = true› | exact Bool.noConfusion ‹(!false) = false› | (intro h; exact h) | (intro h; rw [h]; rfl) | (intro h1 h2; rw [h1, h2]; rfl) | (intro _; assumption) | (intro _; exact rfl) | (intro h; exact Bool.noConfusion (h.symm.trans ‹_ = false›)) | refine ⟨fun _ => ?_, fun _ => ?_⟩ | refine ⟨?_⟩ | refine ⟨?_, ?_⟩ | fail)
    all_goals first | exact trivial | (refine (?_ : (_ : Int) ≠ _); decide) | exact rfl | skip
    all_goals first | exact hpre.1 | exact hpre.2 | exact hpre.2.1 | exact hpre.2.2 | exact NE.of' hpre.2 ‹decide _ = true› | skip
    · rename_i h; simpa using h
    · rename_i h hf; simp at h; exact chk_i (idx_some h hq hf).symm
    · rename_i h hf
      simp at h
      refine Again.mk (i + 1) ⟨by omega, take_next h hq hf⟩ (by omega) ?_
      rw [wrapN (by have hll : l.length ≤ 2000000000 := (by first | exact hpre | exact hpre.1); omega)]
      (refine ⟨?_, rfl, ?_, ?_, ?_, rfl⟩ <;> repeat' (first | exact trivial | (refine ⟨rfl, ?_⟩) | fail))
    · rename_i h
      simp at h
      have hi' : i = l.length := by omega
      subst hi'
      exact chk_i (idx_none hq).symm
  · cases hcr
def cDelE : Con
  | [.row id ⟨3, .int .i64, l, true⟩, .fn 109 [.box _ 0 123 _ [.a (.s p), .a (.i .i64 fr), .a (.i .u8 pc)]]] => some ⟨LB l :: [S90 p, Sq fr], .row ⟨3, .int .i64, l.filter (fun x => !(fun n => !spEmpty p (IntKind.i64.wrap ((IntKind.i64.wrap (fr + n)).tdiv 2))) x), true⟩, [id], []⟩
  | _ => none
set_option maxHeartbeats 4000000 in
set_option maxRecDepth 20000 in
theorem okDelE (hS : Hyp G) : ConOK Tryz.prog G 68 cDelE := by
  refine seat_con hS.seat [(87, cIdxE), (109, cEle1)] [] ⟨okIdxE hS, okEle1 hS, trivial⟩ Tryz.func68 rfl rfl rfl ?_
  intro rvs cr hcr hpre
  unfold cDelE at hcr
  split at hcr
  · rename_i id l _ _ p fr pc
    cases hcr
    simp only [List.mem_cons, List.not_mem_nil, or_false, forall_eq_or_imp, forall_eq] at hpre
    refine ⟨⟨rfl, rfl, by simp [occOk, normL, occL, occ, vwsL, vws]⟩, fun c hc vs => ?_⟩
    simp only [normL, impL, imp, List.contains_cons, beq_self_eq_true, Bool.true_or, Bool.true_and]
    repeat' (first | exact Bool.noConfusion ‹(!true) = true› | exact Bool.noConfusion ‹(!false) = false› | (intro h; exact h) | (intro h; rw [h]; rfl) | (intro h1 h2; rw [h1, h2]; rfl) | (intro _; assumption) | (intro _; exact rfl) | (intro h; exact Bool.noConfusion (h.symm.trans ‹_ = false›)) | refine ⟨fun _ => ?_, fun _ => ?_⟩ | refine ⟨?_⟩ | refine ⟨?_, ?_⟩ | fail)
    all_goals first | exact trivial | (refine (?_ : (_ : Int) ≠ _); decide) | exact rfl | skip
    all_goals first | exact hpre | exact hpre.1 | exact hpre.2 | exact hpre.2.1 | exact hpre.2.2 | skip
    · rename_i h
      rcases idx_spec (fun n => !spEmpty p (IntKind.i64.wrap ((IntKind.i64.wrap (fr + n)).tdiv 2))) l with ⟨_, h2⟩ | ⟨i, _, h2, _⟩
      · show (⟨3, .int .i64, l, true⟩ : Row) = ⟨3, .int .i64, _, true⟩
        rw [idx_all h2]
      · rw [h2] at h; simp at h
    · rename_i h
      rcases idx_spec (fun n => !spEmpty p (IntKind.i64.wrap ((IntKind.i64.wrap (fr + n)).tdiv 2))) l with ⟨h2, _⟩ | ⟨w, hw, h2, h3, h4⟩
      · rw [h2] at h; simp at h
      · simp only [h2]
        rw [wrapN (by have hll : l.length ≤ 2000000000 := (by first | exact hpre | exact hpre.1); omega)]
        refine Tr_loopH (α := Nat × Nat × List Int) (fun x => [(5, .i .i64 (.ofNat x.1)), (6, .i .i64 (.ofNat x.2.1))]) (fun _ => []) (fun x => [(0, some ⟨3, .int .i64, x.2.2, true⟩)])
          (fun x => DelInv (fun n => !spEmpty p (IntKind.i64.wrap ((IntKind.i64.wrap (fr + n)).tdiv 2))) l x.1 x.2.1 x.2.2) (fun x => l.length - x.2.1) (w, w + 1, l) (DelInv.start hw h3 h4) (by (refine ⟨?_, rfl, ?_, ?_, ?_, rfl⟩ <;> repeat' (first | exact trivial | (refine ⟨rfl, ?_⟩) | fail))) ?_
        rintro ⟨i, j, row⟩ hq
        dsimp only at hq ⊢
        refine vs.go rfl ?_
        repeat' (first | exact Bool.noConfusion ‹(!true) = true› | exact Bool.noConfusion ‹(!false) = false› | (intro h; exact h) | (intro h; rw [h]; rfl) | (intro h1 h2; rw [h1, h2]; rfl) | (intro _; assumption) | (intro _; exact rfl) | (intro h; exact Bool.noConfusion (h.symm.trans ‹_ = false›)) | refine ⟨fun _ => ?_, fun _ => ?_⟩ | refine ⟨?_⟩ | refine ⟨?_, ?_⟩ | fail)
        all_goals first | exact trivial | (refine (?_ : (_ : Int) ≠ _); decide) | exact rfl | skip
        all_goals try dsimp only at *
        all_goals first | exact hpre.1 | exact hpre.2 | exact hpre.2.1 | exact hpre.2.2 | exact NE.of hpre.2 hw | skip
        all_goals (have hlt := hq.lt; have hle := hq.le; have hlen := hq.len)
        · rename_i h; simpa using h
        · rename_i h _; simp at h; show (i : Int) < row.length; omega
        · rename_i h hf
          simp at h
          refine Again.mk (i + 1, j + 1, row.set i (row.getD j 0)) (hq.keep (by omega) hf) (by show l.length - (j + 1) < l.length - j; omega) ?_
          rw [wrapN (by have hll : l.length ≤ 2000000000 := (by first | exact hpre | exact hpre.1); omega), wrapN (by have hll : l.length ≤ 2000000000 := (by first | exact hpre | exact hpre.1); omega)]
          (refine ⟨?_, rfl, ?_, ?_, ?_, rfl⟩ <;> repeat' (first | exact trivial | (refine ⟨rfl, ?_⟩) | fail))
        · rename_i h hf
          simp at h
          refine Again.mk (i, j + 1, row) (hq.del (by omega) hf) (by show l.length - (j + 1) < l.length - j; omega) ?_
          rw [wrapN (by have hll : l.length ≤ 2000000000 := (by first | exact hpre | exact hpre.1); omega)]
          (refine ⟨?_, rfl, ?_, ?_, ?_, rfl⟩ <;> repeat' (first | exact trivial | (refine ⟨rfl, ?_⟩) | fail))
        all_goals rename_i h; simp at h
        · show (i : Int) ≤ row.length; omega
        · show i ≤ row.length; omega
        · exact Nat.le_refl _
        all_goals simp only [Int.toNat_natCast, Int.ofNat_eq_natCast, List.length_append, List.length_take, List.length_replicate, List.length_drop, List.take_append, List.take_take]
        · omega
        · omega
        · rw [show i - min i row.length = 0 by omega, show i - (min i row.length + (row.length - i)) = 0 by omega, Nat.min_self, List.take_zero, List.take_zero, List.append_nil, List.append_nil, hq.done (by omega)]
  · cases hcr
def cIdxL : Con
  | [.row _ ⟨3, .int .i64, l, _⟩, .fn 77 [.box _ 0 9 _ [.a (.s p)], .box _ 0 5 _ [.a (.i .u8 pc)]]] => some ⟨LB l :: [NE l p], .a (.i .i64 (spIdx (fun n => spTaken p pc n) l)), [], []⟩
  | _ => none
set_option maxHeartbeats 4000000 in
set_option maxRecDepth 20000 in
theorem okIdxL (hS : Hyp G) : ConOK Tryz.prog G 87 cIdxL := by
  refine seat_con hS.seat [(77, cAll1)] [none] ⟨okAll1 hS, trivial⟩ Tryz.func87 rfl rfl rfl ?_
  intro rvs cr hcr hpre
  unfold cIdxL at hcr
  split at hcr
  · rename_i x _ l _ _ _ p _ _ pc
    cases hcr
    simp only [List.mem_cons, List.not_mem_nil, or_false, forall_eq_or_imp, forall_eq] at hpre
    refine ⟨⟨rfl, rfl, rfl⟩, fun c hc vs => ?_⟩
    repeat' (first | exact Bool.noConfusion ‹(!true) = true› | exact Bool.noConfusion ‹(!false) = false› | (intro h; exact h) | (intro h; rw [h]; rfl) | (intro h1 h2; rw [h1, h2]; rfl) | (intro _; assumption) | (intro _; exact rfl) | (intro h; exact Bool.noConfusion (h.symm.trans ‹_ = false›)) | refine ⟨fun _ => ?_, fun _ => ?_⟩ | refine ⟨?_⟩ | refine ⟨?_, ?_⟩ | fail)
    all_goals first | exact trivial | (refine (?_ : (_ : Int) ≠ _); decide) | exact rfl | skip
    refine Tr_loopH (α := Nat) (fun i => [(8, .i .i64 (.ofNat i))]) (fun _ => []) (fun _ => [])
        (fun i => i ≤ l.length ∧ ∀ x ∈ l.take i, (fun n => spTaken p pc n) x = false) (fun i => l.length - i) 0 ⟨by omega, by simp⟩ (by (refine ⟨?_, rfl, ?_, ?_, ?_, rfl⟩ <;> repeat' (first | exact trivial | (refine ⟨rfl, ?_⟩) | fail))) ?_
    rintro i ⟨hi, hq⟩
    refine vs.go rfl ?_
    repeat' (first | exact Bool.noConfusion ‹(!true) = true› | exact Bool.noConfusion ‹(!false) = false› | (intro h; exact h) | (intro h; rw [h]; rfl) | (intro h1 h2; rw [h1, h2]; rfl) | (intro _; assumption) | (intro _; exact rfl) | (intro h; exact Bool.noConfusion (h.symm.trans ‹_ = false›)) | refine ⟨fun _ => ?_, fun _ => ?_⟩ | refine ⟨?_⟩ | refine ⟨?_, ?_⟩ | fail)
    all_goals first | exact trivial | (refine (?_ : (_ : Int) ≠ _); decide) | exact rfl | skip
    all_goals first | exact hpre.1 | exact hpre.2 | exact hpre.2.1 | exact hpre.2.2 | exact NE.of' hpre.2 ‹decide _ = true› | skip
    · rename_i h; simpa using h
    · rename_i h hf; simp at h; exact chk_i (idx_some h hq hf).symm
    · rename_i h hf
      simp at h
      refine Again.mk (i + 1) ⟨by omega, take_next h hq hf⟩ (by omega) ?_
      rw [wrapN (by have hll : l.length ≤ 2000000000 := (by first | exact hpre | exact hpre.1); omega)]
      (refine ⟨?_, rfl, ?_, ?_, ?_, rfl⟩ <;> repeat' (first | exact trivial | (refine ⟨rfl, ?_⟩) | fail))
    · rename_i h
      simp at h
      have hi' : i = l.length := by omega
      subst hi'
      exact chk_i (idx_none hq).symm
  · cases hcr
def cDelL : Con
  | [.row id ⟨3, .int .i64, l, true⟩, .fn 77 [.box _ 0 9 _ [.a (.s p)], .box _ 0 5 _ [.a (.i .u8 pc)]]] => some ⟨LB l :: [NE l p], .row ⟨3, .int .i64, l.filter (fun x => !(fun n => spTaken p pc n) x), true⟩, [id], []⟩
  | _ => none
set_option maxHeartbeats 4000000 in
set_option maxRecDepth 20000 in
theorem okDelL (hS : Hyp G) : ConOK Tryz.prog G 68 cDelL := by
  refine seat_con hS.seat [(87, cIdxL), (77, cAll1)] [] ⟨okIdxL hS, okAll1 hS, trivial⟩ Tryz.func68 rfl rfl rfl ?_
  intro rvs cr hcr hpre
  unfold cDelL at hcr
  split at hcr
  · rename_i id l _ _ p _ _ pc
    cases hcr
    simp only [List.mem_cons, List.not_mem_nil, or_false, forall_eq_or_imp, forall_eq] at hpre
    refine ⟨⟨rfl, rfl, by simp [occOk, normL, occL, occ, vwsL, vws]⟩, fun c hc vs => ?_⟩
    simp only [normL, impL, imp, List.contains_cons, beq_self_eq_true, Bool.true_or, Bool.true_and]
    repeat' (first | exact Bool.noConfusion ‹(!true) = true› | exact Bool.noConfusion ‹(!false) = false› | (intro h; exact h) | (intro h; rw [h]; rfl) | (intro h1 h2; rw [h1, h2]; rfl) | (intro _; assumption) | (intro _; exact rfl) | (intro h; exact Bool.noConfusion (h.symm.trans ‹_ = false›)) | refine ⟨fun _ => ?_, fun _ => ?_⟩ | refine ⟨?_⟩ | refine ⟨?_, ?_⟩ | fail)
    all_goals first | exact trivial | (refine (?_ : (_ : Int) ≠ _); decide) | exact rfl | skip
    all_goals first | exact hpre | exact hpre.1 | exact hpre.2 | exact hpre.2.1 | exact hpre.2.2 | skip
    · rename_i h
      rcases idx_spec (fun n => spTaken p pc n) l with ⟨_, h2⟩ | ⟨i, _, h2, _⟩
      · show (⟨3, .int .i64, l, true⟩ : Row) = ⟨3, .int .i64, _, true⟩
        rw [idx_all h2]
      · rw [h2] at h; simp at h
    · rename_i h
      rcases idx_spec (fun n => spTaken p pc n) l with ⟨h2, _⟩ | ⟨w, hw, h2, h3, h4⟩
      · rw [h2] at h; simp at h
      · simp only [h2]
        rw [wrapN (by have hll : l.length ≤ 2000000000 := (by first | exact hpre | exact hpre.1); omega)]
        refine Tr_loopH (α := Nat × Nat × List Int) (fun x => [(5, .i .i64 (.ofNat x.1)), (6, .i .i64 (.ofNat x.2.1))]) (fun _ => []) (fun x => [(0, some ⟨3, .int .i64, x.2.2, true⟩)])
          (fun x => DelInv (fun n => spTaken p pc n) l x.1 x.2.1 x.2.2) (fun x => l.length - x.2.1) (w, w + 1, l) (DelInv.start hw h3 h4) (by (refine ⟨?_, rfl, ?_, ?_, ?_, rfl⟩ <;> repeat' (first | exact trivial | (refine ⟨rfl, ?_⟩) | fail))) ?_
        rintro ⟨i, j, row⟩ hq
        dsimp only at hq ⊢
        refine vs.go rfl ?_
        repeat' (first | exact Bool.noConfusion ‹(!true) = true› | exact Bool.noConfusion ‹(!false) = false› | (intro h; exact h) | (intro h; rw [h]; rfl) | (intro h1 h2; rw [h1, h2]; rfl) | (intro _; assumption) | (intro _; exact rfl) | (intro h; exact Bool.noConfusion (h.symm.trans ‹_ = false›)) | refine ⟨fun _ => ?_, fun _ => ?_⟩ | refine ⟨?_⟩ | refine ⟨?_, ?_⟩ | fail)
        all_goals first | exact trivial | (refine (?_ : (_ : Int) ≠ _); decide) | exact rfl | skip
        all_goals try dsimp only at *
        all_goals first | exact hpre.1 | exact hpre.2 | exact hpre.2.1 | exact hpre.2.2 | exact NE.of hpre.2 hw | skip
        all_goals (have hlt := hq.lt; have hle := hq.le; have hlen := hq.len)
        · rename_i h; simpa using h
        · rename_i h _; simp at h; show (i : Int) < row.length; omega
        · rename_i h hf
          simp at h
          refine Again.mk (i + 1, j + 1, row.set i (row.getD j 0)) (hq.keep (by omega) hf) (by show l.length - (j + 1) < l.length - j; omega) ?_
          rw [wrapN (by have hll : l.length ≤ 2000000000 := (by first | exact hpre | exact hpre.1); omega), wrapN (by have hll : l.length ≤ 2000000000 := (by first | exact hpre | exact hpre.1); omega)]
          (refine ⟨?_, rfl, ?_, ?_, ?_, rfl⟩ <;> repeat' (first | exact trivial | (refine ⟨rfl, ?_⟩) | fail))
        · rename_i h hf
          simp at h
          refine Again.mk (i, j + 1, row) (hq.del (by omega) hf) (by show l.length - (j + 1) < l.length - j; omega) ?_
          rw [wrapN (by have hll : l.length ≤ 2000000000 := (by first | exact hpre | exact hpre.1); omega)]
          (refine ⟨?_, rfl, ?_, ?_, ?_, rfl⟩ <;> repeat' (first | exact trivial | (refine ⟨rfl, ?_⟩) | fail))
        all_goals rename_i h; simp at h
        · show (i : Int) ≤ row.length; omega
        · show i ≤ row.length; omega
        · exact Nat.le_refl _
        all_goals simp only [Int.toNat_natCast, Int.ofNat_eq_natCast, List.length_append, List.length_take, List.length_replicate, List.length_drop, List.take_append, List.take_take]
        · omega
        · omega
        · rw [show i - min i row.length = 0 by omega, show i - (min i row.length + (row.length - i)) = 0 by omega, Nat.min_self, List.take_zero, List.take_zero, List.append_nil, List.append_nil, hq.done (by omega)]
  · cases hcr
theorem okSort (_ : Hyp G) : ConOK Tryz.prog G 78 cSort :=
  con_sort Tryz.func78 rfl rfl (fun blk off cap zs w h1 h2 h3 => Tryz.slices_Sort_int blk off cap zs w h1 h2 h3) (fun p cap w => Tryz.slices_Sort_int_none p cap w)
set_option maxHeartbeats 4000000 in
set_option maxRecDepth 20000 in
theorem okEleL (hS : Hyp G) : ConOK Tryz.prog G 95 cEleL := by
  refine seat_con hS.seat [(108, cFour), (107, cAllow), (1000107, cMark), (68, cDelE), (1000068, cMark)] [] ⟨okFour hS, okAllow hS, okMark, okDelE hS, okMark, trivial⟩ Tryz.func95 rfl rfl rfl ?_
  intro rvs cr hcr hpre
  unfold cEleL at hcr
  split at hcr
  · rename_i p fr pc
    cases hcr
    simp only [List.mem_cons, List.not_mem_nil, or_false, forall_eq_or_imp, forall_eq] at hpre
    refine ⟨⟨rfl, rfl, rfl⟩, fun c hc vs => ?_⟩
    repeat' (first | exact Bool.noConfusion ‹(!true) = true› | exact Bool.noConfusion ‹(!false) = false› | (intro h; exact h) | (intro h; rw [h]; rfl) | (intro h1 h2; rw [h1, h2]; rfl) | (intro _; assumption) | (intro _; exact rfl) | (intro h; exact Bool.noConfusion (h.symm.trans ‹_ = false›)) | refine ⟨fun _ => ?_, fun _ => ?_⟩ | refine ⟨?_⟩ | refine ⟨?_, ?_⟩ | fail)
    all_goals first | exact trivial | (refine (?_ : (_ : Int) ≠ _); decide) | exact rfl | skip
    all_goals first | exact SM.of (by decide) (by decide) | exact hpre.1 | exact hpre.2 | skip
    · simp [spFour, LB]
    · show LB ((spFour fr 2 2).filter (spMay pc))
      have : ((spFour fr 2 2).filter (spMay pc)).length ≤ 4 := List.length_filter_le _ _
      unfold LB; omega
    · show (⟨_, _, _, _⟩ : Row) = ⟨_, _, _, _⟩
      have e : ((spFour fr 2 2).filter (spMay pc)).filter (fun x => !!spEmpty p (IntKind.i64.wrap ((IntKind.i64.wrap (fr + x)).tdiv 2))) = spEleL p fr pc := by
        unfold spEleL
        apply List.filter_congr
        intro x hx
        rw [List.mem_filter] at hx
        have hx := may_sq hx.2
        have h1 := hpre.2.lo
        have h2 := hpre.2.hi
        rw [Bool.not_not, wrap64 (x := fr + x) (by omega) (by omega), Int.tdiv_eq_ediv_of_nonneg (by omega), wrap64 (by omega) (by omega)]
      rw [e]
  · cases hcr
set_option maxHeartbeats 4000000 in
set_option maxRecDepth 20000 in
theorem okIndexI (hS : Hyp G) : ConOK Tryz.prog G 75 cIndexI := by
  refine seat_con hS.seat [] [] trivial Tryz.func75 rfl rfl rfl ?_
  intro rvs cr hcr hpre
  unfold cIndexI at hcr
  split at hcr
  · rename_i x _ l _ v
    cases hcr
    simp only [List.mem_cons, List.not_mem_nil, or_false, forall_eq_or_imp, forall_eq] at hpre
    refine ⟨⟨rfl, rfl, rfl⟩, fun c hc vs => ?_⟩
    repeat' (first | exact Bool.noConfusion ‹(!true) = true› | exact Bool.noConfusion ‹(!false) = false› | (intro h; exact h) | (intro h; rw [h]; rfl) | (intro h1 h2; rw [h1, h2]; rfl) | (intro _; assumption) | (intro _; exact rfl) | (intro h; exact Bool.noConfusion (h.symm.trans ‹_ = false›)) | refine ⟨fun _ => ?_, fun _ => ?_⟩ | refine ⟨?_⟩ | refine ⟨?_, ?_⟩ | fail)
    all_goals first | exact trivial | (refine (?_ : (_ : Int) ≠ _); decide) | exact rfl | skip
    refine Tr_loopH (α := Nat) (fun i => [(8, .i .i64 (.ofNat i))]) (fun _ => []) (fun _ => [])
        (fun i => i ≤ l.length ∧ ∀ x ∈ l.take i, (fun x => v == x) x = false) (fun i => l.length - i) 0 ⟨by omega, by simp⟩ (by (refine ⟨?_, rfl, ?_, ?_, ?_, rfl⟩ <;> repeat' (first | exact trivial | (refine ⟨rfl, ?_⟩) | fail))) ?_
    rintro i ⟨hi, hq⟩
    refine vs.go rfl ?_
    repeat' (first | exact Bool.noConfusion ‹(!true) = true› | exact Bool.noConfusion ‹(!false) = false› | (intro h; exact h) | (intro h; rw [h]; rfl) | (intro h1 h2; rw [h1, h2]; rfl) | (intro _; assumption) | (intro _; exact rfl) | (intro h; exact Bool.noConfusion (h.symm.trans ‹_ = false›)) | refine ⟨fun _ => ?_, fun _ => ?_⟩ | refine ⟨?_⟩ | refine ⟨?_, ?_⟩ | fail)
    all_goals first | exact trivial | (refine (?_ : (_ : Int) ≠ _); decide) | exact rfl | skip
    · rename_i h; simpa using h
    · rename_i h hf; simp at h; exact chk_i (idx_some h hq hf).symm
    · rename_i h hf
      simp at h
      refine Again.mk (i + 1) ⟨by omega, take_next h hq hf⟩ (by omega) ?_
      rw [wrapN (by unfold LB at hpre; omega)]
      (refine ⟨?_, rfl, ?_, ?_, ?_, rfl⟩ <;> repeat' (first | exact trivial | (refine ⟨rfl, ?_⟩) | fail))
    · rename_i h
      simp at h
      have hi' : i = l.length := by omega
      subst hi'
      exact chk_i (idx_none hq).symm
  · cases hcr
set_option maxHeartbeats 4000000 in
set_option maxRecDepth 20000 in
theorem okContainsI (hS : Hyp G) : ConOK Tryz.prog G 52 cContainsI := by
  refine seat_con hS.seat [(75, cIndexI)] [] ⟨okIndexI hS, trivial⟩ Tryz.func52 rfl rfl rfl ?_
  intro rvs cr hcr hpre
  unfold cContainsI at hcr
  split at hcr
  · rename_i x _ l _ v
    cases hcr
    simp only [List.mem_cons, List.not_mem_nil, or_false, forall_eq_or_imp, forall_eq] at hpre
    refine ⟨⟨rfl, rfl, rfl⟩, fun c hc vs => ?_⟩
    repeat' (first | exact Bool.noConfusion ‹(!true) = true› | exact Bool.noConfusion ‹(!false) = false› | (intro h; exact h) | (intro h; rw [h]; rfl) | (intro h1 h2; rw [h1, h2]; rfl) | (intro _; assumption) | (intro _; exact rfl) | (intro h; exact Bool.noConfusion (h.symm.trans ‹_ = false›)) | refine ⟨fun _ => ?_, fun _ => ?_⟩ | refine ⟨?_⟩ | refine ⟨?_, ?_⟩ | fail)
    all_goals first | exact trivial | (refine (?_ : (_ : Int) ≠ _); decide) | exact rfl | skip
    · exact hpre
    · refine chk_b ?_
      rcases idx_spec (fun x => v == x) l with ⟨h1, h2⟩ | ⟨i, hi, h2, h3, h4⟩
      · rw [h1, h2]; rfl
      · rw [h2]
        have : l.any (fun x => v == x) = true := by
          rw [List.any_eq_true]
          refine ⟨l[i], List.getElem_mem hi, ?_⟩
          have e : l.getD i 0 = l[i] := getD_getElem hi
          rw [← e]; exact h4
        rw [this]; simp
  · cases hcr
set_option maxHeartbeats 4000000 in
set_option maxRecDepth 20000 in
theorem okWay (hS : Hyp G) : ConOK Tryz.prog G 76 cWay := by
  refine seat_con hS.seat [(43, cKind), (93, cGen), (94, cAdvL), (95, cEleL), (96, cHorse), (97, cChariot), (98, cCannon), (99, cPawn)] [] ⟨okKind hS, okGen hS, okAdvL hS, okEleL hS, okHorse hS, okChariot hS, okCannon hS, okPawn hS, trivial⟩ Tryz.func76 rfl rfl rfl ?_
  intro rvs cr hcr hpre
  unfold cWay at hcr
  split at hcr
  · rename_i p fr pc
    cases hcr
    simp only [List.mem_cons, List.not_mem_nil, or_false, forall_eq_or_imp, forall_eq] at hpre
    refine ⟨⟨rfl, rfl, rfl⟩, fun c hc vs => ?_⟩
    repeat' (first | exact Bool.noConfusion ‹(!true) = true› | exact Bool.noConfusion ‹(!false) = false› | (intro h; exact h) | (intro h; rw [h]; rfl) | (intro h1 h2; rw [h1, h2]; rfl) | (intro _; assumption) | (intro _; exact rfl) | (intro h; exact Bool.noConfusion (h.symm.trans ‹_ = false›)) | refine ⟨fun _ => ?_, fun _ => ?_⟩ | refine ⟨?_⟩ | refine ⟨?_, ?_⟩ | fail)
    all_goals first | exact trivial | (refine (?_ : (_ : Int) ≠ _); decide) | exact rfl | skip
    all_goals first | exact hpre.s90 ‹_› (by decide) | exact hpre.sq ‹_› (by decide) | skip
    all_goals
      first
        | (show (⟨_, _, _, _⟩ : Row) = ⟨_, _, _, _⟩
           congr 1
           simp only [spWay]
           simp_all
           done)
        | (show spWay p fr pc = []
           simp only [spWay]
           simp_all)
  · cases hcr
set_option maxHeartbeats 4000000 in
set_option maxRecDepth 20000 in
theorem okAll (hS : Hyp G) : ConOK Tryz.prog G 53 cAll := by
  refine seat_con hS.seat [(51, cAt), (76, cWay), (68, cDelL), (1000068, cMark), (78, cSort), (1000078, cMark), (79, cCompact), (1000079, cMark)] [] ⟨okAt hS, okWay hS, okDelL hS, okMark, okSort hS, okMark, okCompact hS, okMark, trivial⟩ Tryz.func53 rfl rfl rfl ?_
  intro rvs cr hcr hpre
  unfold cAll at hcr
  split at hcr
  · rename_i p fr
    cases hcr
    refine ⟨⟨rfl, rfl, rfl⟩, fun c hc vs => ?_⟩
    repeat' (first | exact Bool.noConfusion ‹(!true) = true› | exact Bool.noConfusion ‹(!false) = false› | (intro h; exact h) | (intro h; rw [h]; rfl) | (intro h1 h2; rw [h1, h2]; rfl) | (intro _; assumption) | (intro _; exact rfl) | (intro h; exact Bool.noConfusion (h.symm.trans ‹_ = false›)) | refine ⟨fun _ => ?_, fun _ => ?_⟩ | refine ⟨?_⟩ | refine ⟨?_, ?_⟩ | fail)
    all_goals first | exact trivial | (refine (?_ : (_ : Int) ≠ _); decide) | exact rfl | skip
    · exact way_ok _ _
    · have := way_len' p fr (spAt p fr); unfold LB; omega
    · exact way_ne _ _
    · exact Nat.le_trans (taken_len _ _ _ _) (by decide)
    · unfold LB; rw [sortI_len]; exact Nat.le_trans (taken_len _ _ _ _) (by decide)
  · cases hcr
set_option maxHeartbeats 4000000 in
set_option maxRecDepth 20000 in
theorem okRCan (hS : Hyp G) : ConOK Tryz.prog G 71 cRCan := by
  refine seat_con hS.seat [(53, cAll), (52, cContainsI)] [] ⟨okAll hS, okContainsI hS, trivial⟩ Tryz.func71 rfl rfl rfl ?_
  intro rvs cr hcr hpre
  unfold cRCan at hcr
  split at hcr
  · rename_i p fr to
    cases hcr
    refine ⟨⟨rfl, rfl, rfl⟩, fun c hc vs => ?_⟩
    repeat' (first | exact Bool.noConfusion ‹(!true) = true› | exact Bool.noConfusion ‹(!false) = false› | (intro h; exact h) | (intro h; rw [h]; rfl) | (intro h1 h2; rw [h1, h2]; rfl) | (intro _; assumption) | (intro _; exact rfl) | (intro h; exact Bool.noConfusion (h.symm.trans ‹_ = false›)) | refine ⟨fun _ => ?_, fun _ => ?_⟩ | refine ⟨?_⟩ | refine ⟨?_, ?_⟩ | fail)
    all_goals first | exact trivial | (refine (?_ : (_ : Int) ≠ _); decide) | exact rfl | skip
    exact Nat.le_trans (all_len _ _) (by decide)
  · cases hcr
end
end Go.X

namespace Go.X
open Go Go.Proofs

def cBetween : Con
  | [.a (.s p), .a (.i .i64 a), .a (.i .i64 b)] => some ⟨[], .a (.i .i64 (spBetween p a b)), [], []⟩
  | _ => none
def cIsSide : Con
  | [.a (.i .i64 s)] => some ⟨[], .a (.b (spIsSide s)), [], []⟩
  | _ => none
def cAtt1 : Con
  | [.a (.i .i64 fr), .box _ 0 _ _ [.a (.s p)], .box _ 0 _ _ [.a (.i .i64 n)]] => some ⟨[], .a (.b (!spCan p fr n)), [], []⟩
  | _ => none
def cAttackers : Con
  | [.a (.s p), .a (.i .i64 n), .a (.i .i64 side)] => some ⟨[], .row ⟨3, .int .i64, spAttackers p n side, true⟩, [], []⟩
  | _ => none
def cGeneral : Con
  | [.a (.s p), .a (.i .i64 side)] => some ⟨[], .a (.i .i64 (spGeneral p side)), [], []⟩
  | _ => none
def cFacing : Con
  | [.a (.s p)] => some ⟨[], .a (.b (spFacing p)), [], []⟩
  | _ => none
def cIn : Con
  | [.a (.s p), .a (.i .i64 side)] => some ⟨[], .a (.b (spIn p side)), [], []⟩
  | _ => none
section
variable {G : Nat → World → Prop}
set_option maxHeartbeats 4000000 in
set_option maxRecDepth 20000 in
theorem okIsSide (hS : Hyp G) : ConOK Tryz.prog G 64 cIsSide := by
  refine seat_con hS.seat [] [] trivial Tryz.func64 rfl rfl rfl ?_
  intro rvs cr hcr hpre
  unfold cIsSide at hcr
  split at hcr
  · cases hcr
    refine ⟨⟨rfl, rfl, rfl⟩, fun c hc vs => ?_⟩
    repeat' (first | exact Bool.noConfusion ‹(!true) = true› | exact Bool.noConfusion ‹(!false) = false› | (intro h; exact h) | (intro h; rw [h]; rfl) | (intro h1 h2; rw [h1, h2]; rfl) | (intro _; assumption) | (intro _; exact rfl) | (intro h; exact Bool.noConfusion (h.symm.trans ‹_ = false›)) | refine ⟨fun _ => ?_, fun _ => ?_⟩ | refine ⟨?_⟩ | refine ⟨?_, ?_⟩ | fail)
    all_goals first | exact rfl | (refine chk_i ?_; simp_all [spIsSide]; done) | (refine chk_i ?_; simp only [spIsSide, decide_eq_true_eq, decide_eq_false_iff_not, Bool.not_eq_true', Bool.not_eq_false', Bool.or_eq_true, Bool.or_eq_false_iff, Bool.and_eq_true, Bool.and_eq_false_iff] at *; (repeat' split) <;> first | rfl | omega | (simp_all; done) | (simp_all; omega)) | (refine chk_b ?_; simp_all [spIsSide]; done) | (refine chk_b ?_; simp only [spIsSide, decide_eq_true_eq, decide_eq_false_iff_not, Bool.not_eq_true', Bool.not_eq_false', Bool.or_eq_true, Bool.or_eq_false_iff, Bool.and_eq_true, Bool.and_eq_false_iff] at *; (repeat' split) <;> first | rfl | omega | (simp_all; done) | (simp_all; omega)) | (refine chk_s ?_; simp_all [spIsSide]; done) | (refine chk_s ?_; simp only [spIsSide, decide_eq_true_eq, decide_eq_false_iff_not, Bool.not_eq_true', Bool.not_eq_false', Bool.or_eq_true, Bool.or_eq_false_iff, Bool.and_eq_true, Bool.and_eq_false_iff] at *; (repeat' split) <;> first | rfl | omega | (simp_all; done) | (simp_all; omega)) | (simp_all [spIsSide]; done) | (simp_all [spIsSide]; omega) | skip
  · cases hcr
set_option maxHeartbeats 4000000 in
set_option maxRecDepth 20000 in
theorem okAtt1 (hS : Hyp G) : ConOK Tryz.prog G 70 cAtt1 := by
  refine seat_con hS.seat [(71, cRCan)] [] ⟨okRCan hS, trivial⟩ Tryz.func70 rfl rfl rfl ?_
  intro rvs cr hcr hpre
  unfold cAtt1 at hcr
  split at hcr
  · cases hcr
    refine ⟨⟨rfl, rfl, rfl⟩, fun c hc vs => ?_⟩
    repeat' (first | exact Bool.noConfusion ‹(!true) = true› | exact Bool.noConfusion ‹(!false) = false› | (intro h; exact h) | (intro h; rw [h]; rfl) | (intro h1 h2; rw [h1, h2]; rfl) | (intro _; assumption) | (intro _; exact rfl) | (intro h; exact Bool.noConfusion (h.symm.trans ‹_ = false›)) | refine ⟨fun _ => ?_, fun _ => ?_⟩ | refine ⟨?_⟩ | refine ⟨?_, ?_⟩ | fail)
    all_goals first | exact trivial | (refine (?_ : (_ : Int) ≠ _); decide) | exact rfl | skip
  · cases hcr
def cIdxT : Con
  | [.row _ ⟨3, .int .i64, l, _⟩, .fn 70 [.box _ 0 9 _ [.a (.s p)], .box _ 0 3 _ [.a (.i .i64 n)]]] => some ⟨LB l :: [], .a (.i .i64 (spIdx (fun fr => !spCan p fr n) l)), [], []⟩
  | _ => none
set_option maxHeartbeats 4000000 in
set_option maxRecDepth 20000 in
theorem okIdxT (hS : Hyp G) : ConOK Tryz.prog G 87 cIdxT := by
  refine seat_con hS.seat [(70, cAtt1)] [none] ⟨okAtt1 hS, trivial⟩ Tryz.func87 rfl rfl rfl ?_
  intro rvs cr hcr hpre
  unfold cIdxT at hcr
  split at hcr
  · rename_i x _ l _ _ _ p _ _ n
    cases hcr
    simp only [List.mem_cons, List.not_mem_nil, or_false, forall_eq_or_imp, forall_eq] at hpre
    refine ⟨⟨rfl, rfl, rfl⟩, fun c hc vs => ?_⟩
    repeat' (first | exact Bool.noConfusion ‹(!true) = true› | exact Bool.noConfusion ‹(!false) = false› | (intro h; exact h) | (intro h; rw [h]; rfl) | (intro h1 h2; rw [h1, h2]; rfl) | (intro _; assumption) | (intro _; exact rfl) | (intro h; exact Bool.noConfusion (h.symm.trans ‹_ = false›)) | refine ⟨fun _ => ?_, fun _ => ?_⟩ | refine ⟨?_⟩ | refine ⟨?_, ?_⟩ | fail)
    all_goals first | exact trivial | (refine (?_ : (_ : Int) ≠ _); decide) | exact rfl | skip
    refine Tr_loopH (α := Nat) (fun i => [(8, .i .i64 (.ofNat i))]) (fun _ => []) (fun _ => [])
        (fun i => i ≤ l.length ∧ ∀ x ∈ l.take i, (fun fr => !spCan p fr n) x = false) (fun i => l.length - i) 0 ⟨by omega, by simp⟩ (by (refine ⟨?_, rfl, ?_, ?_, ?_, rfl⟩ <;> repeat' (first | exact trivial | (refine ⟨rfl, ?_⟩) | fail))) ?_
    rintro i ⟨hi, hq⟩
    refine vs.go rfl ?_
    repeat' (first | exact Bool.noConfusion ‹(!true) = true› | exact Bool.noConfusion ‹(!false) = false› | (intro h; exact h) | (intro h; rw [h]; rfl) | (intro h1 h2; rw [h1, h2]; rfl) | (intro _; assumption) | (intro _; exact rfl) | (intro h; exact Bool.noConfusion (h.symm.trans ‹_ = false›)) | refine ⟨fun _ => ?_, fun _ => ?_⟩ | refine ⟨?_⟩ | refine ⟨?_, ?_⟩ | fail)
    all_goals first | exact trivial | (refine (?_ : (_ : Int) ≠ _); decide) | exact rfl | skip
    all_goals first | exact hpre.1 | exact hpre.2 | exact hpre.2.1 | exact hpre.2.2 | exact NE.of' hpre.2 ‹decide _ = true› | skip
    · rename_i h; simpa using h
    · rename_i h hf; simp at h; exact chk_i (idx_some h hq hf).symm
    · rename_i h hf
      simp at h
      refine Again.mk (i + 1) ⟨by omega, take_next h hq hf⟩ (by omega) ?_
      rw [wrapN (by have hll : l.length ≤ 2000000000 := (by first | exact hpre | exact hpre.1); omega)]
      (refine ⟨?_, rfl, ?_, ?_, ?_, rfl⟩ <;> repeat' (first | exact trivial | (refine ⟨rfl, ?_⟩) | fail))
    · rename_i h
      simp at h
      have hi' : i = l.length := by omega
      subst hi'
      exact chk_i (idx_none hq).symm
  · cases hcr
def cDelT : Con
  | [.row id ⟨3, .int .i64, l, true⟩, .fn 70 [.box _ 0 9 _ [.a (.s p)], .box _ 0 3 _ [.a (.i .i64 n)]]] => some ⟨LB l :: [], .row ⟨3, .int .i64, l.filter (fun x => !(fun fr => !spCan p fr n) x), true⟩, [id], []⟩
  | _ => none
set_option maxHeartbeats 4000000 in
set_option maxRecDepth 20000 in
theorem okDelT (hS : Hyp G) : ConOK Tryz.prog G 68 cDelT := by
  refine seat_con hS.seat [(87, cIdxT), (70, cAtt1)] [] ⟨okIdxT hS, okAtt1 hS, trivial⟩ Tryz.func68 rfl rfl rfl ?_
  intro rvs cr hcr hpre
  unfold cDelT at hcr
  split at hcr
  · rename_i id l _ _ p _ _ n
    cases hcr
    simp only [List.mem_cons, List.not_mem_nil, or_false, forall_eq_or_imp, forall_eq] at hpre
    refine ⟨⟨rfl, rfl, by simp [occOk, normL, occL, occ, vwsL, vws]⟩, fun c hc vs => ?_⟩
    simp only [normL, impL, imp, List.contains_cons, beq_self_eq_true, Bool.true_or, Bool.true_and]
    repeat' (first | exact Bool.noConfusion ‹(!true) = true› | exact Bool.noConfusion ‹(!false) = false› | (intro h; exact h) | (intro h; rw [h]; rfl) | (intro h1 h2; rw [h1, h2]; rfl) | (intro _; assumption) | (intro _; exact rfl) | (intro h; exact Bool.noConfusion (h.symm.trans ‹_ = false›)) | refine ⟨fun _ => ?_, fun _ => ?_⟩ | refine ⟨?_⟩ | refine ⟨?_, ?_⟩ | fail)
    all_goals first | exact trivial | (refine (?_ : (_ : Int) ≠ _); decide) | exact rfl | skip
    all_goals first | exact hpre | exact hpre.1 | exact hpre.2 | exact hpre.2.1 | exact hpre.2.2 | skip
    · rename_i h
      rcases idx_spec (fun fr => !spCan p fr n) l with ⟨_, h2⟩ | ⟨i, _, h2, _⟩
      · show (⟨3, .int .i64, l, true⟩ : Row) = ⟨3, .int .i64, _, true⟩
        rw [idx_all h2]
      · rw [h2] at h; simp at h
    · rename_i h
      rcases idx_spec (fun fr => !spCan p fr n) l with ⟨h2, _⟩ | ⟨w, hw, h2, h3, h4⟩
      · rw [h2] at h; simp at h
      · simp only [h2]
        rw [wrapN (by have hll : l.length ≤ 2000000000 := (by first | exact hpre | exact hpre.1); omega)]
        refine Tr_loopH (α := Nat × Nat × List Int) (fun x => [(5, .i .i64 (.ofNat x.1)), (6, .i .i64 (.ofNat x.2.1))]) (fun _ => []) (fun x => [(0, some ⟨3, .int .i64, x.2.2, true⟩)])
          (fun x => DelInv (fun fr => !spCan p fr n) l x.1 x.2.1 x.2.2) (fun x => l.length - x.2.1) (w, w + 1, l) (DelInv.start hw h3 h4) (by (refine ⟨?_, rfl, ?_, ?_, ?_, rfl⟩ <;> repeat' (first | exact trivial | (refine ⟨rfl, ?_⟩) | fail))) ?_
        rintro ⟨i, j, row⟩ hq
        dsimp only at hq ⊢
        refine vs.go rfl ?_
        repeat' (first | exact Bool.noConfusion ‹(!true) = true› | exact Bool.noConfusion ‹(!false) = false› | (intro h; exact h) | (intro h; rw [h]; rfl) | (intro h1 h2; rw [h1, h2]; rfl) | (intro _; assumption) | (intro _; exact rfl) | (intro h; exact Bool.noConfusion (h.symm.trans ‹_ = false›)) | refine ⟨fun _ => ?_, fun _ => ?_⟩ | refine ⟨?_⟩ | refine ⟨?_, ?_⟩ | fail)
        all_goals first | exact trivial | (refine (?_ : (_ : Int) ≠ _); decide) | exact rfl | skip
        all_goals try dsimp only at *
        all_goals first | exact hpre.1 | exact hpre.2 | exact hpre.2.1 | exact hpre.2.2 | exact NE.of hpre.2 hw | skip
        all_goals (have hlt := hq.lt; have hle := hq.le; have hlen := hq.len)
        · rename_i h; simpa using h
        · rename_i h _; simp at h; show (i : Int) < row.length; omega
        · rename_i h hf
          simp at h
          refine Again.mk (i + 1, j + 1, row.set i (row.getD j 0)) (hq.keep (by omega) hf) (by show l.length - (j + 1) < l.length - j; omega) ?_
          rw [wrapN (by have hll : l.length ≤ 2000000000 := (by first | exact hpre | exact hpre.1); omega), wrapN (by have hll : l.length ≤ 2000000000 := (by first | exact hpre | exact hpre.1); omega)]
          (refine ⟨?_, rfl, ?_, ?_, ?_, rfl⟩ <;> repeat' (first | exact trivial | (refine ⟨rfl, ?_⟩) | fail))
        · rename_i h hf
          simp at h
          refine Again.mk (i, j + 1, row) (hq.del (by omega) hf) (by show l.length - (j + 1) < l.length - j; omega) ?_
          rw [wrapN (by have hll : l.length ≤ 2000000000 := (by first | exact hpre | exact hpre.1); omega)]
          (refine ⟨?_, rfl, ?_, ?_, ?_, rfl⟩ <;> repeat' (first | exact trivial | (refine ⟨rfl, ?_⟩) | fail))
        all_goals rename_i h; simp at h
        · show (i : Int) ≤ row.length; omega
        · show i ≤ row.length; omega
        · exact Nat.le_refl _
        all_goals simp only [Int.toNat_natCast, Int.ofNat_eq_natCast, List.length_append, List.length_take, List.length_replicate, List.length_drop, List.take_append, List.take_take]
        · omega
        · omega
        · rw [show i - min i row.length = 0 by omega, show i - (min i row.length + (row.length - i)) = 0 by omega, Nat.min_self, List.take_zero, List.take_zero, List.append_nil, List.append_nil, hq.done (by omega)]
  · cases hcr
set_option maxHeartbeats 4000000 in
set_option maxRecDepth 20000 in
theorem okAttackers (hS : Hyp G) : ConOK Tryz.prog G 46 cAttackers := by
  refine seat_con hS.seat [(64, cIsSide), (19, cFile), (67, cPut), (69, cPieces), (68, cDelT), (1000068, cMark)] [] ⟨okIsSide hS, okFile hS, okPut hS, okPieces hS, okDelT hS, okMark, trivial⟩ Tryz.func46 rfl rfl rfl ?_
  intro rvs cr hcr hpre
  unfold cAttackers at hcr
  split at hcr
  · rename_i p n side
    cases hcr
    refine ⟨⟨rfl, rfl, rfl⟩, fun c hc vs => ?_⟩
    repeat' (first | exact Bool.noConfusion ‹(!true) = true› | exact Bool.noConfusion ‹(!false) = false› | (intro h; exact h) | (intro h; rw [h]; rfl) | (intro h1 h2; rw [h1, h2]; rfl) | (intro _; assumption) | (intro _; exact rfl) | (intro h; exact Bool.noConfusion (h.symm.trans ‹_ = false›)) | refine ⟨fun _ => ?_, fun _ => ?_⟩ | refine ⟨?_⟩ | refine ⟨?_, ?_⟩ | fail)
    all_goals first | exact trivial | (refine (?_ : (_ : Int) ≠ _); decide) | exact rfl | skip
    · rename_i h
      show spAttackers p n side = []
      rw [spAttackers, if_neg]
      simp at h ⊢
      intro h1
      rcases h with h | h
      · rw [h] at h1; cases h1
      · exact h
    all_goals
      rename_i h
      simp only [Bool.or_eq_false_iff, decide_eq_false_iff_not] at h
      have hs := bn h.1
      have hb := side_in hs
    · omega
    · show side < 2; omega
    · exact Nat.le_trans (pieces_len _ _) (by decide)
    · show (⟨_, _, _, _⟩ : Row) = ⟨_, _, _, _⟩
      rw [spAttackers, if_pos (by rw [hs]; simp; omega)]
      simp only [Bool.not_not]
      rfl
  · cases hcr
set_option maxHeartbeats 4000000 in
set_option maxRecDepth 20000 in
theorem okGeneral (hS : Hyp G) : ConOK Tryz.prog G 44 cGeneral := by
  refine seat_con hS.seat [(64, cIsSide), (65, cFind)] [] ⟨okIsSide hS, okFind hS, trivial⟩ Tryz.func44 rfl rfl rfl ?_
  intro rvs cr hcr hpre
  unfold cGeneral at hcr
  split at hcr
  · rename_i p side
    cases hcr
    refine ⟨⟨rfl, rfl, rfl⟩, fun c hc vs => ?_⟩
    repeat' (first | exact Bool.noConfusion ‹(!true) = true› | exact Bool.noConfusion ‹(!false) = false› | (intro h; exact h) | (intro h; rw [h]; rfl) | (intro h1 h2; rw [h1, h2]; rfl) | (intro _; assumption) | (intro _; exact rfl) | (intro h; exact Bool.noConfusion (h.symm.trans ‹_ = false›)) | refine ⟨fun _ => ?_, fun _ => ?_⟩ | refine ⟨?_⟩ | refine ⟨?_, ?_⟩ | fail)
    all_goals first | exact trivial | (refine (?_ : (_ : Int) ≠ _); decide) | exact rfl | skip
    · rename_i h
      exact chk_i (by rw [spGeneral, if_neg (by rw [bt h]; simp)])
    · exact (side_in (bn ‹_›)).1
    · exact (side_in (bn ‹_›)).2
    · rename_i h
      have hs := bn h
      have e : spGeneral p side = (spFind p (kingOf side)).headD (-1) := by rw [spGeneral, if_pos hs]
      refine Tr_loopH (α := Nat) (fun i => [(15, .i .i64 (.ofNat i))]) (fun _ => []) (fun _ => []) (fun i => i = 0) (fun i => 0) 0 rfl (by (refine ⟨?_, rfl, ?_, ?_, ?_, rfl⟩ <;> repeat' (first | exact trivial | (refine ⟨rfl, ?_⟩) | fail))) ?_
      intro i hi
      subst hi
      refine vs.go rfl ?_
      repeat' (first | exact Bool.noConfusion ‹(!true) = true› | exact Bool.noConfusion ‹(!false) = false› | (intro h; exact h) | (intro h; rw [h]; rfl) | (intro h1 h2; rw [h1, h2]; rfl) | (intro _; assumption) | (intro _; exact rfl) | (intro h; exact Bool.noConfusion (h.symm.trans ‹_ = false›)) | refine ⟨fun _ => ?_, fun _ => ?_⟩ | refine ⟨?_⟩ | refine ⟨?_, ?_⟩ | fail)
      all_goals first | exact trivial | (refine (?_ : (_ : Int) ≠ _); decide) | exact rfl | skip
      · rename_i h0; simpa using h0
      · rename_i h0
        refine chk_i ?_
        rw [e]
        show (spFind p (kingOf side)).getD 0 0 = _
        cases hl : spFind p (kingOf side) with
        | nil => change decide (Int.ofNat 0 < ((spFind p (kingOf side)).length : Int)) = true at h0; rw [hl] at h0; simp at h0
        | cons x l => rfl
      · rename_i h0
        refine chk_i ?_
        rw [e]
        cases hl : spFind p (kingOf side) with
        | nil => rfl
        | cons x l => change decide (Int.ofNat 0 < ((spFind p (kingOf side)).length : Int)) = false at h0; rw [hl] at h0; simp at h0
  · cases hcr
set_option maxHeartbeats 4000000 in
set_option maxRecDepth 20000 in
theorem okBetween (hS : Hyp G) : ConOK Tryz.prog G 45 cBetween := by
  refine seat_con hS.seat [(40, cIs), (66, cRIs), (20, cRank), (19, cFile)] [] ⟨okIs hS, okRIs hS, okRank hS, okFile hS, trivial⟩ Tryz.func45 rfl rfl rfl ?_
  intro rvs cr hcr hpre
  unfold cBetween at hcr
  split at hcr
  · rename_i p a b
    cases hcr
    refine ⟨⟨rfl, rfl, rfl⟩, fun c hc vs => ?_⟩
    repeat' (first | exact Bool.noConfusion ‹(!true) = true› | exact Bool.noConfusion ‹(!false) = false› | (intro h; exact h) | (intro h; rw [h]; rfl) | (intro h1 h2; rw [h1, h2]; rfl) | (intro _; assumption) | (intro _; exact rfl) | (intro h; exact Bool.noConfusion (h.symm.trans ‹_ = false›)) | refine ⟨fun _ => ?_, fun _ => ?_⟩ | refine ⟨?_⟩ | refine ⟨?_, ?_⟩ | fail)
    all_goals first | exact trivial | (refine (?_ : (_ : Int) ≠ _); decide) | exact rfl | skip
    · rename_i h; exact chk_i (by rw [spBetween, if_pos h])
    all_goals
      have h := ‹(!spIs p || !spIsSquare a || !spIsSquare b || a == b) = false›
      have h' := h
      simp only [Bool.or_eq_false_iff] at h'
      have ha := isSquare_iff.1 (bn h'.1.1.2)
      have hb := isSquare_iff.1 (bn h'.1.2)
      have h90 := spIs_size (bn h'.1.1.1)
      have hmin : 0 ≤ imin a b ∧ imin a b < 90 := by unfold imin; split <;> omega
      have hmax : 0 ≤ imax a b ∧ imax a b < 90 := by unfold imax; split <;> omega
      have hw1 : IntKind.i64.wrap ((if b < a then b else a) + 1) = imin a b + 1 := wrap64 (x := imin a b + 1) (by omega) (by omega)
      have hw9 : IntKind.i64.wrap ((if b < a then b else a) + 9) = imin a b + 9 := wrap64 (x := imin a b + 9) (by omega) (by omega)
    · have hr := beqT ‹(spRank a == spRank b) = true›
      have e : spBetween p a b = spCnt p a b 1 := by rw [spBetween, if_neg (by rw [h]; simp), if_pos hr]
      rw [hw1]
      refine Tr_loopH (α := Nat × Int × Int) (fun x => [(8, .i .i64 x.2.1), (9, .i .i64 x.2.2)]) (fun _ => []) (fun _ => [])
        (fun x => x.2.1 + cntGo p 1 (imax a b) x.1 x.2.2 = spCnt p a b 1 ∧ 0 ≤ x.2.2 ∧ 0 ≤ x.2.1 ∧ x.2.1 + x.1 ≤ 90 ∧ imax a b ≤ x.2.2 + x.1 ∧ x.2.2 ≤ 200) (fun x => x.1) (90, 0, imin a b + 1) ⟨by show 0 + _ = _; rw [Int.zero_add]; rfl, by show 0 ≤ imin a b + 1; omega, Int.le_refl 0, by show (0 : Int) + 90 ≤ 90; omega, by show imax a b ≤ imin a b + 1 + 90; omega, by show imin a b + 1 ≤ 200; omega⟩ (by (refine ⟨?_, rfl, ?_, ?_, ?_, rfl⟩ <;> repeat' (first | exact trivial | (refine ⟨rfl, ?_⟩) | fail))) ?_
      rintro ⟨k, m, i⟩ ⟨hq, h1, h2, h3, h4, h5⟩
      dsimp only at hq h1 h2 h3 h4 h5 ⊢
      refine vs.go rfl ?_
      repeat' (first | exact Bool.noConfusion ‹(!true) = true› | exact Bool.noConfusion ‹(!false) = false› | (intro h; exact h) | (intro h; rw [h]; rfl) | (intro h1 h2; rw [h1, h2]; rfl) | (intro _; assumption) | (intro _; exact rfl) | (intro h; exact Bool.noConfusion (h.symm.trans ‹_ = false›)) | refine ⟨fun _ => ?_, fun _ => ?_⟩ | refine ⟨?_⟩ | refine ⟨?_, ?_⟩ | fail)
      all_goals first | exact trivial | (refine (?_ : (_ : Int) ≠ _); decide) | exact rfl | skip
      all_goals try dsimp only at *
      · exact h1
      · rename_i h; have h : decide (i < imax a b) = true := h; simp at h; show i < (p.size : Int); omega
      · rename_i h hc
        have h : decide (i < imax a b) = true := h
        simp at h
        obtain ⟨k, rfl⟩ : ∃ k', k = k' + 1 := ⟨k - 1, by omega⟩
        rw [cntGo, if_pos h, if_neg (bneT hc)] at hq
        refine Again.mk (k, m + 1, i + 1) ⟨by dsimp only; omega, by show 0 ≤ i + 1; omega, by dsimp only; omega, by dsimp only; omega, by show imax a b ≤ i + 1 + k; omega, by show i + 1 ≤ 200; omega⟩ (by show k < k + 1; omega) ?_
        dsimp only
        rw [wrap64 (x := m + 1) (by omega) (by omega), wrap64 (x := i + 1) (by omega) (by omega)]
        (refine ⟨?_, rfl, ?_, ?_, ?_, rfl⟩ <;> repeat' (first | exact trivial | (refine ⟨rfl, ?_⟩) | fail))
      · rename_i h hc
        have h : decide (i < imax a b) = true := h
        simp at h
        obtain ⟨k, rfl⟩ : ∃ k', k = k' + 1 := ⟨k - 1, by omega⟩
        rw [cntGo, if_pos h, if_pos (bneF hc)] at hq
        refine Again.mk (k, m, i + 1) ⟨by dsimp only; omega, by show 0 ≤ i + 1; omega, by dsimp only; omega, by dsimp only; omega, by show imax a b ≤ i + 1 + k; omega, by show i + 1 ≤ 200; omega⟩ (by show k < k + 1; omega) ?_
        dsimp only
        rw [wrap64 (x := i + 1) (by omega) (by omega)]
        (refine ⟨?_, rfl, ?_, ?_, ?_, rfl⟩ <;> repeat' (first | exact trivial | (refine ⟨rfl, ?_⟩) | fail))
      · rename_i h
        have h : decide (i < imax a b) = false := h
        simp at h
        refine chk_i ?_
        rw [e, ← hq]
        cases k with
        | zero => rw [cntGo]; omega
        | succ k => rw [cntGo, if_neg (by omega)]; omega
    · have hr := beqF ‹(spRank a == spRank b) = false›
      have hf := beqT ‹(spFile a == spFile b) = true›
      have e : spBetween p a b = spCnt p a b 9 := by rw [spBetween, if_neg (by rw [h]; simp), if_neg hr, if_pos hf]
      rw [hw9]
      refine Tr_loopH (α := Nat × Int × Int) (fun x => [(8, .i .i64 x.2.1), (9, .i .i64 x.2.2)]) (fun _ => []) (fun _ => [])
        (fun x => x.2.1 + cntGo p 9 (imax a b) x.1 x.2.2 = spCnt p a b 9 ∧ 0 ≤ x.2.2 ∧ 0 ≤ x.2.1 ∧ x.2.1 + x.1 ≤ 90 ∧ imax a b ≤ x.2.2 + x.1 ∧ x.2.2 ≤ 200) (fun x => x.1) (90, 0, imin a b + 9) ⟨by show 0 + _ = _; rw [Int.zero_add]; rfl, by show 0 ≤ imin a b + 9; omega, Int.le_refl 0, by show (0 : Int) + 90 ≤ 90; omega, by show imax a b ≤ imin a b + 9 + 90; omega, by show imin a b + 9 ≤ 200; omega⟩ (by (refine ⟨?_, rfl, ?_, ?_, ?_, rfl⟩ <;> repeat' (first | exact trivial | (refine ⟨rfl, ?_⟩) | fail))) ?_
      rintro ⟨k, m, i⟩ ⟨hq, h1, h2, h3, h4, h5⟩
      dsimp only at hq h1 h2 h3 h4 h5 ⊢
      refine vs.go rfl ?_
      repeat' (first | exact Bool.noConfusion ‹(!true) = true› | exact Bool.noConfusion ‹(!false) = false› | (intro h; exact h) | (intro h; rw [h]; rfl) | (intro h1 h2; rw [h1, h2]; rfl) | (intro _; assumption) | (intro _; exact rfl) | (intro h; exact Bool.noConfusion (h.symm.trans ‹_ = false›)) | refine ⟨fun _ => ?_, fun _ => ?_⟩ | refine ⟨?_⟩ | refine ⟨?_, ?_⟩ | fail)
      all_goals first | exact trivial | (refine (?_ : (_ : Int) ≠ _); decide) | exact rfl | skip
      all_goals try dsimp only at *
      · exact h1
      · rename_i h; have h : decide (i < imax a b) = true := h; simp at h; show i < (p.size : Int); omega
      · rename_i h hc
        have h : decide (i < imax a b) = true := h
        simp at h
        obtain ⟨k, rfl⟩ : ∃ k', k = k' + 1 := ⟨k - 1, by omega⟩
        rw [cntGo, if_pos h, if_neg (bneT hc)] at hq
        refine Again.mk (k, m + 1, i + 9) ⟨by dsimp only; omega, by show 0 ≤ i + 9; omega, by dsimp only; omega, by dsimp only; omega, by show imax a b ≤ i + 9 + k; omega, by show i + 9 ≤ 200; omega⟩ (by show k < k + 1; omega) ?_
        dsimp only
        rw [wrap64 (x := m + 1) (by omega) (by omega), wrap64 (x := i + 9) (by omega) (by omega)]
        (refine ⟨?_, rfl, ?_, ?_, ?_, rfl⟩ <;> repeat' (first | exact trivial | (refine ⟨rfl, ?_⟩) | fail))
      · rename_i h hc
        have h : decide (i < imax a b) = true := h
        simp at h
        obtain ⟨k, rfl⟩ : ∃ k', k = k' + 1 := ⟨k - 1, by omega⟩
        rw [cntGo, if_pos h, if_pos (bneF hc)] at hq
        refine Again.mk (k, m, i + 9) ⟨by dsimp only; omega, by show 0 ≤ i + 9; omega, by dsimp only; omega, by dsimp only; omega, by show imax a b ≤ i + 9 + k; omega, by show i + 9 ≤ 200; omega⟩ (by show k < k + 1; omega) ?_
        dsimp only
        rw [wrap64 (x := i + 9) (by omega) (by omega)]
        (refine ⟨?_, rfl, ?_, ?_, ?_, rfl⟩ <;> repeat' (first | exact trivial | (refine ⟨rfl, ?_⟩) | fail))
      · rename_i h
        have h : decide (i < imax a b) = false := h
        simp at h
        refine chk_i ?_
        rw [e, ← hq]
        cases k with
        | zero => rw [cntGo]; omega
        | succ k => rw [cntGo, if_neg (by omega)]; omega
    · have hr := beqF ‹(spRank a == spRank b) = false›
      have hf := beqF ‹(spFile a == spFile b) = false›
      exact chk_i (by rw [spBetween, if_neg (by rw [h]; simp), if_neg hr, if_neg hf])
  · cases hcr
set_option maxHeartbeats 4000000 in
set_option maxRecDepth 20000 in
theorem okFacing (hS : Hyp G) : ConOK Tryz.prog G 31 cFacing := by
  refine seat_con hS.seat [(44, cGeneral), (19, cFile), (45, cBetween)] [] ⟨okGeneral hS, okFile hS, okBetween hS, trivial⟩ Tryz.func31 rfl rfl rfl ?_
  intro rvs cr hcr hpre
  unfold cFacing at hcr
  split at hcr
  · rename_i p
    cases hcr
    refine ⟨⟨rfl, rfl, rfl⟩, fun c hc vs => ?_⟩
    repeat' (first | exact Bool.noConfusion ‹(!true) = true› | exact Bool.noConfusion ‹(!false) = false› | (intro h; exact h) | (intro h; rw [h]; rfl) | (intro h1 h2; rw [h1, h2]; rfl) | (intro _; assumption) | (intro _; exact rfl) | (intro h; exact Bool.noConfusion (h.symm.trans ‹_ = false›)) | refine ⟨fun _ => ?_, fun _ => ?_⟩ | refine ⟨?_⟩ | refine ⟨?_, ?_⟩ | fail)
    all_goals first | exact trivial | (refine (?_ : (_ : Int) ≠ _); decide) | exact rfl | skip
    all_goals rotate_left 100; done
  · cases hcr
set_option maxHeartbeats 4000000 in
set_option maxRecDepth 20000 in
theorem okIn (hS : Hyp G) : ConOK Tryz.prog G 32 cIn := by
  refine seat_con hS.seat [(44, cGeneral), (46, cAttackers)] [] ⟨okGeneral hS, okAttackers hS, trivial⟩ Tryz.func32 rfl rfl rfl ?_
  intro rvs cr hcr hpre
  unfold cIn at hcr
  split at hcr
  · rename_i p side
    cases hcr
    refine ⟨⟨rfl, rfl, rfl⟩, fun c hc vs => ?_⟩
    repeat' (first | exact Bool.noConfusion ‹(!true) = true› | exact Bool.noConfusion ‹(!false) = false› | (intro h; exact h) | (intro h; rw [h]; rfl) | (intro h1 h2; rw [h1, h2]; rfl) | (intro _; assumption) | (intro _; exact rfl) | (intro h; exact Bool.noConfusion (h.symm.trans ‹_ = false›)) | refine ⟨fun _ => ?_, fun _ => ?_⟩ | refine ⟨?_⟩ | refine ⟨?_, ?_⟩ | fail)
    all_goals first | exact trivial | (refine (?_ : (_ : Int) ≠ _); decide) | exact rfl | skip
    · rename_i h
      refine chk_b ?_
      have hs : spIsSide side = true := by
        cases hs : spIsSide side with
        | true => rfl
        | false => rw [spGeneral, hs] at h; simp at h
      have := side_in hs
      rw [wrap64 (x := 1 - side) (by omega) (by omega)]
      simp [spIn]
    · rename_i h
      refine chk_b ?_
      have h : decide (0 ≤ spGeneral p side) = false := h
      rw [spIn, h]; rfl
  · cases hcr
end
end Go.X

namespace Go.X
open Go Go.Proofs

def cPMost : Con
  | [.a (.i .u8 c)] => some ⟨[BY c], .a (.i .i64 (dMost c)), [], []⟩
  | _ => none
def cPCheck : Con
  | [.agg [.a (.s p), .a (.i .i64 side), .a (.i .i64 clock), .a (.i .i64 full)]] => some ⟨[], .a (.i .i64 (rCheck p side clock full)), [], []⟩
  | _ => none
def cPWell : Con
  | [.agg [.a (.s p), .a (.i .i64 side), .a (.i .i64 clock), .a (.i .i64 full)]] => some ⟨[], .a (.i .i64 (rWell p side clock full)), [], []⟩
  | _ => none
section
variable {G : Nat → World → Prop}
set_option maxHeartbeats 4000000 in
set_option maxRecDepth 20000 in
theorem okPMost (hS : Hyp G) : ConOK Tryz.prog G 42 cPMost := by
  refine seat_con hS.seat [(43, cKind)] [] ⟨okKind hS, trivial⟩ Tryz.func42 rfl rfl rfl ?_
  intro rvs cr hcr hpre
  unfold cPMost at hcr
  split at hcr
  · rename_i c0
    cases hcr
    simp only [List.mem_cons, List.not_mem_nil, or_false, forall_eq_or_imp, forall_eq] at hpre
    refine ⟨⟨rfl, rfl, rfl⟩, fun c hc vs => ?_⟩
    repeat' (first | exact Bool.noConfusion ‹(!true) = true› | exact Bool.noConfusion ‹(!false) = false› | (intro h; exact h) | (intro h; rw [h]; rfl) | (intro h1 h2; rw [h1, h2]; rfl) | (intro _; assumption) | (intro _; exact rfl) | (intro h; exact Bool.noConfusion (h.symm.trans ‹_ = false›)) | refine ⟨fun _ => ?_, fun _ => ?_⟩ | refine ⟨?_⟩ | refine ⟨?_, ?_⟩ | fail)
    all_goals first | exact hpre | exact rfl | skip
    · exact chk_i (by rw [dMost, if_pos (beqT ‹_›)])
    · rename_i h1 h2; exact chk_i (by rw [dMost, if_neg (beqF h1), if_pos (beqT h2)])
    · rename_i h1 h2 h3; exact chk_i (by rw [dMost, if_neg (beqF h1), if_neg (beqF h2), if_pos (beqT h3)])
    · rename_i h1 h2 h3; exact chk_i (by rw [dMost, if_neg (beqF h1), if_neg (beqF h2), if_neg (beqF h3)])
  · cases hcr
set_option maxHeartbeats 4000000 in
set_option maxRecDepth 20000 in
theorem okPCheck (hS : Hyp G) : ConOK Tryz.prog G 30 cPCheck := by
  refine seat_con hS.seat [(40, cIs), (41, cMay), (42, cPMost), (43, cKind)] [] ⟨okIs hS, okMay hS, okPMost hS, okKind hS, trivial⟩ Tryz.func30 rfl rfl rfl ?_
  intro rvs cr hcr hpre
  unfold cPCheck at hcr
  split at hcr
  · rename_i p side clock full
    cases hcr
    refine ⟨⟨rfl, rfl, rfl⟩, fun c hc vs => ?_⟩
    repeat' (first | exact Bool.noConfusion ‹(!true) = true› | exact Bool.noConfusion ‹(!false) = false› | (intro h; exact h) | (intro h; rw [h]; rfl) | (intro h1 h2; rw [h1, h2]; rfl) | (intro _; assumption) | (intro _; exact rfl) | (intro h; exact Bool.noConfusion (h.symm.trans ‹_ = false›)) | refine ⟨fun _ => ?_, fun _ => ?_⟩ | refine ⟨?_⟩ | refine ⟨?_, ?_⟩ | fail)
    all_goals first | exact rfl | skip
    · rename_i h; exact chk_i (by rw [rCheck, if_pos (pArg_t h)])
    · rename_i h
      have ha := pArg_f h
      have hp := (rArg_f ha).1
      have hb := bl_bytes hp
      have h90 := spIs_size hp
      refine Tr_loopH (α := Nat) (fun i => [(4, .b (rightTo (bytesL p) i)), (43, .i .i64 (.ofNat i))]) (fun _ => []) (fun i => [(0, some ⟨92, .int .i64, cntT (bytesL p) i, true⟩)]) (fun i => i ≤ 90) (fun i => 90 - i) 0 (Nat.zero_le _) (by ((refine ⟨?_, rfl, ?_, ?_, ?_, rfl⟩ <;> repeat' (first | exact trivial | (refine ⟨rfl, ?_⟩) | (refine ⟨?_, ?_⟩) | fail)); all_goals first | rfl | (simp (config := { failIfUnchanged := false }) only [cntT_zero, rightTo_zero]; done) | (simp [cntT_zero, rightTo_zero]; done) | (simp_all [cntT_zero, rightTo_zero]; done) | skip)) ?_
      intro i hi
      have hby := BY.at p (Int.ofNat i).toNat
      have hcl := cntT_len (bytesL p) i
      refine vs.go rfl ?_
      repeat' (first | exact Bool.noConfusion ‹(!true) = true› | exact Bool.noConfusion ‹(!false) = false› | (intro h; exact h) | (intro h; rw [h]; rfl) | (intro h1 h2; rw [h1, h2]; rfl) | (intro _; assumption) | (intro _; exact rfl) | (intro h; exact Bool.noConfusion (h.symm.trans ‹_ = false›)) | refine ⟨fun _ => ?_, fun _ => ?_⟩ | refine ⟨?_⟩ | refine ⟨?_, ?_⟩ | fail)
      all_goals first | exact trivial | (refine (?_ : (_ : Int) ≠ _); decide) | exact rfl | skip
      all_goals try dsimp only at *
      all_goals first | (rename_i h; have h := lt90 h; show (i : Int) < (p.size : Int); omega) | exact hby.lo | (show byteAt p _ < ((cntT (bytesL p) i).length : Int); rw [hcl]; exact hby.hi) | exact hcl | skip
      · rename_i h1
        have hi90 := lt90 h1
        have hil : i < (bytesL p).length := by rw [hb.len]; exact hi90
        have hbi : (bytesL p).getD i 0 = byteAt p (Int.ofNat i).toNat := bytesL_getD p i
        have hbd := cntT_bd (bytesL p) i hb.len hby
        refine Again.mk (i + 1) (by omega) (by omega) ?_
        rw [cntT_next hil (by rw [hbi]; exact hby), hbi, rightTo_next, bAt_bytes, wrapN (by omega)]
        have hw : IntKind.i64.wrap ((cntT (bytesL p) i).getD (byteAt p (Int.ofNat i).toNat).toNat (EK.int .i64).dflt + 1) = (cntT (bytesL p) i).getD (byteAt p (Int.ofNat i).toNat).toNat 0 + 1 := wrap64 (x := (cntT (bytesL p) i).getD (byteAt p (Int.ofNat i).toNat).toNat 0 + 1) (by omega) (by omega)
        rw [hw]
        (refine ⟨?_, rfl, ?_, ?_, ?_, rfl⟩ <;> repeat' (first | exact trivial | (refine ⟨rfl, ?_⟩) | fail))
      · rename_i h1
        have hi90 : i = 90 := by have := ge90 h1; omega
        subst hi90
        refine Tr_loopH (α := Nat) (fun i => [(69, .i .i64 (.ofNat i))]) (fun _ => []) (fun _ => []) (fun i => i ≤ 14 ∧ ∀ k, k < i → dBadN (bytesL p) (letL.getD k 0) = false) (fun i => 14 - i) 0 ⟨by omega, fun k hk => by omega⟩ (by (refine ⟨?_, rfl, ?_, ?_, ?_, rfl⟩ <;> repeat' (first | exact trivial | (refine ⟨rfl, ?_⟩) | fail))) ?_
        rintro i ⟨hi, hq⟩
        obtain ⟨c1, hc1⟩ : ∃ c1, ([75, 65, 66, 78, 82, 67, 80, 107, 97, 98, 110, 114, 99, 112] : List EK.byte.ty).getD (Int.ofNat i).toNat EK.byte.dflt = c1 := ⟨_, rfl⟩
        have hc2 : c1 = letL.getD i 0 := hc1.symm
        have hlt : decide (Int.ofNat i < ((([75, 65, 66, 78, 82, 67, 80, 107, 97, 98, 110, 114, 99, 112] : List EK.byte.ty).length : Nat) : Int)) = true → i < 14 := fun h => ltN h
        have hge : decide (Int.ofNat i < ((([75, 65, 66, 78, 82, 67, 80, 107, 97, 98, 110, 114, 99, 112] : List EK.byte.ty).length : Nat) : Int)) = false → 14 ≤ i := fun h => geN h
        have hby1 : i < 14 → BY c1 := fun h => by rw [hc2]; exact letL_by i h
        have hcn : i < 14 → (cntT (bytesL p) 90).getD c1.toNat (EK.int .i64).dflt = dCnt (bytesL p) c1 := fun h => cntT_all hb.len (hby1 h)
        refine vs.go rfl ?_
        repeat' (first | exact Bool.noConfusion ‹(!true) = true› | exact Bool.noConfusion ‹(!false) = false› | (intro h; exact h) | (intro h; rw [h]; rfl) | (intro h1 h2; rw [h1, h2]; rfl) | (intro _; assumption) | (intro _; exact rfl) | (intro h; exact Bool.noConfusion (h.symm.trans ‹_ = false›)) | refine ⟨fun _ => ?_, fun _ => ?_⟩ | refine ⟨?_⟩ | refine ⟨?_, ?_⟩ | fail)
        all_goals first | exact trivial | (refine (?_ : (_ : Int) ≠ _); decide) | exact rfl | skip
        all_goals try dsimp only at *
        all_goals simp only [hc1] at *
        all_goals first | (rename_i h; exact Int.ofNat_lt.2 (hlt h)) | (rename_i h; exact (hby1 (hlt h)).lo) | (rename_i h; exact hby1 (hlt h)) | (rename_i h; show c1 < (((cntT (bytesL p) 90).length : Nat) : Int); rw [hcl]; exact (hby1 (hlt h)).hi) | (rename_i h; intro _; exact ⟨(hby1 (hlt h)).lo, by show c1 < (((cntT (bytesL p) 90).length : Nat) : Int); rw [hcl]; exact (hby1 (hlt h)).hi, hcl⟩) | skip
        · rename_i h3 h4
          rw [hcn (hlt h3)] at h4
          exact chk_i (by rw [rCheck, if_neg (by simp [ha]), dCheck, if_pos (any_t (d := 0) (hlt h3) (by rw [← hc2]; exact h4))])
        · rename_i h3 h4
          rw [hcn (hlt h3)] at h4
          have := hlt h3
          refine Again.mk (i + 1) ⟨by omega, till hq (by rw [← hc2]; exact h4)⟩ (by omega) ?_
          rw [wrapN (by omega)]
          (refine ⟨?_, rfl, ?_, ?_, ?_, rfl⟩ <;> repeat' (first | exact trivial | (refine ⟨rfl, ?_⟩) | fail))
        · rename_i h3 h4
          have := hge h3
          have hN : letL.any (dBadN (bytesL p)) = false := any_f (d := 0) fun k hk => hq k (by have : letL.length = 14 := rfl; omega)
          rw [rightTo_all, Bool.not_not] at h4
          exact chk_i (by rw [rCheck, if_neg (by simp [ha]), dCheck, if_neg (by rw [hN]; exact Bool.noConfusion), if_pos h4])
        · rename_i h3 h4
          have := hge h3
          have hN : letL.any (dBadN (bytesL p)) = false := any_f (d := 0) fun k hk => hq k (by have : letL.length = 14 := rfl; omega)
          rw [rightTo_all, Bool.not_not] at h4
          exact chk_i (by rw [rCheck, if_neg (by simp [ha]), dCheck, if_neg (by rw [hN]; exact Bool.noConfusion), if_neg (by rw [h4]; exact Bool.noConfusion)])
  · cases hcr
set_option maxHeartbeats 4000000 in
set_option maxRecDepth 20000 in
theorem okPWell (hS : Hyp G) : ConOK Tryz.prog G 22 cPWell := by
  refine seat_con hS.seat [(30, cPCheck), (31, cFacing), (32, cIn)] [] ⟨okPCheck hS, okFacing hS, okIn hS, trivial⟩ Tryz.func22 rfl rfl rfl ?_
  intro rvs cr hcr hpre
  unfold cPWell at hcr
  split at hcr
  · rename_i p side clock full
    cases hcr
    refine ⟨⟨rfl, rfl, rfl⟩, fun c hc vs => ?_⟩
    repeat' (first | exact Bool.noConfusion ‹(!true) = true› | exact Bool.noConfusion ‹(!false) = false› | (intro h; exact h) | (intro h; rw [h]; rfl) | (intro h1 h2; rw [h1, h2]; rfl) | (intro _; assumption) | (intro _; exact rfl) | (intro h; exact Bool.noConfusion (h.symm.trans ‹_ = false›)) | refine ⟨fun _ => ?_, fun _ => ?_⟩ | refine ⟨?_⟩ | refine ⟨?_, ?_⟩ | fail)
    all_goals first | exact rfl | skip
    · rename_i h; exact chk_i (by rw [rWell, if_pos (bneT h)])
    · rename_i h h1; exact chk_i (by rw [rWell, if_neg (by simpa using bneF h), if_pos h1])
    · rename_i h h1 h2; rw [rWell_wrap (bneF h)] at h2; exact chk_i (by rw [rWell, if_neg (by simpa using bneF h), if_neg (by simp [h1]), if_pos h2])
    · rename_i h h1 h2; rw [rWell_wrap (bneF h)] at h2; exact chk_i (by rw [rWell, if_neg (by simpa using bneF h), if_neg (by simp [h1]), if_neg (by simp [h2])])
  · cases hcr
end
end Go.X

namespace Go.X
open Go Go.Proofs

def posT (e : Int) (p : ByteArray) (side clock full fr to : Int) : RT :=
  .agg [.a (.s (if e = 0 then spMoved p fr to else ByteArray.empty)), .a (.i .i64 (if e = 0 then 1 - side else 0)), .a (.i .i64 (if e = 0 then nClock (bytesL p) clock to else 0)), .a (.i .i64 (if e = 0 then nFull side full else 0))]
def cApply : Con
  | [.agg [.a (.s p), .a (.i .i64 side), .a (.i .i64 clock), .a (.i .i64 full)], .agg [.a (.i .i64 fr), .a (.i .i64 to)]] =>
    some ⟨[], .tup [posT (rAppE p side clock full fr to) p side clock full fr to, .a (.i .u8 (if rAppE p side clock full fr to = 0 then nTaken (bytesL p) to else 0)), .a (.i .i64 (rAppE p side clock full fr to))], [], []⟩
  | _ => none
def cLSafe : Con
  | [.agg [.a (.s p), .a (.i .i64 side), .a (.i .i64 clock), .a (.i .i64 full)], .agg [.a (.i .i64 fr), .a (.i .i64 to)]] => some ⟨[WL p side clock full], .a (.b (spGCan p side fr to)), [], []⟩
  | _ => none
def cMake : Con
  | [.agg [.a (.s p), .a (.i .i64 side), .a (.i .i64 clock), .a (.i .i64 full)], .agg [.a (.i .i64 fr), .a (.i .i64 to)]] =>
    some ⟨[], .tup [posT (rMakeE p side clock full fr to) p side clock full fr to, .a (.i .u8 (if rMakeE p side clock full fr to = 0 then nTaken (bytesL p) to else 0)), .a (.i .i64 (rMakeE p side clock full fr to))], [], []⟩
  | _ => none
section
variable {G : Nat → World → Prop}
set_option maxHeartbeats 4000000 in
set_option maxRecDepth 20000 in
theorem okApply (hS : Hyp G) : ConOK Tryz.prog G 35 cApply := by
  refine seat_con hS.seat [(30, cPCheck), (51, cAt), (50, cSide), (43, cKind), (53, cAll), (52, cContainsI)] [] ⟨okPCheck hS, okAt hS, okSide hS, okKind hS, okAll hS, okContainsI hS, trivial⟩ Tryz.func35 rfl rfl rfl ?_
  intro rvs cr hcr hpre
  unfold cApply at hcr
  split at hcr
  · rename_i p side clock full fr to
    cases hcr
    refine ⟨⟨rfl, rfl, rfl⟩, fun c hc vs => ?_⟩
    repeat' (first | exact Bool.noConfusion ‹(!true) = true› | exact Bool.noConfusion ‹(!false) = false› | (intro h; exact h) | (intro h; rw [h]; rfl) | (intro h1 h2; rw [h1, h2]; rfl) | (intro _; assumption) | (intro _; exact rfl) | (intro h; exact Bool.noConfusion (h.symm.trans ‹_ = false›)) | refine ⟨fun _ => ?_, fun _ => ?_⟩ | refine ⟨?_⟩ | refine ⟨?_, ?_⟩ | fail)
    all_goals first | exact rfl | exact trivial | (have he := app_1 (fr := fr) (to := to) ‹(rCheck p side clock full != 0) = true›; first | exact chk_s (if_neg he.2).symm | exact chk_i (if_neg he.2).symm | exact chk_i he.1) | (intro _; exact LB_all p fr) | (intro hh; have hx := ‹(!(_ || spKind (spAt p to) == 75)) = false›; rw [hh] at hx; exact Bool.noConfusion hx) | (have he := apply_2 (fr := fr) (to := to) ‹(rCheck p side clock full != 0) = false› (by first | exact or_l ‹(!(_ || spKind (spAt p to) == 75)) = false› | exact ‹(_ || !((spAll p fr).any fun x => to == x)) = true›); first | exact chk_s (if_neg he.2).symm | exact chk_i (if_neg he.2).symm | exact chk_i he.1) | skip
    all_goals
      have ho := apply_0 (fr := fr) (to := to) ‹(rCheck p side clock full != 0) = false› ‹(_ || !((spAll p fr).any fun x => to == x)) = false›
      have he := ho.e
      have h90 := spIs_size ho.pos.is
      have hbl : ((bytesL p).length : Int) = 90 := by rw [bytesL_len, h90]; rfl
      have q1 := ho.sf.lo; have q2 := ho.sf.hi; have q3 := ho.st.lo; have q4 := ho.st.hi
    all_goals first | exact q1 | exact q3 | omega | (show fr < ((bytesL p).length : Int); omega) | (show to < ((bytesL p).length : Int); omega) | (show fr < (((bytesL p).set _ _).length : Int); rw [List.length_set]; omega) | skip
    all_goals first
      | exact chk_s ((moved_eq ho.pos.is ho.sf ho.st).trans (if_pos he).symm)
      | exact chk_i he.symm
      | exact chk_i (ho.pos.sd.wrap.trans (if_pos he).symm)
      | exact chk_i ((nC_t ho.at' ‹(spAt p to == 46) = true› ho.pos.cl).symm.trans (if_pos he).symm)
      | exact chk_i ((nC_f ho.at' ‹(spAt p to == 46) = false›).symm.trans (if_pos he).symm)
      | exact chk_i ((nFull_t ‹(side == 1) = true› ho.pos.fl).symm.trans (if_pos he).symm)
      | exact chk_i ((nFull_f ‹(side == 1) = false›).symm.trans (if_pos he).symm)
      | exact chk_i ((nT_t ho.at' ‹(spAt p to == 46) = true›).symm.trans (if_pos he).symm)
      | exact chk_i ((nT_f ho.at' ‹(spAt p to == 46) = false›).symm.trans (if_pos he).symm)
      | skip
  · cases hcr
set_option maxHeartbeats 4000000 in
set_option maxRecDepth 20000 in
theorem okLSafe (hS : Hyp G) : ConOK Tryz.prog G 34 cLSafe := by
  refine seat_con hS.seat [(35, cApply), (22, cPWell)] [] ⟨okApply hS, okPWell hS, trivial⟩ Tryz.func34 rfl rfl rfl ?_
  intro rvs cr hcr hpre
  unfold cLSafe at hcr
  split at hcr
  · rename_i p side clock full fr to
    cases hcr
    simp only [List.mem_cons, List.not_mem_nil, or_false, forall_eq_or_imp, forall_eq] at hpre
    refine ⟨⟨rfl, rfl, rfl⟩, fun c hc vs => ?_⟩
    repeat' (first | exact Bool.noConfusion ‹(!true) = true› | exact Bool.noConfusion ‹(!false) = false› | (intro h; exact h) | (intro h; rw [h]; rfl) | (intro h1 h2; rw [h1, h2]; rfl) | (intro _; assumption) | (intro _; exact rfl) | (intro h; exact Bool.noConfusion (h.symm.trans ‹_ = false›)) | refine ⟨fun _ => ?_, fun _ => ?_⟩ | refine ⟨?_⟩ | refine ⟨?_, ?_⟩ | fail)
    all_goals first | exact rfl | skip
    exact chk_b (lsafe_form hpre.is)
  · cases hcr
set_option maxHeartbeats 4000000 in
set_option maxRecDepth 20000 in
theorem okMake (hS : Hyp G) : ConOK Tryz.prog G 24 cMake := by
  refine seat_con hS.seat [(22, cPWell), (34, cLSafe), (35, cApply)] [] ⟨okPWell hS, okLSafe hS, okApply hS, trivial⟩ Tryz.func24 rfl rfl rfl ?_
  intro rvs cr hcr hpre
  unfold cMake at hcr
  split at hcr
  · rename_i p side clock full fr to
    cases hcr
    refine ⟨⟨rfl, rfl, rfl⟩, fun c hc vs => ?_⟩
    repeat' (first | exact Bool.noConfusion ‹(!true) = true› | exact Bool.noConfusion ‹(!false) = false› | (intro h; exact h) | (intro h; rw [h]; rfl) | (intro h1 h2; rw [h1, h2]; rfl) | (intro _; assumption) | (intro _; exact rfl) | (intro h; exact Bool.noConfusion (h.symm.trans ‹_ = false›)) | refine ⟨fun _ => ?_, fun _ => ?_⟩ | refine ⟨?_⟩ | refine ⟨?_, ?_⟩ | fail)
    all_goals first | exact rfl | exact trivial | exact ⟨bneF ‹(rWell p side clock full != 0) = false›, trivial, trivial⟩ | (have he := make_1 (fr := fr) (to := to) ‹(rWell p side clock full != 0) = true›; first | exact chk_s (if_neg he.2).symm | exact chk_i (if_neg he.2).symm | exact chk_i he.1) | (have he := make_p2 ‹(rWell p side clock full != 0) = false› ‹(!spGCan p side fr to) = true›; first | exact chk_s (if_neg he.2).symm | exact chk_i (if_neg he.2).symm | exact chk_i he.1) | (have he := make_p0 ‹(rWell p side clock full != 0) = false› ‹(!spGCan p side fr to) = false›; first | exact chk_s ((if_pos he.2).trans (if_pos he.1).symm) | exact chk_i ((if_pos he.2).trans (if_pos he.1).symm) | exact chk_i (he.2.trans he.1.symm)) | skip
  · cases hcr
end
end Go.X

namespace Go.X
open Go

def cutB : List UInt8 → List (List UInt8)
  | [] => [[]]
  | x :: l => if x = 32 then [] :: cutB l else match cutB l with
    | [] => [[x]]
    | h :: t => (x :: h) :: t
theorem cutB_ne (l : List UInt8) : cutB l ≠ [] := by
  cases l with
  | nil => simp [cutB]
  | cons x l =>
    unfold cutB
    split
    · simp
    · split <;> simp
theorem cutB_none : ∀ {l : List UInt8}, (∀ x ∈ l, x ≠ 32) → cutB l = [l] := by
  intro l
  induction l with
  | nil => intro _; rfl
  | cons x l ih =>
    intro h
    unfold cutB
    rw [if_neg (h x (by simp)), ih fun y hy => h y (by simp [hy])]
theorem cutB_t (l : List UInt8) : cutB (32 :: l) = [] :: cutB l := by unfold cutB; rw [if_pos rfl]; cases l <;> rfl
theorem cutB_f {x : UInt8} (h : x ≠ 32) {l a : List UInt8} {t : List (List UInt8)} (e : cutB l = a :: t) : cutB (x :: l) = (x :: a) :: t := by
  rw [cutB, if_neg h, e]
theorem cutB_app (l m : List UInt8) : cutB (l ++ 32 :: m) = cutB l ++ cutB m := by
  induction l with
  | nil => rw [List.nil_append, cutB_t]; rfl
  | cons x l ih =>
    rw [List.cons_append]
    by_cases hx : x = 32
    · subst hx; rw [cutB_t, cutB_t, ih]; rfl
    · cases h : cutB l with
      | nil => exact absurd h (cutB_ne l)
      | cons a t => rw [cutB_f hx h, cutB_f hx (a := a) (t := t ++ cutB m) (by rw [ih, h]; rfl)]; rfl
theorem index_cut : ∀ (l : List UInt8), (Lib.indexByte l 32 < 0 ∧ cutB l = [l]) ∨ ∃ k : Nat, k < l.length ∧ Lib.indexByte l 32 = (k : Int) ∧ cutB l = l.take k :: cutB (l.drop (k + 1)) := by
  intro l
  induction l with
  | nil => exact .inl ⟨by decide, rfl⟩
  | cons x l ih =>
    by_cases hx : x = 32
    · subst hx
      exact .inr ⟨0, by simp, by simp [Lib.indexByte], by rw [cutB_t]; rfl⟩
    · have hx' : (x == 32) = false := by simpa using hx
      rw [Lib.indexByte, if_neg (by rw [hx']; exact Bool.noConfusion)]
      rcases ih with ⟨h1, h2⟩ | ⟨k, h1, h2, h3⟩
      · have := Lib.indexByte_ge l 32
        have e : Lib.indexByte l 32 = -1 := by omega
        rw [e, cutB_f hx h2]
        exact .inl ⟨by decide, rfl⟩
      · refine .inr ⟨k + 1, by simpa using h1, ?_, ?_⟩
        · rw [h2, if_neg (by simp)]; omega
        · rw [cutB_f hx h3]; rfl
def toks (s : ByteArray) : List ByteArray := (cutB s.data.toList).map fun l => ⟨l.toArray⟩
theorem toks_cut (s : ByteArray) : (spIdxB s.data.toList 32 < 0 ∧ toks s = [s]) ∨ (0 ≤ spIdxB s.data.toList 32 ∧ spIdxB s.data.toList 32 < s.size ∧ toks s = s.extract 0 (spIdxB s.data.toList 32).toNat :: toks (s.extract (spIdxB s.data.toList 32 + 1).toNat s.size)) := by
  have e : spIdxB s.data.toList 32 = Lib.indexByte s.data.toList 32 := rfl
  rw [e]
  have hs : s.data.toList.length = s.size := rfl
  unfold toks
  rcases index_cut s.data.toList with ⟨h1, h2⟩ | ⟨k, h1, h2, h3⟩
  · refine .inl ⟨h1, ?_⟩
    rw [h2]
    simp
  · refine .inr ⟨by omega, by omega, ?_⟩
    rw [h3, h2, List.map_cons]
    have e1 : ((k : Int)).toNat = k := by omega
    have e2 : ((k : Int) + 1).toNat = k + 1 := by omega
    rw [e1, e2]
    congr 1
    · apply ByteArray.ext
      apply Array.toList_inj.1
      rw [ByteArray.data_extract, Array.toList_extract, List.extract_eq_take_drop]
      simp
    · rw [ByteArray.data_extract, Array.toList_extract, List.extract_eq_take_drop, List.take_of_length_le (by rw [List.length_drop]; omega)]

abbrev P4 := ByteArray × Int × Int × Int
def zeroP : P4 := (ByteArray.empty, 0, 0, 0)
def nextP (q : P4) (fr to : Int) : P4 := (spMoved q.1 fr to, 1 - q.2.1, nClock (bytesL q.1) q.2.2.1 to, nFull q.2.1 q.2.2.2)
def mkE (q : P4) (t : ByteArray) : Int := rMakeE q.1 q.2.1 q.2.2.1 q.2.2.2 (iFr t) (iTo t)
def tokE (q : P4) (n : Nat) (t : ByteArray) : Int := if iErr t = 0 then if n = 1024 then 8 else mkE q t else iErr t
def lineGo : P4 → List (Int × Int) → List ByteArray → List (Int × Int) × P4 × Int
  | q, ms, [] => (ms, q, 0)
  | q, ms, t :: ts => if tokE q ms.length t = 0 then lineGo (nextP q (iFr t) (iTo t)) (ms ++ [(iFr t, iTo t)]) ts else ([], zeroP, tokE q ms.length t)
def spLine (q : P4) (s : ByteArray) : List (Int × Int) × P4 × Int :=
  if rWell q.1 q.2.1 q.2.2.1 q.2.2.2 = 0 then if s.size = 0 then ([], q, 0) else lineGo q [] (toks s) else ([], zeroP, rWell q.1 q.2.1 q.2.2.1 q.2.2.2)
theorem lineGo_no {q : P4} {ms : List (Int × Int)} {t : ByteArray} {ts : List ByteArray} (h : tokE q ms.length t ≠ 0) : lineGo q ms (t :: ts) = ([], zeroP, tokE q ms.length t) := by
  unfold lineGo; rw [if_neg h]
theorem lineGo_yes {q : P4} {ms : List (Int × Int)} {t : ByteArray} {ts : List ByteArray} (h : tokE q ms.length t = 0) : lineGo q ms (t :: ts) = lineGo (nextP q (iFr t) (iTo t)) (ms ++ [(iFr t, iTo t)]) ts := by
  conv => lhs; unfold lineGo
  rw [if_pos h]
theorem lineGo_app : ∀ (ts us : List ByteArray) (q : P4) (ms : List (Int × Int)), lineGo q ms (ts ++ us) = if (lineGo q ms ts).2.2 = 0 then lineGo (lineGo q ms ts).2.1 (lineGo q ms ts).1 us else lineGo q ms ts := by
  intro ts
  induction ts with
  | nil => intro us q ms; simp [lineGo]
  | cons t ts ih =>
    intro us q ms
    rw [List.cons_append]
    by_cases h : tokE q ms.length t = 0
    · rw [lineGo_yes h, lineGo_yes h, ih]
    · rw [lineGo_no h, lineGo_no h, if_neg h]
end Go.X

namespace Go.X
open Go Go.Proofs

structure TZ (s : ByteArray) : Prop where
  le : s.size ≤ 1000000
  u : True
  v : True
def cILine : Con
  | [.agg [.a (.s p), .a (.i .i64 side), .a (.i .i64 clock), .a (.i .i64 full)], .a (.s s)] =>
    some ⟨[TZ s], .tup [.row ⟨23, .pair (.int .i64) (.int .i64), (spLine (p, side, clock, full) s).1, true⟩, .agg [.a (.s (spLine (p, side, clock, full) s).2.1.1), .a (.i .i64 (spLine (p, side, clock, full) s).2.1.2.1), .a (.i .i64 (spLine (p, side, clock, full) s).2.1.2.2.1), .a (.i .i64 (spLine (p, side, clock, full) s).2.1.2.2.2)], .a (.i .i64 (spLine (p, side, clock, full) s).2.2)], [], []⟩
  | _ => none
theorem line_bad {p s : ByteArray} {side clock full : Int} (h : (rWell p side clock full != 0) = true) : spLine (p, side, clock, full) s = ([], zeroP, rWell p side clock full) := by
  unfold spLine; rw [if_neg (bneT h)]
theorem line_emp {p s : ByteArray} {side clock full : Int} (h : (rWell p side clock full != 0) = false) (h2 : strEq s ⟨#[]⟩ = true) : spLine (p, side, clock, full) s = ([], (p, side, clock, full), 0) := by
  unfold spLine; rw [if_pos (bneF h), strEq_eq h2]; rfl
theorem line_beg {p s : ByteArray} {side clock full : Int} (h : (rWell p side clock full != 0) = false) (h2 : strEq s ⟨#[]⟩ = false) : spLine (p, side, clock, full) s = lineGo (p, side, clock, full) [] (toks s) := by
  unfold spLine
  rw [if_pos (bneF h), if_neg]
  intro e
  have : s = ⟨#[]⟩ := ByteArray.ext (Array.eq_empty_of_size_eq_zero e)
  rw [this] at h2
  unfold strEq at h2
  simp at h2
theorem tok_full {q : P4} {n : Nat} {t : ByteArray} (h : (iErr t == 0 && (n : Int) == 1024) = true) : tokE q n t = 8 := by
  simp only [Bool.and_eq_true, beq_iff_eq] at h
  unfold tokE; rw [if_pos h.1, if_pos (by omega)]
theorem tok_make {q : P4} {n : Nat} {t : ByteArray} (h : (iErr t == 0 && (n : Int) == 1024) = false) (h2 : (iErr t == 0) = true) : tokE q n t = rMakeE q.1 q.2.1 q.2.2.1 q.2.2.2 (iFr t) (iTo t) := by
  rw [h2, Bool.true_and] at h
  have h := beqF h
  unfold tokE mkE; rw [if_pos (beqT h2), if_neg (by omega)]
theorem tok_err {q : P4} {n : Nat} {t : ByteArray} (h : (iErr t == 0) = false) : tokE q n t = iErr t := by
  unfold tokE; rw [if_neg (beqF h)]
section
variable {G : Nat → World → Prop}
set_option maxHeartbeats 4000000 in
set_option maxRecDepth 20000 in
theorem okILine (hS : Hyp G) : ConOK Tryz.prog G 13 cILine := by
  refine seat_con hS.seat [(22, cPWell), (23, cSplitSeq), (9, cIParse), (24, cMake), (49, cSIndex)] [] ⟨okPWell hS, okSplitSeq hS, okIParse hS, okMake hS, okSIndex hS, trivial⟩ Tryz.func13 rfl rfl rfl ?_
  intro rvs cr hcr hpre
  unfold cILine at hcr
  split at hcr
  · rename_i p side clock full s
    cases hcr
    simp only [List.mem_cons, List.not_mem_nil, or_false, forall_eq_or_imp, forall_eq] at hpre
    have hsz := hpre.le
    obtain ⟨⟨l0, ⟨p0, s0, k0, f0⟩, e0⟩, hL⟩ : ∃ L, spLine (p, side, clock, full) s = L := ⟨_, rfl⟩
    simp only [hL]
    refine ⟨by simp [occOk, normL, occL, occ, vwsL, vws, RT.own, RT.ownL], fun c hc vs => ?_⟩
    repeat' (first | exact Bool.noConfusion ‹(!true) = true› | exact Bool.noConfusion ‹(!false) = false› | (intro h; exact h) | (intro h; rw [h]; rfl) | (intro h1 h2; rw [h1, h2]; rfl) | (intro _; assumption) | (intro _; exact rfl) | (intro h; exact Bool.noConfusion (h.symm.trans ‹_ = false›)) | refine ⟨fun _ => ?_, fun _ => ?_⟩ | refine ⟨?_⟩ | refine ⟨?_, ?_⟩ | fail)
    all_goals first | exact rfl | exact trivial | skip
    all_goals first
      | (have hx := (line_bad (s := s) ‹(rWell p side clock full != 0) = true›).symm.trans hL
         simp only [Prod.mk.injEq, zeroP] at hx
         obtain ⟨rfl, ⟨rfl, rfl, rfl, rfl⟩, rfl⟩ := hx
         exact rfl)
      | (have hx := (line_emp ‹(rWell p side clock full != 0) = false› ‹strEq s ⟨#[]⟩ = true›).symm.trans hL
         simp only [Prod.mk.injEq] at hx
         obtain ⟨rfl, ⟨rfl, rfl, rfl, rfl⟩, rfl⟩ := hx
         exact rfl)
      | skip
    have hB := (line_beg ‹(rWell p side clock full != 0) = false› ‹strEq s ⟨#[]⟩ = false›).symm.trans hL
    refine Tr_nilBox 23 (.pair (.int .i64) (.int .i64)) 4 0 rfl rfl (by decide) ?_
    refine tr_range hc rfl Tryz.func47 rfl rfl rfl (fun c2 hk2 hr2 hI => ?_)
    refine (vs.kin hk2).go rfl ?_
    repeat' (first | exact Bool.noConfusion ‹(!true) = true› | exact Bool.noConfusion ‹(!false) = false› | (intro h; exact h) | (intro h; rw [h]; rfl) | (intro h1 h2; rw [h1, h2]; rfl) | (intro _; assumption) | (intro _; exact rfl) | (intro h; exact Bool.noConfusion (h.symm.trans ‹_ = false›)) | refine ⟨fun _ => ?_, fun _ => ?_⟩ | refine ⟨?_⟩ | refine ⟨?_, ?_⟩ | fail)
    refine Tr_loopH (α := P4 × List (Int × Int) × ByteArray) (fun _ => []) (fun x => [(0, some ⟨32, [.s x.1.1, .i .i64 x.1.2.1, .i .i64 x.1.2.2.1, .i .i64 x.1.2.2.2], true⟩), (4, some ⟨33, [.row 0], true⟩), (6, some ⟨9, [.s x.2.2], true⟩)])
      (fun x => [(0, some ⟨23, .pair (.int .i64) (.int .i64), x.2.1, true⟩)]) (fun x => lineGo x.1 x.2.1 (toks x.2.2) = (l0, (p0, s0, k0, f0), e0) ∧ x.2.1.length ≤ 1024 ∧ x.2.2.size ≤ 1000000) (fun x => x.2.2.size) ((p, side, clock, full), [], s) ⟨hB, Nat.zero_le _, hsz⟩ (by (refine ⟨?_, rfl, ?_, ?_, ?_, rfl⟩ <;> repeat' (first | exact trivial | (refine ⟨rfl, ?_⟩) | fail))) ?_
    rintro x ⟨hgo, hms, hrz⟩
    obtain ⟨k, hk⟩ : ∃ k, spIdxB x.2.2.data.toList 32 = k := ⟨_, rfl⟩
    have e32 : byteAt ⟨#[32]⟩ 0 = 32 := rfl
    have hcut := toks_cut x.2.2
    rw [hk] at hcut
    refine (vs.kin hk2).go rfl ?_
    repeat' (first | exact Bool.noConfusion ‹(!true) = true› | exact Bool.noConfusion ‹(!false) = false› | (intro h; exact h) | (intro h; rw [h]; rfl) | (intro h1 h2; rw [h1, h2]; rfl) | (intro _; assumption) | (intro _; exact rfl) | (intro h; exact Bool.noConfusion (h.symm.trans ‹_ = false›)) | refine ⟨fun _ => ?_, fun _ => ?_⟩ | refine ⟨?_⟩ | refine ⟨?_, ?_⟩ | fail)
    all_goals first | exact trivial | (refine (?_ : (_ : Int) ≠ _); decide) | exact rfl | skip
    all_goals simp only [e32, hk] at *
    · exact ⟨rfl, trivial, trivial⟩
    · refine trOps_none rfl (yield_one false hI rfl rfl rfl rfl ?_)
      intro c3 hk3
      refine ((vs.kin hk2).kin hk3).go rfl ?_
      repeat' (first | exact Bool.noConfusion ‹(!true) = true› | exact Bool.noConfusion ‹(!false) = false› | (intro h; exact h) | (intro h; rw [h]; rfl) | (intro h1 h2; rw [h1, h2]; rfl) | (intro _; assumption) | (intro _; exact rfl) | (intro h; exact Bool.noConfusion (h.symm.trans ‹_ = false›)) | refine ⟨fun _ => ?_, fun _ => ?_⟩ | refine ⟨?_⟩ | refine ⟨?_, ?_⟩ | fail)
      refine ((vs.kin hk2).kin hk3).go rfl ?_
      repeat' (first | exact Bool.noConfusion ‹(!true) = true› | exact Bool.noConfusion ‹(!false) = false› | (intro h; exact h) | (intro h; rw [h]; rfl) | (intro h1 h2; rw [h1, h2]; rfl) | (intro _; assumption) | (intro _; exact rfl) | (intro h; exact Bool.noConfusion (h.symm.trans ‹_ = false›)) | refine ⟨fun _ => ?_, fun _ => ?_⟩ | refine ⟨?_⟩ | refine ⟨?_, ?_⟩ | fail)
      all_goals first | exact trivial | (refine (?_ : (_ : Int) ≠ _); decide) | exact rfl | skip
      all_goals
        have hC : lineGo x.1 x.2.1 [x.2.2] = (l0, (p0, s0, k0, f0), e0) := by
          rcases hcut with ⟨_, h2⟩ | ⟨h1, _⟩
          · rw [← h2]; exact hgo
          · exact absurd h1 (by have := of_decide_eq_true ‹decide (k < 0) = true›; omega)
      · have h1 := tok_full (q := x.1) ‹(_ && _) = true›
        have hx := hC.symm.trans (lineGo_no (by rw [h1]; decide))
        rw [h1] at hx
        simp only [Prod.mk.injEq, zeroP] at hx
        obtain ⟨rfl, ⟨rfl, rfl, rfl, rfl⟩, rfl⟩ := hx
        refine (vs.kin hk2).on ?_
        repeat' (first | exact Bool.noConfusion ‹(!true) = true› | exact Bool.noConfusion ‹(!false) = false› | (intro h; exact h) | (intro h; rw [h]; rfl) | (intro h1 h2; rw [h1, h2]; rfl) | (intro _; assumption) | (intro _; exact rfl) | (intro h; exact Bool.noConfusion (h.symm.trans ‹_ = false›)) | refine ⟨fun _ => ?_, fun _ => ?_⟩ | refine ⟨?_⟩ | refine ⟨?_, ?_⟩ | fail)
        all_goals first | exact trivial | (refine (?_ : (_ : Int) ≠ _); decide) | exact rfl | skip
        all_goals done
      · have h1 := tok_make (q := x.1) ‹(_ && _) = false› ‹(iErr x.2.2 == 0) = true›
        have h2 := bneT ‹(rMakeE _ _ _ _ _ _ != 0) = true›
        have hx := hC.symm.trans (lineGo_no (by rw [h1]; exact h2))
        rw [h1] at hx
        simp only [Prod.mk.injEq, zeroP] at hx
        obtain ⟨rfl, ⟨rfl, rfl, rfl, rfl⟩, rfl⟩ := hx
        refine (vs.kin hk2).on ?_
        repeat' (first | exact Bool.noConfusion ‹(!true) = true› | exact Bool.noConfusion ‹(!false) = false› | (intro h; exact h) | (intro h; rw [h]; rfl) | (intro h1 h2; rw [h1, h2]; rfl) | (intro _; assumption) | (intro _; exact rfl) | (intro h; exact Bool.noConfusion (h.symm.trans ‹_ = false›)) | refine ⟨fun _ => ?_, fun _ => ?_⟩ | refine ⟨?_⟩ | refine ⟨?_, ?_⟩ | fail)
        all_goals first | exact trivial | (refine (?_ : (_ : Int) ≠ _); decide) | exact rfl | skip
      · show x.2.1.length + 1 ≤ 4000000000; omega
      · show (x.2.1.length + 1) * 16 ≤ 140737488355328; omega
      · have h1 := tok_make (q := x.1) ‹(_ && _) = false› ‹(iErr x.2.2 == 0) = true›
        have h2 := bneF ‹(rMakeE _ _ _ _ _ _ != 0) = false›
        have hx := hC.symm.trans (lineGo_yes (by rw [h1]; exact h2))
        simp only [lineGo, Prod.mk.injEq, nextP] at hx
        obtain ⟨rfl, ⟨rfl, rfl, rfl, rfl⟩, rfl⟩ := hx
        simp only [h2, if_true]
        repeat' (first | exact Bool.noConfusion ‹(!true) = true› | exact Bool.noConfusion ‹(!false) = false› | (intro h; exact h) | (intro h; rw [h]; rfl) | (intro h1 h2; rw [h1, h2]; rfl) | (intro _; assumption) | (intro _; exact rfl) | (intro h; exact Bool.noConfusion (h.symm.trans ‹_ = false›)) | refine ⟨fun _ => ?_, fun _ => ?_⟩ | refine ⟨?_⟩ | refine ⟨?_, ?_⟩ | fail)
        all_goals first | exact trivial | (refine (?_ : (_ : Int) ≠ _); decide) | exact rfl | skip
        refine (vs.kin hk2).on ?_
        repeat' (first | exact Bool.noConfusion ‹(!true) = true› | exact Bool.noConfusion ‹(!false) = false› | (intro h; exact h) | (intro h; rw [h]; rfl) | (intro h1 h2; rw [h1, h2]; rfl) | (intro _; assumption) | (intro _; exact rfl) | (intro h; exact Bool.noConfusion (h.symm.trans ‹_ = false›)) | refine ⟨fun _ => ?_, fun _ => ?_⟩ | refine ⟨?_⟩ | refine ⟨?_, ?_⟩ | fail)
        all_goals first | exact trivial | (refine (?_ : (_ : Int) ≠ _); decide) | exact rfl | skip
        all_goals done
      · have h1 := tok_err (q := x.1) (n := x.2.1.length) ‹(iErr x.2.2 == 0) = false›
        have h2 := bneT ‹(iErr x.2.2 != 0) = true›
        have hx := hC.symm.trans (lineGo_no (by rw [h1]; exact h2))
        rw [h1] at hx
        simp only [Prod.mk.injEq, zeroP] at hx
        obtain ⟨rfl, ⟨rfl, rfl, rfl, rfl⟩, rfl⟩ := hx
        refine (vs.kin hk2).on ?_
        repeat' (first | exact Bool.noConfusion ‹(!true) = true› | exact Bool.noConfusion ‹(!false) = false› | (intro h; exact h) | (intro h; rw [h]; rfl) | (intro h1 h2; rw [h1, h2]; rfl) | (intro _; assumption) | (intro _; exact rfl) | (intro h; exact Bool.noConfusion (h.symm.trans ‹_ = false›)) | refine ⟨fun _ => ?_, fun _ => ?_⟩ | refine ⟨?_⟩ | refine ⟨?_, ?_⟩ | fail)
        all_goals first | exact trivial | (refine (?_ : (_ : Int) ≠ _); decide) | exact rfl | skip
      · exact absurd (bneF ‹(iErr x.2.2 != 0) = false›) (beqF ‹(iErr x.2.2 == 0) = false›)
      · exact absurd (bneF ‹(iErr x.2.2 != 0) = false›) (beqF ‹(iErr x.2.2 == 0) = false›)
      · exact absurd (bneF ‹(iErr x.2.2 != 0) = false›) (beqF ‹(iErr x.2.2 == 0) = false›)
    all_goals
      have hkd := of_decide_eq_false ‹decide (k < 0) = false›
      obtain ⟨hk0, hkz, hct⟩ : 0 ≤ k ∧ k < (x.2.2.size : Int) ∧ toks x.2.2 = x.2.2.extract 0 k.toNat :: toks (x.2.2.extract (k + 1).toNat x.2.2.size) := by
        rcases hcut with ⟨h1, _⟩ | h1
        · exact absurd h1 hkd
        · exact h1
      have hw : IntKind.i64.wrap (k + 0) = k := by rw [Int.add_zero, wrap64 (by omega) (by omega)]
      simp only [hw]
    · exact hk0
    · omega
    · obtain ⟨tk, htk⟩ : ∃ tk, x.2.2.extract 0 k.toNat = tk := ⟨_, rfl⟩
      have hC := hgo
      rw [hct, htk] at hC
      simp only [show Int.toNat 0 = 0 from rfl, htk]
      refine trOps_none rfl (yield_one false hI rfl rfl rfl rfl ?_)
      intro c3 hk3
      refine ((vs.kin hk2).kin hk3).go rfl ?_
      repeat' (first | exact Bool.noConfusion ‹(!true) = true› | exact Bool.noConfusion ‹(!false) = false› | (intro h; exact h) | (intro h; rw [h]; rfl) | (intro h1 h2; rw [h1, h2]; rfl) | (intro _; assumption) | (intro _; exact rfl) | (intro h; exact Bool.noConfusion (h.symm.trans ‹_ = false›)) | refine ⟨fun _ => ?_, fun _ => ?_⟩ | refine ⟨?_⟩ | refine ⟨?_, ?_⟩ | fail)
      refine ((vs.kin hk2).kin hk3).go rfl ?_
      repeat' (first | exact Bool.noConfusion ‹(!true) = true› | exact Bool.noConfusion ‹(!false) = false› | (intro h; exact h) | (intro h; rw [h]; rfl) | (intro h1 h2; rw [h1, h2]; rfl) | (intro _; assumption) | (intro _; exact rfl) | (intro h; exact Bool.noConfusion (h.symm.trans ‹_ = false›)) | refine ⟨fun _ => ?_, fun _ => ?_⟩ | refine ⟨?_⟩ | refine ⟨?_, ?_⟩ | fail)
      all_goals first | exact trivial | (refine (?_ : (_ : Int) ≠ _); decide) | exact rfl | skip
      · have h1 := tok_full (q := x.1) ‹(_ && _) = true›
        have hx := hC.symm.trans (lineGo_no (by rw [h1]; decide))
        rw [h1] at hx
        simp only [Prod.mk.injEq, zeroP] at hx
        obtain ⟨rfl, ⟨rfl, rfl, rfl, rfl⟩, rfl⟩ := hx
        refine (vs.kin hk2).on ?_
        repeat' (first | exact Bool.noConfusion ‹(!true) = true› | exact Bool.noConfusion ‹(!false) = false› | (intro h; exact h) | (intro h; rw [h]; rfl) | (intro h1 h2; rw [h1, h2]; rfl) | (intro _; assumption) | (intro _; exact rfl) | (intro h; exact Bool.noConfusion (h.symm.trans ‹_ = false›)) | refine ⟨fun _ => ?_, fun _ => ?_⟩ | refine ⟨?_⟩ | refine ⟨?_, ?_⟩ | fail)
        all_goals first | exact trivial | (refine (?_ : (_ : Int) ≠ _); decide) | exact rfl | skip
      · have h1 := tok_make (q := x.1) ‹(_ && _) = false› ‹(iErr tk == 0) = true›
        have h2 := bneT ‹(rMakeE _ _ _ _ _ _ != 0) = true›
        have hx := hC.symm.trans (lineGo_no (by rw [h1]; exact h2))
        rw [h1] at hx
        simp only [Prod.mk.injEq, zeroP] at hx
        obtain ⟨rfl, ⟨rfl, rfl, rfl, rfl⟩, rfl⟩ := hx
        refine (vs.kin hk2).on ?_
        repeat' (first | exact Bool.noConfusion ‹(!true) = true› | exact Bool.noConfusion ‹(!false) = false› | (intro h; exact h) | (intro h; rw [h]; rfl) | (intro h1 h2; rw [h1, h2]; rfl) | (intro _; assumption) | (intro _; exact rfl) | (intro h; exact Bool.noConfusion (h.symm.trans ‹_ = false›)) | refine ⟨fun _ => ?_, fun _ => ?_⟩ | refine ⟨?_⟩ | refine ⟨?_, ?_⟩ | fail)
        all_goals first | exact trivial | (refine (?_ : (_ : Int) ≠ _); decide) | exact rfl | skip
      · show x.2.1.length + 1 ≤ 4000000000; omega
      · show (x.2.1.length + 1) * 16 ≤ 140737488355328; omega
      · have h1 := tok_make (q := x.1) ‹(_ && _) = false› ‹(iErr tk == 0) = true›
        have h2 := bneF ‹(rMakeE _ _ _ _ _ _ != 0) = false›
        have hx := (lineGo_yes (by rw [h1]; exact h2)).symm.trans hC
        have hnf : (x.2.1.length == 1024) = false := by
          have h3 := ‹(iErr tk == 0 && _) = false›
          rw [‹(iErr tk == 0) = true›, Bool.true_and] at h3
          have h4 : ((x.2.1.length : Int) == 1024) = false := h3
          have h5 := beqF h4
          rw [beq_eq_false_iff_ne]; omega
        have hnl : x.2.1.length ≠ 1024 := by simpa using hnf
        simp only [h2, if_true]
        repeat' (first | exact Bool.noConfusion ‹(!true) = true› | exact Bool.noConfusion ‹(!false) = false› | (intro h; exact h) | (intro h; rw [h]; rfl) | (intro h1 h2; rw [h1, h2]; rfl) | (intro _; assumption) | (intro _; exact rfl) | (intro h; exact Bool.noConfusion (h.symm.trans ‹_ = false›)) | refine ⟨fun _ => ?_, fun _ => ?_⟩ | refine ⟨?_⟩ | refine ⟨?_, ?_⟩ | fail)
        all_goals first | exact trivial | (refine (?_ : (_ : Int) ≠ _); decide) | exact rfl | skip
        refine (vs.kin hk2).on ?_
        repeat' (first | exact Bool.noConfusion ‹(!true) = true› | exact Bool.noConfusion ‹(!false) = false› | (intro h; exact h) | (intro h; rw [h]; rfl) | (intro h1 h2; rw [h1, h2]; rfl) | (intro _; assumption) | (intro _; exact rfl) | (intro h; exact Bool.noConfusion (h.symm.trans ‹_ = false›)) | refine ⟨fun _ => ?_, fun _ => ?_⟩ | refine ⟨?_⟩ | refine ⟨?_, ?_⟩ | fail)
        all_goals first | exact trivial | (refine (?_ : (_ : Int) ≠ _); decide) | exact rfl | skip
        all_goals (try rw [show (((⟨#[32]⟩ : ByteArray).size : Nat) : Int) = 1 from rfl])
        all_goals (try rw [wrap64 (x := k + 1) (by omega) (by omega)])
        all_goals try omega
        refine Again.mk (nextP x.1 (iFr tk) (iTo tk), x.2.1 ++ [(iFr tk, iTo tk)], x.2.2.extract (k + 1).toNat x.2.2.size) ⟨hx, ?_, ?_⟩ ?_ ?_
        · rw [List.length_append]; show x.2.1.length + 1 ≤ 1024; omega
        · rw [ByteArray.size_extract]; omega
        · show (x.2.2.extract (k + 1).toNat x.2.2.size).size < x.2.2.size; rw [ByteArray.size_extract]; omega
        · (refine ⟨?_, rfl, ?_, ?_, ?_, rfl⟩ <;> repeat' (first | exact trivial | (refine ⟨rfl, ?_⟩) | fail))
      · have h1 := tok_err (q := x.1) (n := x.2.1.length) ‹(iErr tk == 0) = false›
        have h2 := bneT ‹(iErr tk != 0) = true›
        have hx := hC.symm.trans (lineGo_no (by rw [h1]; exact h2))
        rw [h1] at hx
        simp only [Prod.mk.injEq, zeroP] at hx
        obtain ⟨rfl, ⟨rfl, rfl, rfl, rfl⟩, rfl⟩ := hx
        refine (vs.kin hk2).on ?_
        repeat' (first | exact Bool.noConfusion ‹(!true) = true› | exact Bool.noConfusion ‹(!false) = false› | (intro h; exact h) | (intro h; rw [h]; rfl) | (intro h1 h2; rw [h1, h2]; rfl) | (intro _; assumption) | (intro _; exact rfl) | (intro h; exact Bool.noConfusion (h.symm.trans ‹_ = false›)) | refine ⟨fun _ => ?_, fun _ => ?_⟩ | refine ⟨?_⟩ | refine ⟨?_, ?_⟩ | fail)
        all_goals first | exact trivial | (refine (?_ : (_ : Int) ≠ _); decide) | exact rfl | skip
      · exact absurd (bneF ‹(iErr tk != 0) = false›) (beqF ‹(iErr tk == 0) = false›)
      · exact absurd (bneF ‹(iErr tk != 0) = false›) (beqF ‹(iErr tk == 0) = false›)
      · exact absurd (bneF ‹(iErr tk != 0) = false›) (beqF ‹(iErr tk == 0) = false›)
  · cases hcr
end
end Go.X

namespace Go.X
open Go Go.Proofs

section
variable {G : Nat → World → Prop}
set_option maxHeartbeats 4000000 in
set_option maxRecDepth 20000 in
theorem okR12Print (hS : Hyp G) : ConOK Tryz.prog G 12 cR12Print := by
  refine seat_con hS.seat [(21, cR12Sq)] [] ⟨okR12Sq hS, trivial⟩ Tryz.func12 rfl rfl rfl ?_
  intro rvs cr hcr hpre
  unfold cR12Print at hcr
  split at hcr
  · rename_i f t
    cases hcr
    refine ⟨⟨rfl, rfl, rfl⟩, fun c hc vs => ?_⟩
    repeat' (first | exact Bool.noConfusion ‹(!true) = true› | exact Bool.noConfusion ‹(!false) = false› | (intro h; exact h) | (intro h; rw [h]; rfl) | (intro h1 h2; rw [h1, h2]; rfl) | (intro _; assumption) | (intro _; exact rfl) | (intro h; exact Bool.noConfusion (h.symm.trans ‹_ = false›)) | refine ⟨fun _ => ?_, fun _ => ?_⟩ | refine ⟨?_⟩ | refine ⟨?_, ?_⟩ | fail)
    all_goals first | exact trivial | (refine (?_ : (_ : Int) ≠ _); decide) | exact rfl | skip
    all_goals
      have hx := ‹(_ || decide (t > 89)) = _›
      simp only [Bool.or_eq_true, Bool.or_eq_false_iff, decide_eq_true_eq, decide_eq_false_iff_not] at hx
    all_goals first | omega | exact ⟨by omega, by omega⟩ | skip
    · exact chk_s (print_no (fun h => by have := isSquare_iff.1 h.1; have := isSquare_iff.1 h.2; omega)).symm
    · rw [bytesOf_size, bytesOf_size]; exact (by decide : (2 + 2 : Nat) ≤ 9223372036854775807)
    · exact chk_s (print_yes ⟨by omega, by omega⟩ ⟨by omega, by omega⟩).symm
  · cases hcr
set_option maxHeartbeats 4000000 in
set_option maxRecDepth 20000 in
theorem okIPrint (hS : Hyp G) : ConOK Tryz.prog G 11 cIPrint := by
  refine seat_con hS.seat [(19, cFile), (20, cRank)] [] ⟨okFile hS, okRank hS, trivial⟩ Tryz.func11 rfl rfl rfl ?_
  intro rvs cr hcr hpre
  unfold cIPrint at hcr
  split at hcr
  · rename_i f t
    cases hcr
    refine ⟨⟨rfl, rfl, rfl⟩, fun c hc vs => ?_⟩
    repeat' (first | exact Bool.noConfusion ‹(!true) = true› | exact Bool.noConfusion ‹(!false) = false› | (intro h; exact h) | (intro h; rw [h]; rfl) | (intro h1 h2; rw [h1, h2]; rfl) | (intro _; assumption) | (intro _; exact rfl) | (intro h; exact Bool.noConfusion (h.symm.trans ‹_ = false›)) | refine ⟨fun _ => ?_, fun _ => ?_⟩ | refine ⟨?_⟩ | refine ⟨?_, ?_⟩ | fail)
    all_goals first | exact trivial | (refine (?_ : (_ : Int) ≠ _); decide) | exact rfl | skip
    refine Tr_nilTmp 5 (.int .u8) 3 rfl (by decide) ?_
    refine Tr_loopH (α := Nat) (fun i => [(3, .row 0), (11, .i .i64 (.ofNat i))]) (fun _ => []) (fun i => [(0, some ⟨5, .int .u8, (pr4 f t).take (2 * i), true⟩)]) (fun i => i ≤ 2 ∧ (1 ≤ i → Sqr f) ∧ (2 ≤ i → Sqr t)) (fun i => 2 - i) 0 ⟨by omega, by omega, by omega⟩ (by (refine ⟨?_, rfl, ?_, ?_, ?_, rfl⟩ <;> repeat' (first | exact trivial | (refine ⟨rfl, ?_⟩) | fail))) ?_
    rintro i ⟨hi, h1, h2⟩
    obtain rfl | rfl | rfl : i = 0 ∨ i = 1 ∨ i = 2 := by omega
    · refine vs.go rfl ?_
      repeat' (first | exact Bool.noConfusion ‹(!true) = true› | exact Bool.noConfusion ‹(!false) = false› | (intro h; exact h) | (intro h; rw [h]; rfl) | (intro h1 h2; rw [h1, h2]; rfl) | (intro _; assumption) | (intro _; exact rfl) | (intro h; exact Bool.noConfusion (h.symm.trans ‹_ = false›)) | refine ⟨fun _ => ?_, fun _ => ?_⟩ | refine ⟨?_⟩ | refine ⟨?_, ?_⟩ | fail)
      all_goals first | exact trivial | (refine (?_ : (_ : Int) ≠ _); decide) | exact rfl | skip
      all_goals try dsimp only at *
      · exact chk_s (print_n1 ‹_›).symm
      · exact (by decide : (0 + 2 : Nat) ≤ 4000000000)
      · exact (by decide : (0 + 2) * 1 ≤ 140737488355328)
      · obtain ⟨hs, hw⟩ := pr_w ‹decide (spFile f < 0) = false›
        refine Again.mk 1 ⟨by omega, fun _ => hs, by omega⟩ (by omega) ?_
        rw [hw]
        (refine ⟨?_, rfl, ?_, ?_, ?_, rfl⟩ <;> repeat' (first | exact trivial | (refine ⟨rfl, ?_⟩) | fail))
    · refine vs.go rfl ?_
      repeat' (first | exact Bool.noConfusion ‹(!true) = true› | exact Bool.noConfusion ‹(!false) = false› | (intro h; exact h) | (intro h; rw [h]; rfl) | (intro h1 h2; rw [h1, h2]; rfl) | (intro _; assumption) | (intro _; exact rfl) | (intro h; exact Bool.noConfusion (h.symm.trans ‹_ = false›)) | refine ⟨fun _ => ?_, fun _ => ?_⟩ | refine ⟨?_⟩ | refine ⟨?_, ?_⟩ | fail)
      all_goals first | exact trivial | (refine (?_ : (_ : Int) ≠ _); decide) | exact rfl | skip
      all_goals try dsimp only at *
      · exact chk_s (print_n2 ‹_›).symm
      · exact (by decide : (2 + 2 : Nat) ≤ 4000000000)
      · exact (by decide : (2 + 2) * 1 ≤ 140737488355328)
      · obtain ⟨hs, hw⟩ := pr_w ‹decide (spFile t < 0) = false›
        refine Again.mk 2 ⟨by omega, fun _ => h1 (by omega), fun _ => hs⟩ (by omega) ?_
        rw [hw]
        (refine ⟨?_, rfl, ?_, ?_, ?_, rfl⟩ <;> repeat' (first | exact trivial | (refine ⟨rfl, ?_⟩) | fail))
    · refine vs.go rfl ?_
      repeat' (first | exact Bool.noConfusion ‹(!true) = true› | exact Bool.noConfusion ‹(!false) = false› | (intro h; exact h) | (intro h; rw [h]; rfl) | (intro h1 h2; rw [h1, h2]; rfl) | (intro _; assumption) | (intro _; exact rfl) | (intro h; exact Bool.noConfusion (h.symm.trans ‹_ = false›)) | refine ⟨fun _ => ?_, fun _ => ?_⟩ | refine ⟨?_⟩ | refine ⟨?_, ?_⟩ | fail)
      all_goals first | exact trivial | (refine (?_ : (_ : Int) ≠ _); decide) | exact rfl | skip
      all_goals try dsimp only at *
      exact chk_s (print_4 (h1 (by omega)) (h2 (by omega))).symm
  · cases hcr
end
end Go.X

namespace Go.X
open Go Go.Proofs

def cIText : Con
  | [.row _ ⟨23, .pair (.int .i64) (.int .i64), l, true⟩] => some ⟨[LML l], .a (.s (spText l)), [], []⟩
  | _ => none
section
variable {G : Nat → World → Prop}
set_option maxHeartbeats 4000000 in
set_option maxRecDepth 20000 in
theorem okIText (hS : Hyp G) : ConOK Tryz.prog G 14 cIText := by
  refine seat_con hS.seat [(11, cIPrint), (25, cJoin)] [] ⟨okIPrint hS, okJoin hS, trivial⟩ Tryz.func14 rfl rfl rfl ?_
  intro rvs cr hcr hpre
  unfold cIText at hcr
  split at hcr
  · rename_i id l
    cases hcr
    simp only [List.mem_cons, List.not_mem_nil, or_false, forall_eq_or_imp, forall_eq] at hpre
    refine ⟨⟨rfl, rfl, rfl⟩, fun c hc vs => ?_⟩
    have hl := hpre.le
    repeat' (first | exact Bool.noConfusion ‹(!true) = true› | exact Bool.noConfusion ‹(!false) = false› | (intro h; exact h) | (intro h; rw [h]; rfl) | (intro h1 h2; rw [h1, h2]; rfl) | (intro _; assumption) | (intro _; exact rfl) | (intro h; exact Bool.noConfusion (h.symm.trans ‹_ = false›)) | refine ⟨fun _ => ?_, fun _ => ?_⟩ | refine ⟨?_⟩ | refine ⟨?_, ?_⟩ | fail)
    all_goals first | exact rfl | skip
    refine Tr_nilTmp 9 .str 3 rfl (by decide) ?_
    refine Tr_loopH (α := Nat) (fun i => [(3, .row 1), (9, .i .i64 (.ofNat i))]) (fun _ => []) (fun i => [(1, some ⟨9, .str, (l.take i).map prM, true⟩)]) (fun i => i ≤ l.length ∧ ∀ j, j < i → strEq (prM (l.getD j (0, 0))) ⟨#[]⟩ = false) (fun i => l.length - i) 0 ⟨Nat.zero_le _, fun j hj => by omega⟩ (by (refine ⟨?_, rfl, ?_, ?_, ?_, rfl⟩ <;> repeat' (first | exact trivial | (refine ⟨rfl, ?_⟩) | fail))) ?_
    rintro i ⟨hi, hq⟩
    have hm : ((l.take i).map prM).length ≤ 100000 := by rw [List.length_map]; exact Nat.le_trans (List.length_take_le' _ _) (by omega)
    refine vs.go rfl ?_
    repeat' (first | exact Bool.noConfusion ‹(!true) = true› | exact Bool.noConfusion ‹(!false) = false› | (intro h; exact h) | (intro h; rw [h]; rfl) | (intro h1 h2; rw [h1, h2]; rfl) | (intro _; assumption) | (intro _; exact rfl) | (intro h; exact Bool.noConfusion (h.symm.trans ‹_ = false›)) | refine ⟨fun _ => ?_, fun _ => ?_⟩ | refine ⟨?_⟩ | refine ⟨?_, ?_⟩ | fail)
    all_goals first | exact trivial | (refine (?_ : (_ : Int) ≠ _); decide) | exact rfl | skip
    all_goals try dsimp only at *
    · rename_i h1; have := ltN h1; show (i : Int) < (l.length : Int); omega
    · rename_i h1 h2; exact chk_s (text_bad (ltN h1) h2).symm
    · show ((l.take i).map prM).length + 1 ≤ 4000000000; omega
    · show (((l.take i).map prM).length + 1) * 16 ≤ 140737488355328; omega
    · rename_i h1 h2
      have hlt := ltN h1
      refine Again.mk (i + 1) ⟨by omega, fun j hj => ?_⟩ (by omega) ?_
      · by_cases hji : j = i
        · subst hji; exact h2
        · exact hq j (by omega)
      · rw [take_map_next prM (0, 0) hlt, wrapN (by omega)]
        (refine ⟨?_, rfl, ?_, ?_, ?_, rfl⟩ <;> repeat' (first | exact trivial | (refine ⟨rfl, ?_⟩) | fail))
    · exact text_lj (l := l.take i) (Nat.le_trans (List.length_take_le' _ _) hl)
    · rename_i h1
      have hil : i = l.length := by have := geN h1; omega
      subst hil
      refine chk_s ?_
      rw [List.take_length]
      exact (text_ok hq).symm
  · cases hcr
end
end Go.X

namespace Go.X
open Go
def startP : ByteArray := ⟨#[82, 78, 66, 65, 75, 65, 66, 78, 82, 46, 46, 46, 46, 46, 46, 46, 46, 46, 46, 67, 46, 46, 46, 46, 46, 67, 46, 80, 46, 80, 46, 80, 46, 80, 46, 80, 46, 46, 46, 46, 46, 46, 46, 46, 46,
  46, 46, 46, 46, 46, 46, 46, 46, 46, 112, 46, 112, 46, 112, 46, 112, 46, 112, 46, 99, 46, 46, 46, 46, 46, 99, 46, 46, 46, 46, 46, 46, 46, 46, 46, 46, 114, 110, 98, 97, 107, 97, 98, 110, 114]⟩
def startL : List Int := [82, 78, 66, 65, 75, 65, 66, 78, 82, 46, 46, 46, 46, 46, 46, 46, 46, 46, 46, 67, 46, 46, 46, 46, 46, 67, 46, 80, 46, 80, 46, 80, 46, 80, 46, 80, 46, 46, 46, 46, 46, 46, 46, 46, 46,
  46, 46, 46, 46, 46, 46, 46, 46, 46, 112, 46, 112, 46, 112, 46, 112, 46, 112, 46, 99, 46, 46, 46, 46, 46, 99, 46, 46, 46, 46, 46, 46, 46, 46, 46, 46, 114, 110, 98, 97, 107, 97, 98, 110, 114]
theorem start_list : bytesL startP = startL := by decide +kernel
theorem start_is : spIs startP = true := by
  refine is_iff.2 ⟨rfl, ?_⟩
  have h : ∀ n, n < 90 → spIsCell (startL.getD n 0) = true := by decide +kernel
  intro n hn
  rw [← bytesL_getD, start_list]
  exact h n hn
theorem start_takes : dTakesL startL 0 = [(19, 82), (25, 88)] := by decide +kernel
theorem start_guarded : dGuarded startL 19 82 = true := by decide +kernel
theorem start_guarded' : dGuarded startL 19 20 = false := by decide +kernel
theorem start_can : dCan startL 1 64 1 = true := by decide +kernel
theorem start_can' : dCan startL 0 64 1 = false := by decide +kernel
theorem live_takes : spTakes startP 0 = [(19, 82), (25, 88)] := by rw [takes_canon start_is, start_list, start_takes]
theorem live_guarded : spGuarded startP 19 82 = true := by rw [guarded_canon start_is ⟨by decide, by decide⟩ ⟨by decide, by decide⟩, start_list, start_guarded]
theorem live_guarded' : spGuarded startP 19 20 = false := by rw [guarded_canon start_is ⟨by decide, by decide⟩ ⟨by decide, by decide⟩, start_list, start_guarded']
theorem live_can : spGCan startP 1 64 1 = true := by rw [gcan_canon start_is ⟨by decide, by decide⟩ ⟨by decide, by decide⟩, start_list, start_can]
theorem live_can' : spGCan startP 0 64 1 = false := by rw [gcan_canon start_is ⟨by decide, by decide⟩ ⟨by decide, by decide⟩, start_list, start_can']
theorem empty_takes : spTakes ByteArray.empty 0 = [] := by
  refine takes_bad ?_ 0
  cases h : spIs ByteArray.empty with
  | false => rfl
  | true => have := spIs_size h; cases this
end Go.X

namespace Go.X
open Go

theorem u8_of {x : Int} (h0 : 0 ≤ x) (h : x < 256) : ((UInt8.ofNat x.toNat).toNat : Int) = x := by
  rw [UInt8.toNat_ofNat']
  show ((x.toNat % 256 : Nat) : Int) = x
  omega
theorem pr4_at {f t : Int} (hf : Sqr f) (ht : Sqr t) : byteAt (bytesOf (pr4 f t)) 0 = 97 + f % 9 ∧ byteAt (bytesOf (pr4 f t)) 1 = 48 + f / 9 ∧ byteAt (bytesOf (pr4 f t)) 2 = 97 + t % 9 ∧ byteAt (bytesOf (pr4 f t)) 3 = 48 + t / 9 := by
  have h1 := hf.lo; have h2 := hf.hi; have h3 := ht.lo; have h4 := ht.hi
  unfold byteAt
  rw [bytesOf_list]
  exact ⟨u8_of (by omega) (by omega), u8_of (by omega) (by omega), u8_of (by omega) (by omega), u8_of (by omega) (by omega)⟩
theorem print_is {f t : Int} (hf : Sqr f) (ht : Sqr t) : spPrint f t = bytesOf (pr4 f t) := by unfold spPrint; exact if_pos ⟨hf.is, ht.is⟩
theorem rSq_pr {n : Int} (h : Sqr n) : rSq (97 + n % 9) (48 + n / 9) = n := by
  have h1 := h.lo; have h2 := h.hi
  rw [rSq_eq, if_neg (by omega), if_pos (by omega)]
  omega
structure PrOk (s : ByteArray) (f t : Int) : Prop where
  e : iErr s = 0
  f : iFr s = f
  t : iTo s = t
  z : s.size = 4
theorem print_read {f t : Int} (hf : Sqr f) (ht : Sqr t) : PrOk (spPrint f t) f t := by
  have h1 := hf.lo; have h3 := ht.lo
  rw [print_is hf ht]
  obtain ⟨b0, b1, b2, b3⟩ := pr4_at hf ht
  have h4 : (bytesOf (pr4 f t)).size = 4 := bytesOf_size _
  have hS : iS (bytesOf (pr4 f t)) = bytesOf (pr4 f t) := iS_f (by rw [h4]; rfl)
  have hk := okX_y (s := bytesOf (pr4 f t)) hS (by rw [h4]; rfl) (by
    rw [b0, b1, b2, b3, rSq_pr hf, rSq_pr ht]
    simp only [Bool.or_eq_false_iff, decide_eq_false_iff_not]
    omega)
  rw [b0, b1, b2, b3, rSq_pr hf, rSq_pr ht] at hk
  exact ⟨hk.1, hk.2.1, hk.2.2, h4⟩
theorem iOk_sq {s : ByteArray} (h : iErr s = 0) : Sqr (iFr s) ∧ Sqr (iTo s) := by
  unfold iErr at h
  by_cases hok : iOk s = true
  · unfold iFr iTo
    rw [if_pos hok, if_pos hok]
    unfold iOk at hok
    simp only [Bool.and_eq_true, Bool.not_eq_true', Bool.or_eq_false_iff, decide_eq_false_iff_not] at hok
    unfold iF iT at *
    have h1 := rSq_hi (f := byteAt (iS s) 0) (r := byteAt (iS s) 1)
    have h2 := rSq_hi (f := byteAt (iS s) 2) (r := byteAt (iS s) 3)
    exact ⟨⟨by omega, by omega⟩, ⟨by omega, by omega⟩⟩
  · rw [if_neg hok] at h; omega
def mvS (m : Int × Int) : Prop := Sqr m.1 ∧ Sqr m.2
theorem prM_read {m : Int × Int} (h : mvS m) : PrOk (prM m) m.1 m.2 := print_read h.1 h.2
theorem prM_ne {m : Int × Int} (h : mvS m) : strEq (prM m) ⟨#[]⟩ = false := by
  cases e : strEq (prM m) ⟨#[]⟩ with
  | false => rfl
  | true =>
    have := (prM_read h).z
    rw [strEq_eq e] at this
    cases this
theorem prM_no {m : Int × Int} (h : mvS m) : ∀ x ∈ (prM m).data.toList, x ≠ 32 := by
  obtain ⟨hf, ht⟩ := h
  have h1 := hf.lo; have h2 := hf.hi; have h3 := ht.lo; have h4 := ht.hi
  intro x hx e
  subst e
  unfold prM at hx
  rw [print_is hf ht, bytesOf_list] at hx
  have key : ∀ y : Int, 33 ≤ y → y < 256 → (32 : UInt8) ≠ UInt8.ofNat y.toNat := fun y ha hb e => by
    have := congrArg (fun u => (u.toNat : Int)) e
    have this : (((32 : UInt8).toNat : Nat) : Int) = ((UInt8.ofNat y.toNat).toNat : Int) := this
    rw [u8_of (by omega) hb] at this
    have e2 : (((32 : UInt8).toNat : Nat) : Int) = 32 := rfl
    omega
  simp only [pr4, List.map_cons, List.map_nil, List.mem_cons, List.not_mem_nil, or_false] at hx
  rcases hx with e | e | e | e
  · exact key _ (by omega) (by omega) e
  · exact key _ (by omega) (by omega) e
  · exact key _ (by omega) (by omega) e
  · exact key _ (by omega) (by omega) e
theorem cutB_join : ∀ L : List (List UInt8), L ≠ [] → (∀ l ∈ L, ∀ x ∈ l, x ≠ 32) → cutB (Lib.join L [32]) = L := by
  intro L
  induction L with
  | nil => intro h; exact absurd rfl h
  | cons x L ih =>
    intro _ h
    cases L with
    | nil =>
      have e : Lib.join [x] [32] = x := by simp [Lib.join]
      rw [e, cutB_none (h x (by simp))]
    | cons y L =>
      have e : Lib.join (x :: y :: L) [32] = x ++ 32 :: Lib.join (y :: L) [32] := by simp [Lib.join, List.intercalate]
      rw [e, cutB_app, cutB_none (h x (by simp)), ih (by simp) (fun l hl => h l (by simp only [List.mem_cons] at hl ⊢; exact .inr hl))]
      rfl
theorem toks_join {l : List (Int × Int)} (hl : l ≠ []) (h : ∀ m ∈ l, mvS m) : toks (joinS (l.map prM) ⟨#[32]⟩) = l.map prM := by
  unfold toks joinS
  show (cutB (Lib.join ((l.map prM).map (·.data.toList)) [32])).map _ = _
  rw [cutB_join _ (by simpa using hl) (fun x hx => by
    simp only [List.map_map, List.mem_map] at hx
    obtain ⟨m, hm, rfl⟩ := hx
    exact prM_no (h m hm))]
  rw [List.map_map]
  conv => rhs; rw [← List.map_id (l.map prM)]
  rfl
theorem text_sq {l : List (Int × Int)} (h : ∀ m ∈ l, mvS m) : spText l = joinS (l.map prM) ⟨#[32]⟩ := by
  unfold spText
  rw [if_pos]
  rw [List.all_eq_true]
  intro m hm
  rw [prM_ne (h m hm)]; rfl

def tokM (t : ByteArray) : Int × Int := (iFr t, iTo t)
theorem tokE_err {q : P4} {n : Nat} {t : ByteArray} (h : tokE q n t = 0) : iErr t = 0 := by
  unfold tokE at h
  by_cases h0 : iErr t = 0
  · exact h0
  · rw [if_neg h0] at h; exact absurd h h0
theorem tokE_pr {q : P4} {n : Nat} {t : ByteArray} (h : iErr t = 0) : tokE q n (prM (tokM t)) = tokE q n t ∧ tokM (prM (tokM t)) = tokM t := by
  have hp := prM_read (m := tokM t) (iOk_sq h)
  unfold tokE mkE
  rw [hp.e, hp.f, hp.t, h]
  exact ⟨rfl, by unfold tokM; rw [show iFr (prM (iFr t, iTo t)) = iFr t from hp.f, show iTo (prM (iFr t, iTo t)) = iTo t from hp.t]⟩
theorem lineGo_ok : ∀ (ts : List ByteArray) (q : P4) (ms : List (Int × Int)), (lineGo q ms ts).2.2 = 0 → (lineGo q ms ts).1 = ms ++ ts.map tokM ∧ ∀ t ∈ ts, iErr t = 0 := by
  intro ts
  induction ts with
  | nil => intro q ms _; simp [lineGo]
  | cons t ts ih =>
    intro q ms h
    by_cases h0 : tokE q ms.length t = 0
    · rw [lineGo_yes h0] at h ⊢
      obtain ⟨h1, h2⟩ := ih _ _ h
      rw [h1]
      refine ⟨by simp [tokM], fun u hu => ?_⟩
      rcases List.mem_cons.1 hu with rfl | hu
      · exact tokE_err h0
      · exact h2 u hu
    · rw [lineGo_no h0] at h; exact absurd h h0
theorem lineGo_fail : ∀ (ts : List ByteArray) (q : P4) (ms : List (Int × Int)), (lineGo q ms ts).2.2 ≠ 0 → (lineGo q ms ts).1 = [] ∧ (lineGo q ms ts).2.1 = zeroP := by
  intro ts
  induction ts with
  | nil => intro q ms h; exact absurd rfl h
  | cons t ts ih =>
    intro q ms h
    by_cases h0 : tokE q ms.length t = 0
    · rw [lineGo_yes h0] at h ⊢; exact ih _ _ h
    · rw [lineGo_no h0]; exact ⟨rfl, rfl⟩
theorem lineGo_map : ∀ (ts : List ByteArray) (q : P4) (ms : List (Int × Int)), (lineGo q ms ts).2.2 = 0 → lineGo q ms ((ts.map tokM).map prM) = lineGo q ms ts := by
  intro ts
  induction ts with
  | nil => intro q ms _; rfl
  | cons t ts ih =>
    intro q ms h
    by_cases h0 : tokE q ms.length t = 0
    · obtain ⟨e1, e2⟩ := tokE_pr (q := q) (n := ms.length) (tokE_err h0)
      have e3 : iFr (prM (tokM t)) = iFr t := congrArg Prod.fst e2
      have e4 : iTo (prM (tokM t)) = iTo t := congrArg Prod.snd e2
      rw [lineGo_yes h0] at h
      rw [List.map_cons, List.map_cons, lineGo_yes (by rw [e1]; exact h0), lineGo_yes h0, e3, e4]
      exact ih _ _ h
    · rw [lineGo_no h0] at h; exact absurd h h0
theorem line_fail {q : P4} {s : ByteArray} (h : (spLine q s).2.2 ≠ 0) : (spLine q s).1 = [] ∧ (spLine q s).2.1 = zeroP := by
  unfold spLine at h ⊢
  by_cases h1 : rWell q.1 q.2.1 q.2.2.1 q.2.2.2 = 0
  · rw [if_pos h1] at h ⊢
    by_cases h2 : s.size = 0
    · rw [if_pos h2] at h; exact absurd rfl h
    · rw [if_neg h2] at h ⊢; exact lineGo_fail _ _ _ h
  · rw [if_neg h1]; exact ⟨rfl, rfl⟩
theorem toks_ne (s : ByteArray) : toks s ≠ [] := by
  unfold toks
  intro h
  exact cutB_ne _ (List.map_eq_nil_iff.1 h)
theorem joinS_nil (sep : ByteArray) : joinS [] sep = ⟨#[]⟩ := rfl
theorem prM_join_ne {l : List (Int × Int)} (hl : l ≠ []) (h : ∀ m ∈ l, mvS m) : (joinS (l.map prM) ⟨#[32]⟩).size ≠ 0 := by
  intro e
  have h1 := toks_join hl h
  have h2 : joinS (l.map prM) ⟨#[32]⟩ = ⟨#[]⟩ := by
    apply ByteArray.ext
    exact Array.eq_empty_of_size_eq_zero e
  rw [h2] at h1
  cases l with
  | nil => exact hl rfl
  | cons m l =>
    have h3 : toks ⟨#[]⟩ = [⟨#[]⟩] := rfl
    rw [h3, List.map_cons, List.cons.injEq] at h1
    have h4 := (prM_read (h m (by simp))).z
    rw [← h1.1] at h4
    cases h4
theorem line_ok {q : P4} {s : ByteArray} (h : (spLine q s).2.2 = 0) : rWell q.1 q.2.1 q.2.2.1 q.2.2.2 = 0 ∧ ((s.size = 0 ∧ spLine q s = ([], q, 0)) ∨ (s.size ≠ 0 ∧ spLine q s = lineGo q [] (toks s))) := by
  unfold spLine at h ⊢
  by_cases h1 : rWell q.1 q.2.1 q.2.2.1 q.2.2.2 = 0
  · rw [if_pos h1] at h ⊢
    refine ⟨h1, ?_⟩
    by_cases h2 : s.size = 0
    · rw [if_pos h2]; exact .inl ⟨h2, rfl⟩
    · rw [if_neg h2]; exact .inr ⟨h2, rfl⟩
  · rw [if_neg h1] at h; exact absurd h h1
theorem line_go {q : P4} {s : ByteArray} (hw : rWell q.1 q.2.1 q.2.2.1 q.2.2.2 = 0) (hs : s.size ≠ 0) : spLine q s = lineGo q [] (toks s) := by
  unfold spLine
  rw [if_pos hw, if_neg hs]
theorem line_sq {q : P4} {s : ByteArray} (h : (spLine q s).2.2 = 0) : ∀ m ∈ (spLine q s).1, mvS m := by
  obtain ⟨_, ⟨_, e⟩ | ⟨_, e⟩⟩ := line_ok h
  · rw [e]; intro m hm; cases hm
  · rw [e] at h ⊢
    obtain ⟨h1, h2⟩ := lineGo_ok _ _ _ h
    rw [h1, List.nil_append]
    intro m hm
    obtain ⟨t, ht, rfl⟩ := List.mem_map.1 hm
    exact iOk_sq (h2 t ht)
theorem line_again {q : P4} {s : ByteArray} (h : (spLine q s).2.2 = 0) : spLine q (spText (spLine q s).1) = spLine q s := by
  have hsq := line_sq h
  obtain ⟨hw, ⟨_, e⟩ | ⟨_, e⟩⟩ := line_ok h
  · rw [e]
    show spLine q ⟨#[]⟩ = _
    unfold spLine
    rw [if_pos hw]; rfl
  · rw [text_sq hsq]
    have h' := h
    rw [e] at h'
    obtain ⟨h1, h2⟩ := lineGo_ok _ _ _ h'
    rw [List.nil_append] at h1
    have hne : (spLine q s).1 ≠ [] := by
      rw [e, h1]; intro hn; exact toks_ne s (List.map_eq_nil_iff.1 hn)
    have hgo : spLine q (joinS ((spLine q s).1.map prM) ⟨#[32]⟩) = lineGo q [] (toks (joinS ((spLine q s).1.map prM) ⟨#[32]⟩)) := line_go hw (prM_join_ne hne hsq)
    rw [hgo, toks_join hne hsq, e, h1]
    have := lineGo_map _ _ _ h'
    rw [this]
theorem tokE_lt {q : P4} {n : Nat} {t : ByteArray} (h : n < 1024) : tokE q n t = tokE q 0 t := by
  unfold tokE
  rw [if_neg (show ¬ n = 1024 by omega), if_neg (show ¬ 0 = 1024 by omega)]
theorem lineGo_shift : ∀ (ts : List ByteArray) (q : P4) (a ms : List (Int × Int)), a.length + ms.length + ts.length ≤ 1024 → lineGo q (a ++ ms) ts = if (lineGo q ms ts).2.2 = 0 then (a ++ (lineGo q ms ts).1, (lineGo q ms ts).2) else lineGo q ms ts := by
  intro ts
  induction ts with
  | nil => intro q a ms _; rfl
  | cons t ts ih =>
    intro q a ms hn
    simp only [List.length_cons] at hn
    have e1 : tokE q (a ++ ms).length t = tokE q ms.length t := by rw [tokE_lt (by rw [List.length_append]; omega), tokE_lt (n := ms.length) (by omega)]
    by_cases h0 : tokE q ms.length t = 0
    · rw [lineGo_yes h0, lineGo_yes (by rw [e1]; exact h0), List.append_assoc, ih _ _ _ (by simp; omega)]
    · rw [lineGo_no h0, lineGo_no (by rw [e1]; exact h0), e1, if_neg h0]
theorem cutB_len (l : List UInt8) : (cutB l).length ≤ l.length + 1 := by
  induction l with
  | nil => simp [cutB]
  | cons x l ih =>
    by_cases hx : x = 32
    · subst hx; rw [cutB_t]; simp only [List.length_cons]; omega
    · cases h : cutB l with
      | nil => exact absurd h (cutB_ne l)
      | cons a t => rw [cutB_f hx h]; rw [h] at ih; simp only [List.length_cons] at ih ⊢; omega
theorem toks_len (s : ByteArray) : (toks s).length ≤ s.size + 1 := by
  unfold toks
  rw [List.length_map]
  exact cutB_len _
theorem toks_app (s t : ByteArray) : toks (s ++ ⟨#[32]⟩ ++ t) = toks s ++ toks t := by
  unfold toks
  rw [← List.map_append, ← cutB_app]
  congr 2
  simp [ByteArray.data_append, Array.toList_append]
theorem lineGo_well : ∀ (ts : List ByteArray) (q : P4) (ms : List (Int × Int)), rWell q.1 q.2.1 q.2.2.1 q.2.2.2 = 0 → (lineGo q ms ts).2.2 = 0 → rWell (lineGo q ms ts).2.1.1 (lineGo q ms ts).2.1.2.1 (lineGo q ms ts).2.1.2.2.1 (lineGo q ms ts).2.1.2.2.2 = 0 := by
  intro ts
  induction ts with
  | nil => intro q ms hw _; exact hw
  | cons t ts ih =>
    intro q ms hw h
    by_cases h0 : tokE q ms.length t = 0
    · rw [lineGo_yes h0] at h ⊢
      refine ih _ _ ?_ h
      have he := tokE_err h0
      have hm : mkE q t = 0 := by
        unfold tokE at h0
        rw [if_pos he] at h0
        by_cases hn : ms.length = 1024
        · rw [if_pos hn] at h0; omega
        · rwa [if_neg hn] at h0
      have hg : spGCan q.1 q.2.1 (iFr t) (iTo t) = true := by
        unfold mkE rMakeE at hm
        rw [if_neg (by simp [hw])] at hm
        cases hc : spGCan q.1 q.2.1 (iFr t) (iTo t) with
        | true => rfl
        | false => rw [hc] at hm; simp at hm
      exact well_moved hw hg
    · rw [lineGo_no h0] at h; exact absurd h h0
theorem line_on {q : P4} {s t : ByteArray} (hs : s.size ≤ 200) (ht : t.size ≤ 200) (hs0 : s.size ≠ 0) (ht0 : t.size ≠ 0) (h : (spLine q s).2.2 = 0) :
    spLine q (s ++ ⟨#[32]⟩ ++ t) = if (spLine (spLine q s).2.1 t).2.2 = 0 then ((spLine q s).1 ++ (spLine (spLine q s).2.1 t).1, (spLine (spLine q s).2.1 t).2) else spLine (spLine q s).2.1 t := by
  obtain ⟨hw, ⟨e0, _⟩ | ⟨_, e⟩⟩ := line_ok h
  · exact absurd e0 hs0
  · have h' := h
    rw [e] at h'
    have hw2 := lineGo_well _ _ _ hw h'
    obtain ⟨h1, _⟩ := lineGo_ok _ _ _ h'
    have e2 : spLine (spLine q s).2.1 t = lineGo (lineGo q [] (toks s)).2.1 [] (toks t) := by
      rw [e]
      exact line_go hw2 ht0
    have e3 : spLine q (s ++ ⟨#[32]⟩ ++ t) = lineGo q [] (toks s ++ toks t) := by
      rw [line_go hw (by rw [ByteArray.size_append]; omega), toks_app]
    have hl1 := toks_len s
    have hl2 := toks_len t
    rw [e2, e3, e, lineGo_app, if_pos h']
    have := lineGo_shift (toks t) (lineGo q [] (toks s)).2.1 (lineGo q [] (toks s)).1 [] (by rw [h1]; simp; omega)
    rw [List.append_nil] at this
    exact this
theorem lineGo_len (ts : List ByteArray) (q : P4) (ms : List (Int × Int)) : (lineGo q ms ts).1.length ≤ ms.length + ts.length := by
  by_cases h : (lineGo q ms ts).2.2 = 0
  · rw [(lineGo_ok _ _ _ h).1]; simp
  · rw [(lineGo_fail _ _ _ h).1]; simp
theorem line_len (q : P4) (s : ByteArray) : (spLine q s).1.length ≤ s.size + 1 := by
  by_cases h : (spLine q s).2.2 = 0
  · obtain ⟨_, ⟨_, e⟩ | ⟨_, e⟩⟩ := line_ok h
    · rw [e]; simp
    · rw [e]; have := lineGo_len (toks s) q []; have := toks_len s; simp at *; omega
  · rw [(line_fail h).1]; simp
theorem print_inj {f t f' t' : Int} (hf : Sqr f) (ht : Sqr t) (hf' : Sqr f') (ht' : Sqr t') (e : spPrint f t = spPrint f' t') : f = f' ∧ t = t' := by
  have h1 := print_read hf ht
  have h2 := print_read hf' ht'
  rw [e] at h1
  exact ⟨h1.f.symm.trans h2.f, h1.t.symm.trans h2.t⟩
theorem print_size {f t : Int} : (Sqr f ∧ Sqr t ∧ (spPrint f t).size = 4) ∨ (¬ (Sqr f ∧ Sqr t) ∧ spPrint f t = ⟨#[]⟩) := by
  by_cases h : Sqr f ∧ Sqr t
  · exact .inl ⟨h.1, h.2, (print_read h.1 h.2).z⟩
  · refine .inr ⟨h, print_no fun hh => h ⟨?_, ?_⟩⟩
    · have := isSquare_iff.1 hh.1; exact ⟨this.1, this.2⟩
    · have := isSquare_iff.1 hh.2; exact ⟨this.1, this.2⟩
theorem strEq_self (s : ByteArray) : strEq s s = true := by unfold strEq; rw [beq_self_eq_true]
theorem err_empty : iErr ⟨#[]⟩ = 6 := by decide +kernel
theorem print_no_sq {f t : Int} (h : strEq (spPrint f t) ⟨#[]⟩ = true) : iErr (spPrint f t) = 6 ∧ ¬ (Sqr f ∧ Sqr t) := by
  rcases print_size (f := f) (t := t) with ⟨_, _, h3⟩ | ⟨h1, h2⟩
  · rw [strEq_eq h] at h3; cases h3
  · rw [h2]; exact ⟨err_empty, h1⟩
theorem print_sq {f t : Int} (h : strEq (spPrint f t) ⟨#[]⟩ = false) : Sqr f ∧ Sqr t := by
  rcases print_size (f := f) (t := t) with ⟨h1, h2, _⟩ | ⟨_, h2⟩
  · exact ⟨h1, h2⟩
  · rw [h2, strEq_self] at h; cases h
theorem print_eq {f t f' t' : Int} (h : Sqr f ∧ Sqr t) (h' : Sqr f' ∧ Sqr t') : strEq (spPrint f t) (spPrint f' t') = ((f == f') && (t == t')) := by
  rw [Bool.eq_iff_iff, Bool.and_eq_true, beq_iff_eq, beq_iff_eq]
  constructor
  · intro e; exact print_inj h.1 h.2 h'.1 h'.2 (strEq_eq e)
  · rintro ⟨rfl, rfl⟩; exact strEq_self _
theorem sameM_self (l : List (Int × Int)) : sameM l l = true := by unfold sameM; exact decide_eq_true rfl
end Go.X

namespace Go.X
open Go

def startQ : P4 := (startP, 0, 0, 1)
theorem start_well : rWell startP 0 0 1 = 0 := by
  have h1 : rCheck startP 0 0 1 = 0 := by
    have ha : rArg startP 0 0 1 = false := by unfold rArg; rw [start_is]; rfl
    unfold rCheck
    rw [ha, start_list]
    decide +kernel
  have h2 : spFacing startP = false := by rw [facing_canon start_is, start_list]; decide +kernel
  have h3 : spIn startP (1 - 0) = false := by rw [in_canon start_is, start_list]; decide +kernel
  unfold rWell
  rw [h1, h2, h3]; rfl
def nextL : List Int := dMoved startL 19 82
def nextS : ByteArray := spMoved startP 19 82
theorem next_list : bytesL nextS = nextL := by
  unfold nextS nextL
  rw [(moved_canon start_is ⟨by decide, by decide⟩ ⟨by decide, by decide⟩).1, start_list]
theorem next_is : spIs nextS = true := (moved_canon start_is ⟨by decide, by decide⟩ ⟨by decide, by decide⟩).2
theorem start_move : spGCan startP 0 19 82 = true := by
  rw [gcan_canon start_is ⟨by decide, by decide⟩ ⟨by decide, by decide⟩, start_list]; decide +kernel
theorem next_well : rWell nextS 1 0 1 = 0 := by
  have h := well_moved start_well start_move
  have e1 : nClock (bytesL startP) 0 82 = 0 := by rw [start_list]; decide +kernel
  rw [e1] at h
  exact h
theorem next_move : spGCan nextS 1 81 82 = true := by
  rw [gcan_canon next_is ⟨by decide, by decide⟩ ⟨by decide, by decide⟩, next_list]; decide +kernel
theorem next_not : spGCan nextS 1 19 82 = false := by
  rw [gcan_canon next_is ⟨by decide, by decide⟩ ⟨by decide, by decide⟩, next_list]; decide +kernel
def tB : ByteArray := ⟨#[98, 50, 98, 57]⟩
def tA : ByteArray := ⟨#[97, 57, 98, 57]⟩
def tBA : ByteArray := ⟨#[98, 50, 98, 57, 32, 97, 57, 98, 57]⟩
def tBB : ByteArray := ⟨#[98, 50, 98, 57, 32, 98, 50, 98, 57]⟩
theorem tok_BA : toks tBA = [tB, tA] := rfl
theorem tok_BB : toks tBB = [tB, tB] := rfl
theorem rd_B : iErr tB = 0 ∧ iFr tB = 19 ∧ iTo tB = 82 := by decide +kernel
theorem rd_A : iErr tA = 0 ∧ iFr tA = 81 ∧ iTo tA = 82 := by decide +kernel
theorem go_B : tokE startQ 0 tB = 0 := by
  unfold tokE mkE
  obtain ⟨h1, h2, h3⟩ := rd_B
  rw [h1, h2, h3, if_pos rfl, if_neg (by decide)]
  unfold rMakeE
  show (if rWell startP 0 0 1 ≠ 0 then _ else if spGCan startP 0 19 82 = true then (0 : Int) else 7) = 0
  rw [start_well, start_move]; rfl
def nextQ : P4 := nextP startQ 19 82
theorem nextQ_eq : nextQ = (nextS, 1, 0, 1) := by
  have e1 : nClock (bytesL startP) 0 82 = 0 := by rw [start_list]; decide +kernel
  unfold nextQ nextP
  show (spMoved startP 19 82, 1 - 0, nClock (bytesL startP) 0 82, nFull 0 1) = _
  rw [e1]; rfl
theorem go_A : tokE nextQ 1 tA = 0 := by
  rw [nextQ_eq]
  unfold tokE mkE
  obtain ⟨h1, h2, h3⟩ := rd_A
  rw [h1, h2, h3, if_pos rfl, if_neg (by decide)]
  unfold rMakeE
  show (if rWell nextS 1 0 1 ≠ 0 then _ else if spGCan nextS 1 81 82 = true then (0 : Int) else 7) = 0
  rw [next_well, next_move]; rfl
theorem go_BB : tokE nextQ 1 tB = 7 := by
  rw [nextQ_eq]
  unfold tokE mkE
  obtain ⟨h1, h2, h3⟩ := rd_B
  rw [h1, h2, h3, if_pos rfl, if_neg (by decide)]
  unfold rMakeE
  show (if rWell nextS 1 0 1 ≠ 0 then _ else if spGCan nextS 1 19 82 = true then (0 : Int) else 7) = 7
  rw [next_well, next_not]; rfl
theorem line_BA : (spLine startQ tBA).1 = [(19, 82), (81, 82)] ∧ (spLine startQ tBA).2.2 = 0 ∧ (spLine startQ tBA).2.1.2.2.2 = 2 := by
  have e : spLine startQ tBA = lineGo startQ [] [tB, tA] := by
    rw [line_go (q := startQ) (s := tBA) start_well (by decide), tok_BA]
  obtain ⟨_, h2, h3⟩ := rd_B
  obtain ⟨_, h5, h6⟩ := rd_A
  rw [e, lineGo_yes (q := startQ) (ms := []) (t := tB) go_B, h2, h3]
  show (lineGo nextQ [(19, 82)] [tA]).1 = _ ∧ (lineGo nextQ [(19, 82)] [tA]).2.2 = 0 ∧ (lineGo nextQ [(19, 82)] [tA]).2.1.2.2.2 = 2
  rw [lineGo_yes (show tokE nextQ ([(19, 82)] : List (Int × Int)).length tA = 0 from go_A), h5, h6, nextQ_eq]
  exact ⟨rfl, rfl, rfl⟩
theorem line_BB : (spLine startQ tBB).2.2 = 7 := by
  have e : spLine startQ tBB = lineGo startQ [] [tB, tB] := by
    rw [line_go (q := startQ) (s := tBB) start_well (by decide), tok_BB]
  obtain ⟨_, h2, h3⟩ := rd_B
  rw [e, lineGo_yes (q := startQ) (ms := []) (t := tB) go_B, h2, h3]
  show (lineGo nextQ [(19, 82)] [tB]).2.2 = 7
  rw [lineGo_no (show tokE nextQ ([(19, 82)] : List (Int × Int)).length tB ≠ 0 by show tokE nextQ 1 tB ≠ 0; rw [go_BB]; decide)]
  exact go_BB
def tH : ByteArray := ⟨#[72, 50, 45, 69, 50]⟩
def tJ : ByteArray := ⟨#[104, 50, 106, 50]⟩
theorem rd_H : iErr tH = 0 ∧ iFr tH = 25 ∧ iTo tH = 22 := by decide +kernel
theorem rd_J : iErr tJ = 6 := by decide +kernel
theorem pr_B : spPrint 19 82 = tB := by decide +kernel
theorem text_BA : spText [(19, 82), (81, 82)] = tBA := by decide +kernel
def spLive12 : Bool := (strEq (spPrint 19 82) tB) && (EK.eqb (.pair (.int .i64) (.int .i64)) (iFr tH, iTo tH) (25, 22)) && (iErr tH == 0) && (iErr tJ == 6) && decide ((spLine startQ tBA).1.length = 2) && ((spLine startQ tBA).2.1.2.2.2 == 2) && ((spLine startQ tBA).2.2 == 0) && ((spLine startQ tBB).2.2 == 7) && strEq (spText (spLine startQ tBA).1) tBA
theorem live12 : spLive12 = true := by
  unfold spLive12
  obtain ⟨h1, h2, h3⟩ := line_BA
  rw [pr_B, rd_H.1, rd_H.2.1, rd_H.2.2, rd_J, h1, h2, h3, line_BB, text_BA]
  decide +kernel
end Go.X

namespace Go.X
open Go Go.Proofs

structure Lv : Prop where
  is : spLive12 = true
  u : True
  v : True
theorem lv : Lv := ⟨live12, trivial, trivial⟩
noncomputable def cIParseV : Con
  | [.a (.s s)] => some ⟨[], .tup [.agg [.a (.i .i64 (veil (iFr s))), .a (.i .i64 (veil (iTo s)))], .a (.i .i64 (veil (iErr s)))], [], []⟩
  | _ => none
noncomputable def cIPrintV : Con
  | [.agg [.a (.i .i64 f), .a (.i .i64 t)]] => some ⟨[], .a (.s (veil (spPrint f t))), [], []⟩
  | _ => none
noncomputable def cITextV : Con
  | [.row _ ⟨23, .pair (.int .i64) (.int .i64), l, true⟩] => some ⟨[LML l], .a (.s (veil (spText l))), [], []⟩
  | _ => none
noncomputable def cILineV : Con
  | [.agg [.a (.s p), .a (.i .i64 side), .a (.i .i64 clock), .a (.i .i64 full)], .a (.s s)] =>
    some ⟨[TZ s], .tup [.row ⟨23, .pair (.int .i64) (.int .i64), veil (spLine (p, side, clock, full) s).1, true⟩, .agg [.a (.s (veil (spLine (p, side, clock, full) s).2.1.1)), .a (.i .i64 (veil (spLine (p, side, clock, full) s).2.1.2.1)), .a (.i .i64 (veil (spLine (p, side, clock, full) s).2.1.2.2.1)), .a (.i .i64 (veil (spLine (p, side, clock, full) s).2.1.2.2.2))], .a (.i .i64 (veil (spLine (p, side, clock, full) s).2.2))], [], []⟩
  | _ => none
theorem iparseV : cIParseV = cIParse := by
  funext l; unfold cIParseV cIParse; split <;> simp only [veil_eq]
theorem iprintV : cIPrintV = cIPrint := by
  funext l; unfold cIPrintV cIPrint; split <;> simp only [veil_eq]
theorem itextV : cITextV = cIText := by
  funext l; unfold cITextV cIText; split <;> simp only [veil_eq]
theorem ilineV : cILineV = cILine := by
  funext l; unfold cILineV cILine; split <;> simp only [veil_eq]
def cLive12 : Con
  | [] => some ⟨[Lv], .a (.b true), [], []⟩
  | _ => none
section
variable {G : Nat → World → Prop}
theorem okIParseV (hS : Hyp G) : ConOK Tryz.prog G 9 cIParseV := by rw [iparseV]; exact okIParse hS
theorem okIPrintV (hS : Hyp G) : ConOK Tryz.prog G 11 cIPrintV := by rw [iprintV]; exact okIPrint hS
theorem okITextV (hS : Hyp G) : ConOK Tryz.prog G 14 cITextV := by rw [itextV]; exact okIText hS
theorem okILineV (hS : Hyp G) : ConOK Tryz.prog G 13 cILineV := by rw [ilineV]; exact okILine hS
set_option maxHeartbeats 4000000 in
set_option maxRecDepth 20000 in
theorem okLive12 (hS : Hyp G) : ConOK Tryz.prog G 8 cLive12 := by
  refine seat_conT hS.seat [(9, cIParseV), (11, cIPrintV), (14, cITextV), (13, cILineV)] [] ⟨okIParseV hS, okIPrintV hS, okITextV hS, okILineV hS, trivial⟩ Tryz.func8 rfl rfl ?_
  intro rvs cr hcr hpre
  unfold cLive12 at hcr
  split at hcr
  · cases hcr
    simp only [List.mem_cons, List.not_mem_nil, or_false, forall_eq_or_imp, forall_eq] at hpre
    refine ⟨⟨rfl, rfl, rfl⟩, fun c hc vs => ?_⟩
    refine vs.go rfl ?_
    repeat' (first | exact Bool.noConfusion ‹(!true) = true› | exact Bool.noConfusion ‹(!false) = false› | (intro h; exact h) | (intro h; rw [h]; rfl) | (intro h1 h2; rw [h1, h2]; rfl) | (intro _; assumption) | (intro _; exact rfl) | (intro h; exact Bool.noConfusion (h.symm.trans ‹_ = false›)) | refine ⟨fun _ => ?_, fun _ => ?_⟩ | refine ⟨?_⟩ | refine ⟨?_, ?_⟩ | fail)
    · exact ⟨(by decide : (9 : Nat) ≤ 1000000), trivial, trivial⟩
    · exact ⟨(by decide : (9 : Nat) ≤ 1000000), trivial, trivial⟩
    · intro _
      show LML (veil (spLine startQ tBA).1)
      rw [veil_eq]
      exact ⟨Nat.le_trans (line_len startQ tBA) (by decide), trivial, trivial⟩
    · refine chk_b ?_
      show (strEq (veil (spPrint 19 82)) tB && EK.eqb (.pair (.int .i64) (.int .i64)) (veil (iFr tH), veil (iTo tH)) (25, 22) && (veil (iErr tH) == 0) && (veil (iErr tJ) == 6) && (((veil (spLine startQ tBA).1).length : Int) == 2) && (veil (spLine startQ tBA).2.1.2.2.2 == 2) && (veil (spLine startQ tBA).2.2 == 0) && (veil (spLine startQ tBB).2.2 == 7) && strEq (veil (spText (veil (spLine startQ tBA).1))) tBA) = true
      simp only [veil_eq]
      have hl := hpre.is
      unfold spLive12 at hl
      obtain ⟨h1, h2, h3⟩ := line_BA
      rw [h1] at hl ⊢
      exact hl
    · exact rfl
  · cases hcr
end
end Go.X

namespace Go.X
open Go Go.Proofs Go.RowKit

theorem seat_ok (g : Nat → World → Prop) (hg : ∀ (c : Ctx), g c.g0 c.w0 → ∀ w, Frame c w → g c.g0 w) : Seat Tryz.prog g TT := ⟨tt_ok, by kernel_rfl, hg⟩
def GG (g0 : Nat) (w : World) : Prop := Tryz.laysT29_ren.g 1 < g0 ∧ TabAt (Tryz.laysT29_ren.g 1) Lib.deBruijn64tab w
theorem gg_keep (c : Ctx) (h : GG c.g0 c.w0) (w : World) (hf : Frame c w) : GG c.g0 w := by
  refine ⟨h.1, fun j hj => ?_⟩
  have h1 := h.2 j hj
  have hlt : Tryz.laysT29_ren.g 1 < c.base := Nat.lt_of_lt_of_le h.1 c.g0_le
  have hb := hf.block _ hlt (fun hw => absurd (c.wr_ge _ hw) (Nat.not_le.2 h.1))
  unfold World.cell? at h1 ⊢
  dsimp only at h1 ⊢
  rw [hb]; exact h1
theorem hyp : Hyp GG := ⟨seat_ok GG gg_keep, fun _ _ h => h.2⟩
theorem tab_lt {w : World} (h : TabAt (Tryz.laysT29_ren.g 1) Lib.deBruijn64tab w) : Tryz.laysT29_ren.g 1 < w.heap.size := by
  have h1 := h 0 (by decide)
  unfold World.cell? at h1
  dsimp only at h1
  cases hg : w.heap[Tryz.laysT29_ren.g 1]? with
  | none => rw [hg] at h1; cases h1
  | some o => exact (Array.getElem?_eq_some_iff.1 hg).1
theorem law_calls {f : FuncId} {con : Con} {w : World} {avs : List AV} {rvs : List RV} {pre : List Prop} {vals : List Value} (hC : ConOK Tryz.prog GG f con) (hT : TabAt (Tryz.laysT29_ren.g 1) Lib.deBruijn64tab w)
    (hres : allRes (resolve st0) avs = some rvs) (hR : RL st0 e0 avs vals) (hcr : con rvs = some ⟨pre, .a (.b true), [], []⟩) (hpre : ∀ p ∈ pre, p) :
    Calls Tryz.prog f vals.toArray w fun en w' => en = .returned (.bool true) ∧ Below w.heap.size w w' := by
  refine (con_calls hC (g0 := Tryz.laysT29_ren.g 1 + 1) (tab_lt hT) ⟨Nat.lt_succ_self _, hT⟩ hres hR hcr hpre).mono ?_
  rintro en w' ⟨v, e', rfl, h1, h2⟩
  refine ⟨?_, top_below h1.frame⟩
  simp only [RT.inst, R] at h2
  rw [h2]
end Go.X

namespace Go.X
open Go Go.Proofs

section
variable {G : Nat → World → Prop}
set_option maxHeartbeats 4000000 in
set_option maxRecDepth 20000 in
theorem okR12Parse (hS : Hyp G) : ConOK Tryz.prog G 10 cR12Parse := by
  refine seat_con hS.seat [(18, cR12sq)] [] ⟨okR12sq hS, trivial⟩ Tryz.func10 rfl rfl rfl ?_
  intro rvs cr hcr hpre
  unfold cR12Parse at hcr
  split at hcr
  · rename_i s
    cases hcr
    refine ⟨⟨rfl, rfl, rfl⟩, fun c hc vs => ?_⟩
    repeat' (first | exact Bool.noConfusion ‹(!true) = true› | exact Bool.noConfusion ‹(!false) = false› | (intro h; exact h) | (intro h; rw [h]; rfl) | (intro h1 h2; rw [h1, h2]; rfl) | (intro _; assumption) | (intro _; exact rfl) | (intro h; exact Bool.noConfusion (h.symm.trans ‹_ = false›)) | refine ⟨fun _ => ?_, fun _ => ?_⟩ | refine ⟨?_⟩ | refine ⟨?_, ?_⟩ | fail)
    all_goals first | exact trivial | (refine (?_ : (_ : Int) ≠ _); decide) | exact rfl | skip
    all_goals first | (intro h; have h := beqT h; exact ⟨by decide, by omega⟩) | (have h5 := size5 (s := s) ‹_›; first | omega | (simp only [ByteArray.size_extract]; omega)) | skip
    all_goals first | (intro h; have h4 := size4 h; first | exact ⟨by decide, by omega⟩ | exact ⟨by rw [ByteArray.size_extract]; omega, trivial, trivial⟩ | exact ⟨by rw [ByteArray.size_extract]; show 2 ≤ _ - 2; omega, trivial, trivial⟩) | (intro h; have h4 := size4o h; first | exact ⟨by decide, by omega⟩ | exact ⟨by rw [ByteArray.size_extract]; omega, trivial, trivial⟩ | exact ⟨by rw [ByteArray.size_extract]; show 2 ≤ _ - 2; omega, trivial, trivial⟩) | skip
    all_goals (try simp only [show Int.toNat 0 = 0 from rfl, show Int.toNat 1 = 1 from rfl, show Int.toNat 2 = 2 from rfl, show Int.toNat 3 = 3 from rfl] at *)
    all_goals first | (have h4 := size4f (by with_reducible assumption); first | omega | exact ⟨by rw [ByteArray.size_extract]; omega, trivial, trivial⟩) | skip
    all_goals first
      | (have e := iS_t (s := s) (by with_reducible assumption); first | (have r := okE_or e (by with_reducible assumption); refine chk_i ?_; first | (with_reducible exact r.1.symm) | (with_reducible exact r.2.1.symm) | (with_reducible exact r.2.2.symm)) | (have r := okE_and e (by with_reducible assumption); refine chk_i ?_; first | (with_reducible exact r.1.symm) | (with_reducible exact r.2.1.symm) | (with_reducible exact r.2.2.symm)))
      | (have e := iS_f (s := s) (by with_reducible assumption); first | (have r := okE_or e (by with_reducible assumption); refine chk_i ?_; first | (with_reducible exact r.1.symm) | (with_reducible exact r.2.1.symm) | (with_reducible exact r.2.2.symm)) | (have r := okE_and e (by with_reducible assumption); refine chk_i ?_; first | (with_reducible exact r.1.symm) | (with_reducible exact r.2.1.symm) | (with_reducible exact r.2.2.symm)))
      | skip
  · cases hcr
end
end Go.X

namespace Go.X
open Go Go.Proofs

def cSame : Con
  | [.row _ ⟨23, .pair (.int .i64) (.int .i64), l, _⟩, .row _ ⟨23, .pair (.int .i64) (.int .i64), m, _⟩] => some ⟨[LL l m], .a (.b (sameM l m)), [], []⟩
  | [.view _ lo hi _ ⟨23, .pair (.int .i64) (.int .i64), l, _⟩, .row _ ⟨23, .pair (.int .i64) (.int .i64), m, _⟩] => some ⟨[LL (cutL lo hi l) m], .a (.b (sameM (cutL lo hi l) m)), [], []⟩
  | _ => none
section
variable {G : Nat → World → Prop}
set_option maxHeartbeats 4000000 in
set_option maxRecDepth 20000 in
theorem okSame (hS : Hyp G) : ConOK Tryz.prog G 15 cSame := by
  refine seat_con hS.seat [] [] trivial Tryz.func15 rfl rfl rfl ?_
  intro rvs cr hcr hpre
  unfold cSame at hcr
  split at hcr
  · rename_i id l ow id2 m ow2
    cases hcr
    simp only [List.mem_cons, List.not_mem_nil, or_false, forall_eq_or_imp, forall_eq] at hpre
    refine ⟨⟨rfl, rfl, rfl⟩, fun c hc vs => ?_⟩
    have hl := hpre.l
    have hm := hpre.m
    repeat' (first | exact Bool.noConfusion ‹(!true) = true› | exact Bool.noConfusion ‹(!false) = false› | (intro h; exact h) | (intro h; rw [h]; rfl) | (intro h1 h2; rw [h1, h2]; rfl) | (intro _; assumption) | (intro _; exact rfl) | (intro h; exact Bool.noConfusion (h.symm.trans ‹_ = false›)) | refine ⟨fun _ => ?_, fun _ => ?_⟩ | refine ⟨?_⟩ | refine ⟨?_, ?_⟩ | fail)
    all_goals first | exact trivial | (refine (?_ : (_ : Int) ≠ _); decide) | exact rfl | skip
    all_goals try dsimp only at *
    · exact chk_b (same_len ‹_›).symm
    have hlm : l.length = m.length := by have := bneF ‹((l.length : Int) != (m.length : Int)) = false›; omega
    refine Tr_loopH (α := Nat) (fun i => [(5, .i .i64 (.ofNat i))]) (fun _ => []) (fun _ => []) (fun i => i ≤ l.length ∧ ∀ j, j < i → l.getD j (0, 0) = m.getD j (0, 0)) (fun i => l.length - i) 0 ⟨Nat.zero_le _, fun j hj => by omega⟩ (by (refine ⟨?_, rfl, ?_, ?_, ?_, rfl⟩ <;> repeat' (first | exact trivial | (refine ⟨rfl, ?_⟩) | fail))) ?_
    rintro i ⟨hi, hq⟩
    refine vs.go rfl ?_
    repeat' (first | exact Bool.noConfusion ‹(!true) = true› | exact Bool.noConfusion ‹(!false) = false› | (intro h; exact h) | (intro h; rw [h]; rfl) | (intro h1 h2; rw [h1, h2]; rfl) | (intro _; assumption) | (intro _; exact rfl) | (intro h; exact Bool.noConfusion (h.symm.trans ‹_ = false›)) | refine ⟨fun _ => ?_, fun _ => ?_⟩ | refine ⟨?_⟩ | refine ⟨?_, ?_⟩ | fail)
    all_goals first | exact trivial | (refine (?_ : (_ : Int) ≠ _); decide) | exact rfl | skip
    all_goals try dsimp only at *
    · rename_i h1; have := ltN h1; show (i : Int) < (l.length : Int); omega
    · rename_i h1; have := ltN h1; show (i : Int) < (m.length : Int); omega
    · rename_i h1 h2
      have := ltN h1
      exact chk_b (same_no (ltN h1) (by omega) h2).symm
    · rename_i h1 h2
      have hlt := ltN h1
      refine Again.mk (i + 1) ⟨by omega, fun j hj => ?_⟩ (by omega) ?_
      · by_cases hji : j = i
        · subst hji; exact pair_eq h2
        · exact hq j (by omega)
      · rw [wrapN (by omega)]
        (refine ⟨?_, rfl, ?_, ?_, ?_, rfl⟩ <;> repeat' (first | exact trivial | (refine ⟨rfl, ?_⟩) | fail))
    · rename_i h1
      have hil : i = l.length := by have := geN h1; omega
      subst hil
      exact chk_b (same_yes hlm hq).symm
  · rename_i id v0 v1 ex l0 ow id2 m ow2
    cases hcr
    simp only [List.mem_cons, List.not_mem_nil, or_false, forall_eq_or_imp, forall_eq] at hpre
    refine ⟨⟨rfl, rfl, rfl⟩, fun c hc vs => ?_⟩
    have hl := hpre.l
    have hm := hpre.m
    repeat' (first | exact Bool.noConfusion ‹(!true) = true› | exact Bool.noConfusion ‹(!false) = false› | (intro h; exact h) | (intro h; rw [h]; rfl) | (intro h1 h2; rw [h1, h2]; rfl) | (intro _; assumption) | (intro _; exact rfl) | (intro h; exact Bool.noConfusion (h.symm.trans ‹_ = false›)) | refine ⟨fun _ => ?_, fun _ => ?_⟩ | refine ⟨?_⟩ | refine ⟨?_, ?_⟩ | fail)
    all_goals first | exact trivial | (refine (?_ : (_ : Int) ≠ _); decide) | exact rfl | skip
    all_goals try dsimp only at *
    · exact chk_b (same_len ‹_›).symm
    have hlm : (cutL v0 v1 l0).length = m.length := by have := bneF ‹(((cutL v0 v1 l0).length : Int) != (m.length : Int)) = false›; omega
    refine Tr_loopH (α := Nat) (fun i => [(5, .i .i64 (.ofNat i))]) (fun _ => []) (fun _ => []) (fun i => i ≤ (cutL v0 v1 l0).length ∧ ∀ j, j < i → (cutL v0 v1 l0).getD j (0, 0) = m.getD j (0, 0)) (fun i => (cutL v0 v1 l0).length - i) 0 ⟨Nat.zero_le _, fun j hj => by omega⟩ (by (refine ⟨?_, rfl, ?_, ?_, ?_, rfl⟩ <;> repeat' (first | exact trivial | (refine ⟨rfl, ?_⟩) | fail))) ?_
    rintro i ⟨hi, hq⟩
    refine vs.go rfl ?_
    repeat' (first | exact Bool.noConfusion ‹(!true) = true› | exact Bool.noConfusion ‹(!false) = false› | (intro h; exact h) | (intro h; rw [h]; rfl) | (intro h1 h2; rw [h1, h2]; rfl) | (intro _; assumption) | (intro _; exact rfl) | (intro h; exact Bool.noConfusion (h.symm.trans ‹_ = false›)) | refine ⟨fun _ => ?_, fun _ => ?_⟩ | refine ⟨?_⟩ | refine ⟨?_, ?_⟩ | fail)
    all_goals first | exact trivial | (refine (?_ : (_ : Int) ≠ _); decide) | exact rfl | skip
    all_goals try dsimp only at *
    · rename_i h1; have := ltN h1; show (i : Int) < ((cutL v0 v1 l0).length : Int); omega
    · rename_i h1; have := ltN h1; show (i : Int) < (m.length : Int); omega
    · rename_i h1 h2
      have := ltN h1
      exact chk_b (same_no (ltN h1) (by omega) h2).symm
    · rename_i h1 h2
      have hlt := ltN h1
      refine Again.mk (i + 1) ⟨by omega, fun j hj => ?_⟩ (by omega) ?_
      · by_cases hji : j = i
        · subst hji; exact pair_eq h2
        · exact hq j (by omega)
      · rw [wrapN (by omega)]
        (refine ⟨?_, rfl, ?_, ?_, ?_, rfl⟩ <;> repeat' (first | exact trivial | (refine ⟨rfl, ?_⟩) | fail))
    · rename_i h1
      have hil : i = (cutL v0 v1 l0).length := by have := geN h1; omega
      subst hil
      exact chk_b (same_yes hlm hq).symm
  · cases hcr
end
end Go.X
