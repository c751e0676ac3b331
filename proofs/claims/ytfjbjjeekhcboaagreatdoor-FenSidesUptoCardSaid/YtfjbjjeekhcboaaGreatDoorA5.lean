/-
  Parts of the proof.
-/
import Derived.Test.YtfjbjjeekhcboaaGreatDoorA4
import Derived.Test.YtfjbjjeekhcboaaGreatDoorA3
import Derived.Test.YtfjbjjeekhcboaaGreatDoorA2

set_option linter.unusedSimpArgs false
set_option linter.unusedVariables false

namespace Go.X
open Go Go.Proofs

def cIdxDot : Con
  | [.view _ lo hi _ ⟨5, .byte, l, _⟩, .fn 24 []] => some ⟨[LB (cutL lo hi l)], .a (.i .i64 (spIdx nd (cutL lo hi l))), [], []⟩
  | _ => none
def cNd : Con
  | [.a (.i .u8 c)] => some ⟨[], .a (.b (nd c)), [], []⟩
  | _ => none
abbrev cJoinS : Con := cJoin
def cPrint4 : Con
  | [.agg [.a (.s p), .a (.i .i64 side), .a (.i .i64 clock), .a (.i .i64 full)]] => some ⟨[], .tup [.a (.s (printP (p, side, clock, full)).1), .a (.i .i64 (printP (p, side, clock, full)).2)], [], []⟩
  | _ => none
def fr4 : Nat → AV
  | 0 => .nilp
  | _ + 1 => .box 4 0
section
variable {G : Nat → World → Prop}
theorem okJoinS (_ : Hyp G) : ConOK Tryz.prog G 30 cJoin := con_join Tryz.func30 rfl rfl (fun bk o c xs sep w h1 h2 h3 h4 h5 => Tryz.strings_Join bk o c xs sep w h1 h2 h3 h4 h5) (fun p cap sep w => Tryz.strings_Join_none p cap sep w)
set_option maxHeartbeats 4000000 in
set_option maxRecDepth 20000 in
theorem okNd (hS : Hyp G) : ConOK Tryz.prog G 24 cNd := by
  refine seat_con hS.seat [] [] trivial Tryz.func24 rfl rfl rfl ?_
  intro rvs cr hcr hpre
  unfold cNd at hcr
  split at hcr
  · cases hcr
    refine ⟨⟨rfl, rfl, rfl⟩, fun c hc vs => ?_⟩
    repeat' (first | exact Bool.noConfusion ‹(!true) = true› | exact Bool.noConfusion ‹(!false) = false› | (intro h; exact h) | (intro h; rw [h]; rfl) | (intro h1 h2; rw [h1, h2]; rfl) | (intro _; assumption) | (intro _; exact rfl) | (intro h; exact Bool.noConfusion (h.symm.trans ‹_ = false›)) | refine ⟨fun _ => ?_, fun _ => ?_⟩ | refine ⟨?_⟩ | refine ⟨?_, ?_⟩ | fail)
    all_goals first | exact trivial | exact rfl
  · cases hcr
set_option maxHeartbeats 4000000 in
set_option maxRecDepth 20000 in
theorem okIdxDot (hS : Hyp G) : ConOK Tryz.prog G 23 cIdxDot := by
  refine seat_con hS.seat [(24, cNd)] [none] ⟨okNd hS, trivial⟩ Tryz.func23 rfl rfl rfl ?_
  intro rvs cr hcr hpre
  unfold cIdxDot at hcr
  split at hcr
  · rename_i x lo hi _ l0 _
    cases hcr
    simp only [List.mem_cons, List.not_mem_nil, or_false, forall_eq_or_imp, forall_eq] at hpre
    refine ⟨⟨rfl, rfl, rfl⟩, fun c hc vs => ?_⟩
    have hll : (cutL lo hi l0).length ≤ 2000000000 := hpre
    repeat' (first | exact Bool.noConfusion ‹(!true) = true› | exact Bool.noConfusion ‹(!false) = false› | (intro h; exact h) | (intro h; rw [h]; rfl) | (intro h1 h2; rw [h1, h2]; rfl) | (intro _; assumption) | (intro _; exact rfl) | (intro h; exact Bool.noConfusion (h.symm.trans ‹_ = false›)) | refine ⟨fun _ => ?_, fun _ => ?_⟩ | refine ⟨?_⟩ | refine ⟨?_, ?_⟩ | fail)
    all_goals first | exact trivial | (refine (?_ : (_ : Int) ≠ _); decide) | exact rfl | skip
    refine Tr_loopH (α := Nat) (fun i => [(8, .i .i64 (.ofNat i))]) (fun _ => []) (fun _ => [])
        (fun i => i ≤ (cutL lo hi l0).length ∧ ∀ x ∈ (cutL lo hi l0).take i, nd x = false) (fun i => (cutL lo hi l0).length - i) 0 ⟨by omega, by simp⟩ (by (refine ⟨?_, rfl, ?_, ?_, ?_, rfl⟩ <;> repeat' (first | exact trivial | (refine ⟨rfl, ?_⟩) | fail))) ?_
    rintro i ⟨hi', hq⟩
    refine vs.go rfl ?_
    repeat' (first | exact Bool.noConfusion ‹(!true) = true› | exact Bool.noConfusion ‹(!false) = false› | (intro h; exact h) | (intro h; rw [h]; rfl) | (intro h1 h2; rw [h1, h2]; rfl) | (intro _; assumption) | (intro _; exact rfl) | (intro h; exact Bool.noConfusion (h.symm.trans ‹_ = false›)) | refine ⟨fun _ => ?_, fun _ => ?_⟩ | refine ⟨?_⟩ | refine ⟨?_, ?_⟩ | fail)
    all_goals first | exact trivial | (refine (?_ : (_ : Int) ≠ _); decide) | exact rfl | skip
    all_goals first | exact trivial | exact rfl | skip
    · rename_i h; simpa using h
    · rename_i h hf; simp at h; exact chk_i (idx_some h hq hf).symm
    · rename_i h hf
      simp at h
      refine Again.mk (i + 1) ⟨by omega, take_next h hq hf⟩ (by omega) ?_
      rw [wrapN (by omega)]
      (refine ⟨?_, rfl, ?_, ?_, ?_, rfl⟩ <;> repeat' (first | exact trivial | (refine ⟨rfl, ?_⟩) | fail))
    · rename_i h
      simp at h
      have hi' : i = (cutL lo hi l0).length := by omega
      subst hi'
      exact chk_i (idx_none hq).symm
  · cases hcr
set_option maxHeartbeats 4000000 in
set_option maxRecDepth 20000 in
theorem okPrint4 (hS : Hyp G) : ConOK Tryz.prog G 13 cPrint4 := by
  refine seat_con hS.seat [(21, cPCheck), (23, cIdxDot), (26, cItoaS), (28, cBStrS), (1000028, cMark), (29, cRev), (1000029, cMark), (30, cJoinS)] [] ⟨okPCheck hS, okIdxDot hS, okItoaS hS, okBStrS hS, okMark, okRev hS, okMark, okJoinS hS, trivial⟩ Tryz.func13 rfl rfl rfl ?_
  intro rvs cr hcr hpre
  unfold cPrint4 at hcr
  split at hcr
  · rename_i p side clock full
    cases hcr
    refine ⟨⟨rfl, rfl, rfl⟩, fun c hc vs => ?_⟩
    obtain ⟨P4, hP⟩ : ∃ x, printP (p, side, clock, full) = x := ⟨_, rfl⟩
    obtain ⟨C, hC⟩ : ∃ x, rCheck p side clock full = x := ⟨_, rfl⟩
    have hk : ck (p, side, clock, full) = C := hC
    rw [hP]
    repeat' (first | exact Bool.noConfusion ‹(!true) = true› | exact Bool.noConfusion ‹(!false) = false› | (intro h; exact h) | (intro h; rw [h]; rfl) | (intro h1 h2; rw [h1, h2]; rfl) | (intro _; assumption) | (intro _; exact rfl) | (intro h; exact Bool.noConfusion (h.symm.trans ‹_ = false›)) | refine ⟨fun _ => ?_, fun _ => ?_⟩ | refine ⟨?_⟩ | refine ⟨?_, ?_⟩ | fail)
    all_goals simp only [hC] at *
    all_goals first | exact trivial | exact rfl | skip
    · rw [hP.symm.trans (print_chk (by rw [hk]; assumption))]; exact chk_s rfl
    · rw [hP.symm.trans (print_chk (by rw [hk]; assumption)), hk]; exact chk_i rfl
    all_goals
      have hc0 : (C != 0) = false := ‹(C != 0) = false›
      have hk0 : ck (p, side, clock, full) = 0 := by rw [hk]; exact bneF hc0
      have hok := pr_ok hk0
      have hcb : cellsB (bytesL p) := hok.c
      have hbl : (bytesL p).length = 90 := hok.l
      have hpz : p.size = 90 := by rw [← bL_len]; exact hbl
      have hPr : P4 = (prB (p, side, clock, full), 0) := hP.symm.trans (print_ok (by rw [hk]; exact hc0))
    · show p.size ≤ _; omega
    refine trOps_none rfl (inl_one false hS.seat.tt rfl rfl Tryz.func22 rfl rfl ?_)
    intro cI hkI hrI
    refine (vs.kin hkI).go rfl ?_
    repeat' (first | exact Bool.noConfusion ‹(!true) = true› | exact Bool.noConfusion ‹(!false) = false› | (intro h; exact h) | (intro h; rw [h]; rfl) | (intro h1 h2; rw [h1, h2]; rfl) | (intro _; assumption) | (intro _; exact rfl) | (intro h; exact Bool.noConfusion (h.symm.trans ‹_ = false›)) | refine ⟨fun _ => ?_, fun _ => ?_⟩ | refine ⟨?_⟩ | refine ⟨?_, ?_⟩ | fail)
    all_goals first | exact trivial | exact rfl | skip
    refine vs.on ?_
    repeat' (first | exact Bool.noConfusion ‹(!true) = true› | exact Bool.noConfusion ‹(!false) = false› | (intro h; exact h) | (intro h; rw [h]; rfl) | (intro h1 h2; rw [h1, h2]; rfl) | (intro _; assumption) | (intro _; exact rfl) | (intro h; exact Bool.noConfusion (h.symm.trans ‹_ = false›)) | refine ⟨fun _ => ?_, fun _ => ?_⟩ | refine ⟨?_⟩ | refine ⟨?_, ?_⟩ | fail)
    all_goals first | exact trivial | exact rfl | skip
    refine Tr_nilBox 9 .str 1 0 rfl rfl (by decide) ?_
    refine tr_range hc rfl Tryz.func52 rfl rfl rfl (fun c2 hk2 hr2 hI => ?_)
    refine (vs.kin hk2).go rfl ?_
    repeat' (first | exact Bool.noConfusion ‹(!true) = true› | exact Bool.noConfusion ‹(!false) = false› | (intro h; exact h) | (intro h; rw [h]; rfl) | (intro h1 h2; rw [h1, h2]; rfl) | (intro _; assumption) | (intro _; exact rfl) | (intro h; exact Bool.noConfusion (h.symm.trans ‹_ = false›)) | refine ⟨fun _ => ?_, fun _ => ?_⟩ | refine ⟨?_⟩ | refine ⟨?_, ?_⟩ | fail)
    all_goals first | exact trivial | exact rfl | skip
    refine Tr_loopH (α := Nat) (fun j => [(4, .i .i64 (9 * (j : Int)))]) (fun _ => []) (fun j => [(1, some ⟨9, .str, upL (bytesL p) j, true⟩)]) (fun j => j ≤ 10) (fun j => 10 - j) 0 (by decide) (by (refine ⟨?_, rfl, ?_, ?_, ?_, rfl⟩ <;> repeat' (first | exact trivial | (refine ⟨rfl, ?_⟩) | fail))) ?_
    intro j hj
    have hul := up_len (bytesL p) j
    have hmn : 9 * j < 90 → (if ((90 - 9 * j : Nat) : Int) < 9 then ((90 - 9 * j : Nat) : Int) else 9) = 9 := fun h => by split <;> omega
    have hw : j < 10 → IntKind.i64.wrap (9 * (j : Int) + 9) = 9 * (j : Int) + 9 := fun h => wrap64 (by omega) (by omega)
    have ht1 : (9 * (j : Int)).toNat = 9 * j := by omega
    have ht2 : (9 * (j : Int) + 9).toNat = 9 * j + 9 := by omega
    refine (vs.kin hk2).go rfl ?_
    repeat' (first | exact Bool.noConfusion ‹(!true) = true› | exact Bool.noConfusion ‹(!false) = false› | (intro h; exact h) | (intro h; rw [h]; rfl) | (intro h1 h2; rw [h1, h2]; rfl) | (intro _; assumption) | (intro _; exact rfl) | (intro h; exact Bool.noConfusion (h.symm.trans ‹_ = false›)) | refine ⟨fun _ => ?_, fun _ => ?_⟩ | refine ⟨?_⟩ | refine ⟨?_, ?_⟩ | fail)
    all_goals first | exact trivial | exact rfl | skip
    rotate_right 9
    · rw [hul]; show (_ : Nat) ≤ _; omega
    · have := hok.s; dsimp only at this; omega
    · have := hok.s; dsimp only at this; show side < 2; omega
    all_goals first | (have hlt : j < 10 := (by have h := of_decide_eq_true ‹decide (9 * (j : Int) < _) = true›; rw [show ({ T := 5, k := EK.byte, l := bytesL p, own := true } : Row).l = bytesL p from rfl, hbl] at h; omega); try rw [hbl]; try rw [ht1]; try rw [hmn (show 9 * j < 90 by omega)]; try rw [hw hlt]; try rw [ht2]) | (have hge : j = 10 := (by have h := of_decide_eq_false ‹decide (9 * (j : Int) < _) = false›; rw [show ({ T := 5, k := EK.byte, l := bytesL p, own := true } : Row).l = bytesL p from rfl, hbl] at h; omega); subst hge)
    · rw [up_rev]; exact board_lj hcb hbl
    · have := hok.k; dsimp only at this; exact ⟨by omega, by omega, trivial⟩
    · have := hok.f; dsimp only at this; exact ⟨by omega, by omega, trivial⟩
    · rw [up_rev, board_join hcb]
      have hsd : (([⟨#[119]⟩, ⟨#[98]⟩] : List ByteArray).getD side.toNat ByteArray.empty) = bytesOf (sdL side) := by rcases hok.s with h | h <;> (dsimp only at h; subst h; rfl)
      have := (print_join hok).2
      dsimp only at this ⊢
      rw [show ([⟨#[119]⟩, ⟨#[98]⟩] : List ByteArray).getD side.toNat EK.str.dflt = _ from hsd]; exact this
    · rw [up_rev, board_join hcb]
      have hsd : (([⟨#[119]⟩, ⟨#[98]⟩] : List ByteArray).getD side.toNat ByteArray.empty) = bytesOf (sdL side) := by rcases hok.s with h | h <;> (dsimp only at h; subst h; rfl)
      have := (print_join hok).1
      dsimp only at this ⊢
      rw [show ([⟨#[119]⟩, ⟨#[98]⟩] : List ByteArray).getD side.toNat EK.str.dflt = _ from hsd, this, hPr]; exact chk_s rfl
    · rw [hPr]; exact chk_i rfl
    · show (9 : Int) * j ≤ ((90 : Nat) : Int); omega
    · omega
    · show (9 : Int) * j + 9 ≤ ((90 : Nat) : Int); omega
    · omega
    · omega
    · refine trOps_none rfl (yield_one false hI rfl rfl rfl rfl ?_)
      intro c3 hk3
      refine ((vs.kin hk2).kin hk3).go rfl ?_
      repeat' (first | exact Bool.noConfusion ‹(!true) = true› | exact Bool.noConfusion ‹(!false) = false› | (intro h; exact h) | (intro h; rw [h]; rfl) | (intro h1 h2; rw [h1, h2]; rfl) | (intro _; assumption) | (intro _; exact rfl) | (intro h; exact Bool.noConfusion (h.symm.trans ‹_ = false›)) | refine ⟨fun _ => ?_, fun _ => ?_⟩ | refine ⟨?_⟩ | refine ⟨?_, ?_⟩ | fail)
      refine ((vs.kin hk2).kin hk3).go rfl ?_
      repeat' (first | exact Bool.noConfusion ‹(!true) = true› | exact Bool.noConfusion ‹(!false) = false› | (intro h; exact h) | (intro h; rw [h]; rfl) | (intro h1 h2; rw [h1, h2]; rfl) | (intro _; assumption) | (intro _; exact rfl) | (intro h; exact Bool.noConfusion (h.symm.trans ‹_ = false›)) | refine ⟨fun _ => ?_, fun _ => ?_⟩ | refine ⟨?_⟩ | refine ⟨?_, ?_⟩ | fail)
      all_goals first | exact trivial | exact rfl | skip
      refine Tr_nilBox 5 (.int .u8) 4 1 rfl rfl (by decide) ?_
      refine Tr_loopH (α := Nat × List Int) (fun x => [(6, .view 0 (9 * j + x.1) (9 * j + 9) false)]) (fun x => [(4, some ⟨53, [fr4 x.1, .row 2], true⟩)]) (fun x => [(2, some ⟨5, .int .u8, x.2, true⟩)])
        (fun x => FInv (bytesL p) j x.1 x.2) (fun x => 9 - x.1) (0, []) (FInv.start _ _) (by (refine ⟨?_, rfl, ?_, ?_, ?_, rfl⟩ <;> repeat' (first | exact trivial | (refine ⟨rfl, ?_⟩) | fail))) ?_
      rintro ⟨m, acc⟩ hf
      dsimp only at hf
      have hm9 := hf.hi; have hal := hf.len
      have hrl := rest_len hbl hlt hm9
      have hcl : cutL (9 * j + m) (9 * j + 9) (bytesL p) = rest (bytesL p) j m := rfl
      rcases m with _ | m
      · have vs3 := vs.kin hk2
        have vs := (vs.kin hk2).kin hk3
        dsimp only
        refine vs.go rfl ?_
        repeat' (first | exact Bool.noConfusion ‹(!true) = true› | exact Bool.noConfusion ‹(!false) = false› | (intro h; exact h) | (intro h; rw [h]; rfl) | (intro h1 h2; rw [h1, h2]; rfl) | (intro _; assumption) | (intro _; exact rfl) | (intro h; exact Bool.noConfusion (h.symm.trans ‹_ = false›)) | refine ⟨fun _ => ?_, fun _ => ?_⟩ | refine ⟨?_⟩ | refine ⟨?_, ?_⟩ | fail)
        all_goals first | exact trivial | exact rfl | exact hf.by_ | (show (upL (bytesL p) j).length + 1 ≤ _; rw [hul]; omega) | (show ((upL (bytesL p) j).length + 1) * 16 ≤ _; rw [hul]; omega) | skip
        · show (rest (bytesL p) j (0)).length ≤ 2000000000; rw [hrl]; omega
        · exact ⟨by omega, by omega, trivial⟩
        · skip
          refine trOps_none rfl (inl_one false hS.seat.tt rfl rfl Tryz.func25 rfl rfl ?_)
          intro cI hkI hrI
          refine (vs.kin hkI).go rfl ?_
          repeat' (first | exact Bool.noConfusion ‹(!true) = true› | exact Bool.noConfusion ‹(!false) = false› | (intro h; exact h) | (intro h; rw [h]; rfl) | (intro h1 h2; rw [h1, h2]; rfl) | (intro _; assumption) | (intro _; exact rfl) | (intro h; exact Bool.noConfusion (h.symm.trans ‹_ = false›)) | refine ⟨fun _ => ?_, fun _ => ?_⟩ | refine ⟨?_⟩ | refine ⟨?_, ?_⟩ | fail)
          refine trOps_none rfl (tr_copyCheck cc_law rfl Tryz.func53 rfl rfl rfl rfl (by first | exact .inl rfl | exact .inr rfl) ?_)
          refine (vs.kin hkI).on ?_
          repeat' (first | exact Bool.noConfusion ‹(!true) = true› | exact Bool.noConfusion ‹(!false) = false› | (intro h; exact h) | (intro h; rw [h]; rfl) | (intro h1 h2; rw [h1, h2]; rfl) | (intro _; assumption) | (intro _; exact rfl) | (intro h; exact Bool.noConfusion (h.symm.trans ‹_ = false›)) | refine ⟨fun _ => ?_, fun _ => ?_⟩ | refine ⟨?_⟩ | refine ⟨?_, ?_⟩ | fail)
          · rw [itoa_one (by omega) (by omega)]; omega
          have hv : spIdx nd (rest (bytesL p) j (0)) < 0 := of_decide_eq_true ‹decide (spIdx nd (cutL (9 * j + (0)) (9 * j + 9) (bytesL p)) < 0) = true›
          have hm0 : ((9 * j + 9 - (9 * j + (0)) : Nat) : Int) > 0 := of_decide_eq_true ‹decide (((9 * j + 9 - (9 * j + (0)) : Nat) : Int) > 0) = true›
          have hs := hf.neg hbl hlt (by omega) hv
          have e1 : 9 * j + 9 - (9 * j + (0)) = 9 - (0) := by omega
          refine vs.on ?_
          repeat' (first | exact Bool.noConfusion ‹(!true) = true› | exact Bool.noConfusion ‹(!false) = false› | (intro h; exact h) | (intro h; rw [h]; rfl) | (intro h1 h2; rw [h1, h2]; rfl) | (intro _; assumption) | (intro _; exact rfl) | (intro h; exact Bool.noConfusion (h.symm.trans ‹_ = false›)) | refine ⟨fun _ => ?_, fun _ => ?_⟩ | refine ⟨?_⟩ | refine ⟨?_, ?_⟩ | fail)
          all_goals first | exact trivial | exact rfl | skip
          · exact Int.le_refl _
          refine Again.mk (9, acc ++ digL ((9 - (0) : Nat) : Int)) hs (by show 9 - 9 < 9 - (0); omega) ?_
          rw [e1, itoa_list (by omega), Int.toNat_natCast, show 9 * j + (0) + (9 - (0)) = 9 * j + 9 by omega]
          (refine ⟨?_, rfl, ?_, ?_, ?_, rfl⟩ <;> repeat' (first | exact trivial | (refine ⟨rfl, ?_⟩) | fail))
        · have hv : ¬ spIdx nd (rest (bytesL p) j (0)) < 0 := of_decide_eq_false ‹decide (spIdx nd (cutL (9 * j + (0)) (9 * j + 9) (bytesL p)) < 0) = false›
          obtain ⟨k, hk1, hk2⟩ := idx_nat hv
          rw [hrl] at hk2
          show I64 (spIdx nd (rest (bytesL p) j (0)))
          rw [hk1]
          exact ⟨by show _ ≤ (k : Int); omega, by show (k : Int) ≤ _; omega, trivial⟩
        · skip
          have hv0 : ¬ spIdx nd (rest (bytesL p) j (0)) < 0 := of_decide_eq_false ‹decide (spIdx nd (cutL (9 * j + (0)) (9 * j + 9) (bytesL p)) < 0) = false›
          have hv1 : spIdx nd (rest (bytesL p) j (0)) > 0 := of_decide_eq_true ‹decide (spIdx nd (cutL (9 * j + (0)) (9 * j + 9) (bytesL p)) > 0) = true›
          have hm0 : ((9 * j + 9 - (9 * j + (0)) : Nat) : Int) > 0 := of_decide_eq_true ‹decide (((9 * j + 9 - (9 * j + (0)) : Nat) : Int) > 0) = true›
          obtain ⟨k, hk1, hk2⟩ := idx_nat hv0
          rw [hk1] at hv1
          have hkp : 0 < k := Int.ofNat_lt.1 hv1
          obtain ⟨k, rfl⟩ : ∃ k', k = k' + 1 := ⟨k - 1, by omega⟩
          obtain ⟨hk3, hs⟩ := hf.pos hbl hlt (by omega) hkp hk1
          have hkc : spIdx nd (cutL (9 * j + (0)) (9 * j + 9) (bytesL p)) = ((k + 1 : Nat) : Int) := hk1
          rw [hkc]
          refine trOps_none rfl (inl_one false hS.seat.tt rfl rfl Tryz.func25 rfl rfl ?_)
          intro cI hkI hrI
          refine (vs.kin hkI).go rfl ?_
          repeat' (first | exact Bool.noConfusion ‹(!true) = true› | exact Bool.noConfusion ‹(!false) = false› | (intro h; exact h) | (intro h; rw [h]; rfl) | (intro h1 h2; rw [h1, h2]; rfl) | (intro _; assumption) | (intro _; exact rfl) | (intro h; exact Bool.noConfusion (h.symm.trans ‹_ = false›)) | refine ⟨fun _ => ?_, fun _ => ?_⟩ | refine ⟨?_⟩ | refine ⟨?_, ?_⟩ | fail)
          refine trOps_none rfl (tr_copyCheck cc_law rfl Tryz.func53 rfl rfl rfl rfl (by first | exact .inl rfl | exact .inr rfl) ?_)
          refine (vs.kin hkI).on ?_
          repeat' (first | exact Bool.noConfusion ‹(!true) = true› | exact Bool.noConfusion ‹(!false) = false› | (intro h; exact h) | (intro h; rw [h]; rfl) | (intro h1 h2; rw [h1, h2]; rfl) | (intro _; assumption) | (intro _; exact rfl) | (intro h; exact Bool.noConfusion (h.symm.trans ‹_ = false›)) | refine ⟨fun _ => ?_, fun _ => ?_⟩ | refine ⟨?_⟩ | refine ⟨?_, ?_⟩ | fail)
          · rw [itoa_one (by omega) (by omega)]; omega
          refine vs.on ?_
          repeat' (first | exact Bool.noConfusion ‹(!true) = true› | exact Bool.noConfusion ‹(!false) = false› | (intro h; exact h) | (intro h; rw [h]; rfl) | (intro h1 h2; rw [h1, h2]; rfl) | (intro _; assumption) | (intro _; exact rfl) | (intro h; exact Bool.noConfusion (h.symm.trans ‹_ = false›)) | refine ⟨fun _ => ?_, fun _ => ?_⟩ | refine ⟨?_⟩ | refine ⟨?_, ?_⟩ | fail)
          all_goals first | exact trivial | exact rfl | skip
          · omega
          refine Again.mk ((0) + (k + 1), acc ++ digL ((k + 1 : Nat) : Int)) hs (by show 9 - ((0) + (k + 1)) < 9 - (0); omega) ?_
          rw [itoa_list (by omega), Int.toNat_natCast, show 9 * j + (0) + (k + 1) = 9 * j + ((0) + (k + 1)) by omega]
          (refine ⟨?_, rfl, ?_, ?_, ?_, rfl⟩ <;> repeat' (first | exact trivial | (refine ⟨rfl, ?_⟩) | fail))
        · have hm0 := of_decide_eq_true ‹decide (((9 * j + 9 - (9 * j + (0)) : Nat) : Int) > 0) = true›
          exact hm0
        · skip
          have hv0 : ¬ spIdx nd (rest (bytesL p) j (0)) < 0 := of_decide_eq_false ‹decide (spIdx nd (cutL (9 * j + (0)) (9 * j + 9) (bytesL p)) < 0) = false›
          have hv1 : ¬ spIdx nd (rest (bytesL p) j (0)) > 0 := of_decide_eq_false ‹decide (spIdx nd (cutL (9 * j + (0)) (9 * j + 9) (bytesL p)) > 0) = false›
          have hm0 : ((9 * j + 9 - (9 * j + (0)) : Nat) : Int) > 0 := of_decide_eq_true ‹decide (((9 * j + 9 - (9 * j + (0)) : Nat) : Int) > 0) = true›
          have hs := hf.zero hbl (fun x hx => bytesL_bound p x hx) hlt (by omega) (by omega)
          refine trOps_none rfl (inl_one false hS.seat.tt rfl rfl Tryz.func27 rfl rfl ?_)
          intro cI hkI hrI
          refine (vs.kin hkI).go rfl ?_
          repeat' (first | exact Bool.noConfusion ‹(!true) = true› | exact Bool.noConfusion ‹(!false) = false› | (intro h; exact h) | (intro h; rw [h]; rfl) | (intro h1 h2; rw [h1, h2]; rfl) | (intro _; assumption) | (intro _; exact rfl) | (intro h; exact Bool.noConfusion (h.symm.trans ‹_ = false›)) | refine ⟨fun _ => ?_, fun _ => ?_⟩ | refine ⟨?_⟩ | refine ⟨?_, ?_⟩ | fail)
          refine trOps_none rfl (tr_copyCheck cc_law rfl Tryz.func53 rfl rfl rfl rfl (by first | exact .inl rfl | exact .inr rfl) ?_)
          refine (vs.kin hkI).on ?_
          repeat' (first | exact Bool.noConfusion ‹(!true) = true› | exact Bool.noConfusion ‹(!false) = false› | (intro h; exact h) | (intro h; rw [h]; rfl) | (intro h1 h2; rw [h1, h2]; rfl) | (intro _; assumption) | (intro _; exact rfl) | (intro h; exact Bool.noConfusion (h.symm.trans ‹_ = false›)) | refine ⟨fun _ => ?_, fun _ => ?_⟩ | refine ⟨?_⟩ | refine ⟨?_, ?_⟩ | fail)
          · show acc.length + 1 ≤ _; omega
          · show (acc.length + 1) * 1 ≤ _; omega
          refine vs.on ?_
          repeat' (first | exact Bool.noConfusion ‹(!true) = true› | exact Bool.noConfusion ‹(!false) = false› | (intro h; exact h) | (intro h; rw [h]; rfl) | (intro h1 h2; rw [h1, h2]; rfl) | (intro _; assumption) | (intro _; exact rfl) | (intro h; exact Bool.noConfusion (h.symm.trans ‹_ = false›)) | refine ⟨fun _ => ?_, fun _ => ?_⟩ | refine ⟨?_⟩ | refine ⟨?_, ?_⟩ | fail)
          all_goals first | exact trivial | exact rfl | skip
          · exact hm0
          refine Again.mk ((0) + 1, acc ++ [(bytesL p).getD (9 * j + (0)) 0]) hs (by show 9 - ((0) + 1) < 9 - (0); omega) ?_
          (refine ⟨?_, rfl, ?_, ?_, ?_, rfl⟩ <;> repeat' (first | exact trivial | (refine ⟨rfl, ?_⟩) | fail))
        · have hm0 : ¬ ((9 * j + 9 - (9 * j + (0)) : Nat) : Int) > 0 := of_decide_eq_false ‹decide (((9 * j + 9 - (9 * j + (0)) : Nat) : Int) > 0) = false›
          have hm8 : 0 = 9 := by omega
          rw [hm8] at hf
          have hd := hf.done
          refine vs3.on ?_
          repeat' (first | exact Bool.noConfusion ‹(!true) = true› | exact Bool.noConfusion ‹(!false) = false› | (intro h; exact h) | (intro h; rw [h]; rfl) | (intro h1 h2; rw [h1, h2]; rfl) | (intro _; assumption) | (intro _; exact rfl) | (intro h; exact Bool.noConfusion (h.symm.trans ‹_ = false›)) | refine ⟨fun _ => ?_, fun _ => ?_⟩ | refine ⟨?_⟩ | refine ⟨?_, ?_⟩ | fail)
          refine Again.mk (j + 1) (by omega) (by omega) ?_
          rw [hd, hw hlt, ← up_next, show 9 * ((j + 1 : Nat) : Int) = 9 * (j : Int) + 9 by omega]
          (refine ⟨?_, rfl, ?_, ?_, ?_, rfl⟩ <;> repeat' (first | exact trivial | (refine ⟨rfl, ?_⟩) | fail))
      · have vs3 := vs.kin hk2
        have vs := (vs.kin hk2).kin hk3
        dsimp only
        refine vs.go rfl ?_
        repeat' (first | exact Bool.noConfusion ‹(!true) = true› | exact Bool.noConfusion ‹(!false) = false› | (intro h; exact h) | (intro h; rw [h]; rfl) | (intro h1 h2; rw [h1, h2]; rfl) | (intro _; assumption) | (intro _; exact rfl) | (intro h; exact Bool.noConfusion (h.symm.trans ‹_ = false›)) | refine ⟨fun _ => ?_, fun _ => ?_⟩ | refine ⟨?_⟩ | refine ⟨?_, ?_⟩ | fail)
        all_goals first | exact trivial | exact rfl | exact hf.by_ | (show (upL (bytesL p) j).length + 1 ≤ _; rw [hul]; omega) | (show ((upL (bytesL p) j).length + 1) * 16 ≤ _; rw [hul]; omega) | skip
        · show (rest (bytesL p) j ((m + 1))).length ≤ 2000000000; rw [hrl]; omega
        · exact ⟨by omega, by omega, trivial⟩
        · skip
          refine trOps_none rfl (inl_one false hS.seat.tt rfl rfl Tryz.func25 rfl rfl ?_)
          intro cI hkI hrI
          refine (vs.kin hkI).go rfl ?_
          repeat' (first | exact Bool.noConfusion ‹(!true) = true› | exact Bool.noConfusion ‹(!false) = false› | (intro h; exact h) | (intro h; rw [h]; rfl) | (intro h1 h2; rw [h1, h2]; rfl) | (intro _; assumption) | (intro _; exact rfl) | (intro h; exact Bool.noConfusion (h.symm.trans ‹_ = false›)) | refine ⟨fun _ => ?_, fun _ => ?_⟩ | refine ⟨?_⟩ | refine ⟨?_, ?_⟩ | fail)
          refine trOps_none rfl (tr_copyCheck cc_law rfl Tryz.func53 rfl rfl rfl rfl (by first | exact .inl rfl | exact .inr rfl) ?_)
          refine (vs.kin hkI).on ?_
          repeat' (first | exact Bool.noConfusion ‹(!true) = true› | exact Bool.noConfusion ‹(!false) = false› | (intro h; exact h) | (intro h; rw [h]; rfl) | (intro h1 h2; rw [h1, h2]; rfl) | (intro _; assumption) | (intro _; exact rfl) | (intro h; exact Bool.noConfusion (h.symm.trans ‹_ = false›)) | refine ⟨fun _ => ?_, fun _ => ?_⟩ | refine ⟨?_⟩ | refine ⟨?_, ?_⟩ | fail)
          · rw [itoa_one (by omega) (by omega)]; omega
          have hv : spIdx nd (rest (bytesL p) j ((m + 1))) < 0 := of_decide_eq_true ‹decide (spIdx nd (cutL (9 * j + ((m + 1))) (9 * j + 9) (bytesL p)) < 0) = true›
          have hm0 : ((9 * j + 9 - (9 * j + ((m + 1))) : Nat) : Int) > 0 := of_decide_eq_true ‹decide (((9 * j + 9 - (9 * j + ((m + 1))) : Nat) : Int) > 0) = true›
          have hs := hf.neg hbl hlt (by omega) hv
          have e1 : 9 * j + 9 - (9 * j + ((m + 1))) = 9 - ((m + 1)) := by omega
          refine vs.on ?_
          repeat' (first | exact Bool.noConfusion ‹(!true) = true› | exact Bool.noConfusion ‹(!false) = false› | (intro h; exact h) | (intro h; rw [h]; rfl) | (intro h1 h2; rw [h1, h2]; rfl) | (intro _; assumption) | (intro _; exact rfl) | (intro h; exact Bool.noConfusion (h.symm.trans ‹_ = false›)) | refine ⟨fun _ => ?_, fun _ => ?_⟩ | refine ⟨?_⟩ | refine ⟨?_, ?_⟩ | fail)
          all_goals first | exact trivial | exact rfl | skip
          · exact Int.le_refl _
          refine Again.mk (9, acc ++ digL ((9 - ((m + 1)) : Nat) : Int)) hs (by show 9 - 9 < 9 - ((m + 1)); omega) ?_
          rw [e1, itoa_list (by omega), Int.toNat_natCast, show 9 * j + ((m + 1)) + (9 - ((m + 1))) = 9 * j + 9 by omega]
          (refine ⟨?_, rfl, ?_, ?_, ?_, rfl⟩ <;> repeat' (first | exact trivial | (refine ⟨rfl, ?_⟩) | fail))
        · have hv : ¬ spIdx nd (rest (bytesL p) j ((m + 1))) < 0 := of_decide_eq_false ‹decide (spIdx nd (cutL (9 * j + ((m + 1))) (9 * j + 9) (bytesL p)) < 0) = false›
          obtain ⟨k, hk1, hk2⟩ := idx_nat hv
          rw [hrl] at hk2
          show I64 (spIdx nd (rest (bytesL p) j ((m + 1))))
          rw [hk1]
          exact ⟨by show _ ≤ (k : Int); omega, by show (k : Int) ≤ _; omega, trivial⟩
        · skip
          have hv0 : ¬ spIdx nd (rest (bytesL p) j ((m + 1))) < 0 := of_decide_eq_false ‹decide (spIdx nd (cutL (9 * j + ((m + 1))) (9 * j + 9) (bytesL p)) < 0) = false›
          have hv1 : spIdx nd (rest (bytesL p) j ((m + 1))) > 0 := of_decide_eq_true ‹decide (spIdx nd (cutL (9 * j + ((m + 1))) (9 * j + 9) (bytesL p)) > 0) = true›
          have hm0 : ((9 * j + 9 - (9 * j + ((m + 1))) : Nat) : Int) > 0 := of_decide_eq_true ‹decide (((9 * j + 9 - (9 * j + ((m + 1))) : Nat) : Int) > 0) = true›
          obtain ⟨k, hk1, hk2⟩ := idx_nat hv0
          rw [hk1] at hv1
          have hkp : 0 < k := Int.ofNat_lt.1 hv1
          obtain ⟨k, rfl⟩ : ∃ k', k = k' + 1 := ⟨k - 1, by omega⟩
          obtain ⟨hk3, hs⟩ := hf.pos hbl hlt (by omega) hkp hk1
          have hkc : spIdx nd (cutL (9 * j + ((m + 1))) (9 * j + 9) (bytesL p)) = ((k + 1 : Nat) : Int) := hk1
          rw [hkc]
          refine trOps_none rfl (inl_one false hS.seat.tt rfl rfl Tryz.func25 rfl rfl ?_)
          intro cI hkI hrI
          refine (vs.kin hkI).go rfl ?_
          repeat' (first | exact Bool.noConfusion ‹(!true) = true› | exact Bool.noConfusion ‹(!false) = false› | (intro h; exact h) | (intro h; rw [h]; rfl) | (intro h1 h2; rw [h1, h2]; rfl) | (intro _; assumption) | (intro _; exact rfl) | (intro h; exact Bool.noConfusion (h.symm.trans ‹_ = false›)) | refine ⟨fun _ => ?_, fun _ => ?_⟩ | refine ⟨?_⟩ | refine ⟨?_, ?_⟩ | fail)
          refine trOps_none rfl (tr_copyCheck cc_law rfl Tryz.func53 rfl rfl rfl rfl (by first | exact .inl rfl | exact .inr rfl) ?_)
          refine (vs.kin hkI).on ?_
          repeat' (first | exact Bool.noConfusion ‹(!true) = true› | exact Bool.noConfusion ‹(!false) = false› | (intro h; exact h) | (intro h; rw [h]; rfl) | (intro h1 h2; rw [h1, h2]; rfl) | (intro _; assumption) | (intro _; exact rfl) | (intro h; exact Bool.noConfusion (h.symm.trans ‹_ = false›)) | refine ⟨fun _ => ?_, fun _ => ?_⟩ | refine ⟨?_⟩ | refine ⟨?_, ?_⟩ | fail)
          · rw [itoa_one (by omega) (by omega)]; omega
          refine vs.on ?_
          repeat' (first | exact Bool.noConfusion ‹(!true) = true› | exact Bool.noConfusion ‹(!false) = false› | (intro h; exact h) | (intro h; rw [h]; rfl) | (intro h1 h2; rw [h1, h2]; rfl) | (intro _; assumption) | (intro _; exact rfl) | (intro h; exact Bool.noConfusion (h.symm.trans ‹_ = false›)) | refine ⟨fun _ => ?_, fun _ => ?_⟩ | refine ⟨?_⟩ | refine ⟨?_, ?_⟩ | fail)
          all_goals first | exact trivial | exact rfl | skip
          · omega
          refine Again.mk (((m + 1)) + (k + 1), acc ++ digL ((k + 1 : Nat) : Int)) hs (by show 9 - (((m + 1)) + (k + 1)) < 9 - ((m + 1)); omega) ?_
          rw [itoa_list (by omega), Int.toNat_natCast, show 9 * j + ((m + 1)) + (k + 1) = 9 * j + (((m + 1)) + (k + 1)) by omega]
          (refine ⟨?_, rfl, ?_, ?_, ?_, rfl⟩ <;> repeat' (first | exact trivial | (refine ⟨rfl, ?_⟩) | fail))
        · have hm0 := of_decide_eq_true ‹decide (((9 * j + 9 - (9 * j + ((m + 1))) : Nat) : Int) > 0) = true›
          exact hm0
        · skip
          have hv0 : ¬ spIdx nd (rest (bytesL p) j ((m + 1))) < 0 := of_decide_eq_false ‹decide (spIdx nd (cutL (9 * j + ((m + 1))) (9 * j + 9) (bytesL p)) < 0) = false›
          have hv1 : ¬ spIdx nd (rest (bytesL p) j ((m + 1))) > 0 := of_decide_eq_false ‹decide (spIdx nd (cutL (9 * j + ((m + 1))) (9 * j + 9) (bytesL p)) > 0) = false›
          have hm0 : ((9 * j + 9 - (9 * j + ((m + 1))) : Nat) : Int) > 0 := of_decide_eq_true ‹decide (((9 * j + 9 - (9 * j + ((m + 1))) : Nat) : Int) > 0) = true›
          have hs := hf.zero hbl (fun x hx => bytesL_bound p x hx) hlt (by omega) (by omega)
          refine trOps_none rfl (inl_one false hS.seat.tt rfl rfl Tryz.func27 rfl rfl ?_)
          intro cI hkI hrI
          refine (vs.kin hkI).go rfl ?_
          repeat' (first | exact Bool.noConfusion ‹(!true) = true› | exact Bool.noConfusion ‹(!false) = false› | (intro h; exact h) | (intro h; rw [h]; rfl) | (intro h1 h2; rw [h1, h2]; rfl) | (intro _; assumption) | (intro _; exact rfl) | (intro h; exact Bool.noConfusion (h.symm.trans ‹_ = false›)) | refine ⟨fun _ => ?_, fun _ => ?_⟩ | refine ⟨?_⟩ | refine ⟨?_, ?_⟩ | fail)
          refine trOps_none rfl (tr_copyCheck cc_law rfl Tryz.func53 rfl rfl rfl rfl (by first | exact .inl rfl | exact .inr rfl) ?_)
          refine (vs.kin hkI).on ?_
          repeat' (first | exact Bool.noConfusion ‹(!true) = true› | exact Bool.noConfusion ‹(!false) = false› | (intro h; exact h) | (intro h; rw [h]; rfl) | (intro h1 h2; rw [h1, h2]; rfl) | (intro _; assumption) | (intro _; exact rfl) | (intro h; exact Bool.noConfusion (h.symm.trans ‹_ = false›)) | refine ⟨fun _ => ?_, fun _ => ?_⟩ | refine ⟨?_⟩ | refine ⟨?_, ?_⟩ | fail)
          · show acc.length + 1 ≤ _; omega
          · show (acc.length + 1) * 1 ≤ _; omega
          refine vs.on ?_
          repeat' (first | exact Bool.noConfusion ‹(!true) = true› | exact Bool.noConfusion ‹(!false) = false› | (intro h; exact h) | (intro h; rw [h]; rfl) | (intro h1 h2; rw [h1, h2]; rfl) | (intro _; assumption) | (intro _; exact rfl) | (intro h; exact Bool.noConfusion (h.symm.trans ‹_ = false›)) | refine ⟨fun _ => ?_, fun _ => ?_⟩ | refine ⟨?_⟩ | refine ⟨?_, ?_⟩ | fail)
          all_goals first | exact trivial | exact rfl | skip
          · exact hm0
          refine Again.mk (((m + 1)) + 1, acc ++ [(bytesL p).getD (9 * j + ((m + 1))) 0]) hs (by show 9 - (((m + 1)) + 1) < 9 - ((m + 1)); omega) ?_
          (refine ⟨?_, rfl, ?_, ?_, ?_, rfl⟩ <;> repeat' (first | exact trivial | (refine ⟨rfl, ?_⟩) | fail))
        · have hm0 : ¬ ((9 * j + 9 - (9 * j + ((m + 1))) : Nat) : Int) > 0 := of_decide_eq_false ‹decide (((9 * j + 9 - (9 * j + ((m + 1))) : Nat) : Int) > 0) = false›
          have hm8 : (m + 1) = 9 := by omega
          rw [hm8] at hf
          have hd := hf.done
          refine vs3.on ?_
          repeat' (first | exact Bool.noConfusion ‹(!true) = true› | exact Bool.noConfusion ‹(!false) = false› | (intro h; exact h) | (intro h; rw [h]; rfl) | (intro h1 h2; rw [h1, h2]; rfl) | (intro _; assumption) | (intro _; exact rfl) | (intro h; exact Bool.noConfusion (h.symm.trans ‹_ = false›)) | refine ⟨fun _ => ?_, fun _ => ?_⟩ | refine ⟨?_⟩ | refine ⟨?_, ?_⟩ | fail)
          refine Again.mk (j + 1) (by omega) (by omega) ?_
          rw [hd, hw hlt, ← up_next, show 9 * ((j + 1 : Nat) : Int) = 9 * (j : Int) + 9 by omega]
          (refine ⟨?_, rfl, ?_, ?_, ?_, rfl⟩ <;> repeat' (first | exact trivial | (refine ⟨rfl, ?_⟩) | fail))
  · cases hcr
end
end Go.X

namespace Go.X
open Go Go.Proofs

structure Lv : Prop where
  a : parseP tA = ((startP, 0, 0, 1), 0)
  b : (parseP tB4).2 = 6
  c : (parseP tC4).2 = 3
  d : printP (startP, 0, 0, 1) = (bytesOf outL, 0)
  e : (printP (ByteArray.empty, 0, 0, 0)).2 = 1
theorem lv : Lv := ⟨parse_A, parse_B, parse_C, print_A, print_E⟩
noncomputable def cParseV : Con
  | [.a (.s s)] => some ⟨[TZ4 s], .tup [aggP (veil (parseP s)).1, .a (.i .i64 (veil (parseP s)).2)], [], []⟩
  | _ => none
noncomputable def cPrintV : Con
  | [.agg [.a (.s p), .a (.i .i64 side), .a (.i .i64 clock), .a (.i .i64 full)]] => some ⟨[], .tup [.a (.s (veil (printP (p, side, clock, full))).1), .a (.i .i64 (veil (printP (p, side, clock, full))).2)], [], []⟩
  | _ => none
theorem parseV : cParseV = cParse4 := by
  funext l; unfold cParseV cParse4; split <;> simp only [veil_eq]
theorem printV : cPrintV = cPrint4 := by
  funext l; unfold cPrintV cPrint4; split <;> simp only [veil_eq]
def cLive04 : Con
  | [] => some ⟨[Lv], .a (.b true), [], []⟩
  | _ => none
section
variable {G : Nat → World → Prop}
theorem okParseV (hS : Hyp G) : ConOK Tryz.prog G 11 cParseV := by rw [parseV]; exact okParse4 hS
theorem okPrintV (hS : Hyp G) : ConOK Tryz.prog G 13 cPrintV := by rw [printV]; exact okPrint4 hS
set_option maxHeartbeats 4000000 in
set_option maxRecDepth 20000 in
theorem okLive04 (hS : Hyp G) : ConOK Tryz.prog G 10 cLive04 := by
  refine seat_conT hS.seat [(11, cParseV), (13, cPrintV)] [] ⟨okParseV hS, okPrintV hS, trivial⟩ Tryz.func10 rfl rfl ?_
  intro rvs cr hcr hpre
  unfold cLive04 at hcr
  split at hcr
  · cases hcr
    simp only [List.mem_cons, List.not_mem_nil, or_false, forall_eq_or_imp, forall_eq] at hpre
    refine ⟨⟨rfl, rfl, rfl⟩, fun c hc vs => ?_⟩
    refine vs.go rfl ?_
    repeat' (first | exact Bool.noConfusion ‹(!true) = true› | exact Bool.noConfusion ‹(!false) = false› | (intro h; exact h) | (intro h; rw [h]; rfl) | (intro h1 h2; rw [h1, h2]; rfl) | (intro _; assumption) | (intro _; exact rfl) | (intro h; exact Bool.noConfusion (h.symm.trans ‹_ = false›)) | refine ⟨fun _ => ?_, fun _ => ?_⟩ | refine ⟨?_⟩ | refine ⟨?_, ?_⟩ | fail)
    · exact ⟨by decide, trivial, trivial⟩
    · exact ⟨by decide, trivial, trivial⟩
    · exact ⟨by decide, trivial, trivial⟩
    · refine chk_b ?_
      show (EK.eqb posK ((veil (parseP tA)).1.1, (veil (parseP tA)).1.2.1, (veil (parseP tA)).1.2.2.1, (veil (parseP tA)).1.2.2.2) (startP, 0, 0, 1) && ((veil (parseP tA)).2 == 0) && strEq (veil (printP ((veil (parseP tA)).1.1, (veil (parseP tA)).1.2.1, (veil (parseP tA)).1.2.2.1, (veil (parseP tA)).1.2.2.2))).1 (bytesOf outL) && ((veil (printP ((veil (parseP tA)).1.1, (veil (parseP tA)).1.2.1, (veil (parseP tA)).1.2.2.1, (veil (parseP tA)).1.2.2.2))).2 == 0) && ((veil (parseP tB4)).2 == 6) && ((veil (parseP tC4)).2 == 3) && ((veil (printP (ByteArray.empty, 0, 0, 0))).2 == 1)) = true
      simp only [veil_eq, hpre.a, hpre.b, hpre.c, hpre.d, hpre.e]
      rw [(pos_eqb _ _).2 rfl, (strEq_iff _ _).2 rfl]; rfl
    · exact rfl
  · cases hcr
end
end Go.X

namespace Go.X
open Go Go.Proofs

def cCut4 : Con
  | [.a (.s s), .a (.i .u8 c)] => some ⟨[CZ4 s], .row ⟨9, .str, pieces c s, true⟩, [], []⟩
  | _ => none
def cLetter4 : Con
  | [.a (.i .u8 c)] => some ⟨[], .a (.i .u8 (letter4 c)), [], []⟩
  | _ => none
section
variable {G : Nat → World → Prop}
set_option maxHeartbeats 4000000 in
set_option maxRecDepth 20000 in
theorem okLetter4 (hS : Hyp G) : ConOK Tryz.prog G 70 cLetter4 := by
  refine seat_con hS.seat [] [] trivial Tryz.func70 rfl rfl rfl ?_
  intro rvs cr hcr hpre
  unfold cLetter4 at hcr
  split at hcr
  · rename_i c
    cases hcr
    refine ⟨⟨rfl, rfl, rfl⟩, fun c hc vs => ?_⟩
    repeat' (first | exact Bool.noConfusion ‹(!true) = true› | exact Bool.noConfusion ‹(!false) = false› | (intro h; exact h) | (intro h; rw [h]; rfl) | (intro h1 h2; rw [h1, h2]; rfl) | (intro _; assumption) | (intro _; exact rfl) | (intro h; exact Bool.noConfusion (h.symm.trans ‹_ = false›)) | refine ⟨fun _ => ?_, fun _ => ?_⟩ | refine ⟨?_⟩ | refine ⟨?_, ?_⟩ | fail)
    all_goals first | exact rfl | skip
    · exact chk_i (by rw [letter4, if_pos (beqT ‹_›)])
    · rename_i h1 h2; exact chk_i (by rw [letter4, if_neg (beqF h1), if_pos (beqT h2)])
    · rename_i h1 h2 h3; exact chk_i (by rw [letter4, if_neg (beqF h1), if_neg (beqF h2), if_pos (beqT h3)])
    · rename_i h1 h2 h3 h4; exact chk_i (by rw [letter4, if_neg (beqF h1), if_neg (beqF h2), if_neg (beqF h3), if_pos (beqT h4)])
    · rename_i h1 h2 h3 h4; exact chk_i (by rw [letter4, if_neg (beqF h1), if_neg (beqF h2), if_neg (beqF h3), if_neg (beqF h4)])
  · cases hcr
set_option maxHeartbeats 4000000 in
set_option maxRecDepth 20000 in
theorem okCut4 (hS : Hyp G) : ConOK Tryz.prog G 16 cCut4 := by
  refine seat_con hS.seat [] [] trivial Tryz.func16 rfl rfl rfl ?_
  intro rvs cr hcr hpre
  unfold cCut4 at hcr
  split at hcr
  · rename_i s ch
    cases hcr
    simp only [List.mem_cons, List.not_mem_nil, or_false, forall_eq_or_imp, forall_eq] at hpre
    refine ⟨⟨rfl, rfl, rfl⟩, fun c hc vs => ?_⟩
    have hsz := hpre.le
    repeat' (first | exact Bool.noConfusion ‹(!true) = true› | exact Bool.noConfusion ‹(!false) = false› | (intro h; exact h) | (intro h; rw [h]; rfl) | (intro h1 h2; rw [h1, h2]; rfl) | (intro _; assumption) | (intro _; exact rfl) | (intro h; exact Bool.noConfusion (h.symm.trans ‹_ = false›)) | refine ⟨fun _ => ?_, fun _ => ?_⟩ | refine ⟨?_⟩ | refine ⟨?_, ?_⟩ | fail)
    all_goals first | exact rfl | exact trivial | skip
    refine Tr_nilTmp 9 .str 5 rfl (by decide) ?_
    refine Tr_loopH (α := Nat × Nat × List (List Int)) (fun x => [(5, .row 0), (6, .i .i64 (.ofNat x.1)), (7, .i .i64 (.ofNat x.2.1))]) (fun _ => []) (fun x => [(0, some ⟨9, .str, x.2.2.map bytesOf, true⟩)]) (fun x => CutInv ch (bytesL s) x.2.2 x.1 x.2.1) (fun x => (bytesL s).length - x.2.1) (0, 0, []) (CutInv.start _ _) (by (refine ⟨?_, rfl, ?_, ?_, ?_, rfl⟩ <;> repeat' (first | exact trivial | (refine ⟨rfl, ?_⟩) | fail))) ?_
    rintro ⟨j, i, D⟩ hq
    dsimp only at hq
    have h1 := hq.le; have h2 := hq.hi; have h3 := hq.len
    have hlen := bL_len s
    refine vs.go rfl ?_
    repeat' (first | exact Bool.noConfusion ‹(!true) = true› | exact Bool.noConfusion ‹(!false) = false› | (intro h; exact h) | (intro h; rw [h]; rfl) | (intro h1 h2; rw [h1, h2]; rfl) | (intro _; assumption) | (intro _; exact rfl) | (intro h; exact Bool.noConfusion (h.symm.trans ‹_ = false›)) | refine ⟨fun _ => ?_, fun _ => ?_⟩ | refine ⟨?_⟩ | refine ⟨?_, ?_⟩ | fail)
    all_goals first | exact trivial | (refine (?_ : (_ : Int) ≠ _); decide) | exact rfl | skip
    all_goals try dsimp only at *
    all_goals first | exact trivial | exact rfl | skip
    · exact Int.ofNat_lt.2 (ltN ‹decide (Int.ofNat i < _) = true›)
    · exact Int.ofNat_le.2 (by omega)
    · exact Int.ofNat_le.2 h1
    · rw [List.length_map]; show D.length + 1 ≤ _; omega
    · rw [List.length_map]; show (D.length + 1) * 16 ≤ _; omega
    · have hlt : i < s.size := ltN ‹decide (Int.ofNat i < _) = true›
      have hc : (bytesL s).getD i 0 = ch := by rw [bL_at]; exact beqT ‹(byteAt s (Int.ofNat i).toNat == ch) = true›
      refine Again.mk (i + 1, i + 1, D ++ [part (bytesL s) j i]) (hq.cut (by omega) hc) (by show (bytesL s).length - (i + 1) < (bytesL s).length - i; omega) ?_
      have e : s.extract (Int.ofNat j).toNat (Int.ofNat i).toNat = bytesOf (part (bytesL s) j i) := extract_part s h1 (Nat.le_of_lt hlt)
      rw [e, wrapN (by omega)]
      ((refine ⟨?_, rfl, ?_, ?_, ?_, rfl⟩ <;> repeat' (first | exact trivial | (refine ⟨rfl, ?_⟩) | (refine ⟨?_, ?_⟩) | fail)); all_goals first | rfl | (simp (config := { failIfUnchanged := false }) only [List.map_append, List.map_cons, List.map_nil]; done) | (simp [List.map_append, List.map_cons, List.map_nil]; done) | (simp_all [List.map_append, List.map_cons, List.map_nil]; done) | skip)
    · have hlt : i < s.size := ltN ‹decide (Int.ofNat i < _) = true›
      have hc : (bytesL s).getD i 0 ≠ ch := by rw [bL_at]; exact beqF ‹(byteAt s (Int.ofNat i).toNat == ch) = false›
      refine Again.mk (j, i + 1, D) (hq.keep (by omega) hc) (by show (bytesL s).length - (i + 1) < (bytesL s).length - i; omega) ?_
      rw [wrapN (by omega)]
      (refine ⟨?_, rfl, ?_, ?_, ?_, rfl⟩ <;> repeat' (first | exact trivial | (refine ⟨rfl, ?_⟩) | fail))
    · exact Int.ofNat_le.2 (by omega)
    · rw [List.length_map]; show D.length + 1 ≤ _; omega
    · rw [List.length_map]; show (D.length + 1) * 16 ≤ _; omega
    · have hge := geN ‹decide (Int.ofNat i < _) = false›
      have hil : i = (bytesL s).length := by omega
      subst hil
      show (⟨_, _, _, _⟩ : Row) = ⟨_, _, _, _⟩
      rw [← cut_pieces hq]; rfl
  · cases hcr
end
end Go.X

namespace Go.X
open Go Go.Proofs

def cRSide : Con
  | [.a (.i .u8 c)] => some ⟨[BY c], .a (.i .i64 (spSide c)), [], []⟩
  | _ => none
def cRKind : Con
  | [.a (.i .u8 c)] => some ⟨[BY c], .a (.i .u8 (spKind c)), [], []⟩
  | _ => none
section
variable {G : Nat → World → Prop}
set_option maxHeartbeats 4000000 in
set_option maxRecDepth 20000 in
theorem okRSide (hS : Hyp G) : ConOK Tryz.prog G 56 cRSide := by
  refine seat_con hS.seat [] [] trivial Tryz.func56 rfl rfl rfl ?_
  intro rvs cr hcr hpre
  unfold cRSide at hcr
  split at hcr
  · rename_i c0
    cases hcr
    simp only [List.mem_cons, List.not_mem_nil, or_false, forall_eq_or_imp, forall_eq] at hpre
    refine ⟨⟨rfl, rfl, rfl⟩, fun c hc vs => ?_⟩
    have e := side_ite hpre
    repeat' (first | exact Bool.noConfusion ‹(!true) = true› | exact Bool.noConfusion ‹(!false) = false› | (intro h; exact h) | (intro h; rw [h]; rfl) | (intro h1 h2; rw [h1, h2]; rfl) | (intro _; assumption) | (intro _; exact rfl) | (intro h; exact Bool.noConfusion (h.symm.trans ‹_ = false›)) | refine ⟨fun _ => ?_, fun _ => ?_⟩ | refine ⟨?_⟩ | refine ⟨?_, ?_⟩ | fail)
    all_goals first | exact rfl | skip
    all_goals (refine chk_i ?_; rw [e]; simp only [beq_iff_eq, beq_eq_false_iff_ne, ne_eq] at *; first | (rw [if_pos (by omega)]; done) | (rw [if_neg (by omega), if_pos (by omega)]; done) | (rw [if_neg (by omega), if_neg (by omega)]; done) | (exfalso; omega))
  · cases hcr
set_option maxHeartbeats 4000000 in
set_option maxRecDepth 20000 in
theorem okRKind (hS : Hyp G) : ConOK Tryz.prog G 36 cRKind := by
  refine seat_con hS.seat [(56, cRSide)] [] ⟨okRSide hS, trivial⟩ Tryz.func36 rfl rfl rfl ?_
  intro rvs cr hcr hpre
  unfold cRKind at hcr
  split at hcr
  · rename_i c0
    cases hcr
    simp only [List.mem_cons, List.not_mem_nil, or_false, forall_eq_or_imp, forall_eq] at hpre
    refine ⟨⟨rfl, rfl, rfl⟩, fun c hc vs => ?_⟩
    have e := kind_ite hpre
    repeat' (first | exact Bool.noConfusion ‹(!true) = true› | exact Bool.noConfusion ‹(!false) = false› | (intro h; exact h) | (intro h; rw [h]; rfl) | (intro h1 h2; rw [h1, h2]; rfl) | (intro _; assumption) | (intro _; exact rfl) | (intro h; exact Bool.noConfusion (h.symm.trans ‹_ = false›)) | refine ⟨fun _ => ?_, fun _ => ?_⟩ | refine ⟨?_⟩ | refine ⟨?_, ?_⟩ | fail)
    all_goals first | exact hpre | skip
    all_goals first | exact rfl | skip
    · exact chk_i (by rw [e, if_pos (beqT ‹_›)])
    · rename_i h0 h1
      have := side_low hpre (beqT h1)
      exact chk_i (by rw [e, if_neg (beqF h0), if_pos (beqT h1), wrapB (x := c0 - 97) (by omega) (by omega), wrapB (by omega) (by omega)]; omega)
    · rename_i h0 h1
      exact chk_i (by rw [e, if_neg (beqF h0), if_neg (beqF h1)])
  · cases hcr
end
end Go.X

namespace Go.X
open Go Go.Proofs

def cRank4 : Con
  | [.a (.s s)] => some ⟨[CZ4 s], .tup [.a (.s (bytesOf (rankT (bytesL s)))), .a (.b (rankOk (bytesL s)))], [], []⟩
  | _ => none
section
variable {G : Nat → World → Prop}
set_option maxHeartbeats 4000000 in
set_option maxRecDepth 20000 in
theorem okRank4 (hS : Hyp G) : ConOK Tryz.prog G 47 cRank4 := by
  refine seat_con hS.seat [(70, cLetter4), (56, cRSide)] [] ⟨okLetter4 hS, okRSide hS, trivial⟩ Tryz.func47 rfl rfl rfl ?_
  intro rvs cr hcr hpre
  unfold cRank4 at hcr
  split at hcr
  · rename_i s
    cases hcr
    simp only [List.mem_cons, List.not_mem_nil, or_false, forall_eq_or_imp, forall_eq] at hpre
    refine ⟨⟨rfl, rfl, rfl⟩, fun c hc vs => ?_⟩
    have hsz := hpre.le
    repeat' (first | exact Bool.noConfusion ‹(!true) = true› | exact Bool.noConfusion ‹(!false) = false› | (intro h; exact h) | (intro h; rw [h]; rfl) | (intro h1 h2; rw [h1, h2]; rfl) | (intro _; assumption) | (intro _; exact rfl) | (intro h; exact Bool.noConfusion (h.symm.trans ‹_ = false›)) | refine ⟨fun _ => ?_, fun _ => ?_⟩ | refine ⟨?_⟩ | refine ⟨?_, ?_⟩ | fail)
    all_goals first | exact rfl | exact trivial | skip
    refine Tr_loopH (α := Nat × List Int) (fun x => [(4, .s (bytesOf x.2)), (5, .i .i64 (.ofNat x.1))]) (fun _ => []) (fun _ => [])
      (fun x => x.1 ≤ (bytesL s).length ∧ ((bytesL s).take x.1).foldl rstep (some []) = some x.2 ∧ x.2.length ≤ 9 * x.1) (fun x => (bytesL s).length - x.1) (0, []) ⟨Nat.zero_le _, rfl, Nat.le_refl _⟩ (by (refine ⟨?_, rfl, ?_, ?_, ?_, rfl⟩ <;> repeat' (first | exact trivial | (refine ⟨rfl, ?_⟩) | fail))) ?_
    rintro ⟨i, acc⟩ ⟨hi, hq, hl⟩
    dsimp only at hi hq hl
    have hlen := bL_len s
    obtain ⟨b, hbd⟩ : ∃ b, byteAt s (Int.ofNat i).toNat = b := ⟨_, rfl⟩
    have hb0 : (bytesL s).getD i 0 = b := by rw [bL_at]; exact hbd
    have hby : 0 ≤ b ∧ b < 256 := by have := BY.at s (Int.ofNat i).toNat; rw [hbd] at this; exact ⟨this.lo, this.hi⟩
    have hlet := (letter_at hby).2.2
    refine vs.go rfl ?_
    repeat' (first | exact Bool.noConfusion ‹(!true) = true› | exact Bool.noConfusion ‹(!false) = false› | (intro h; exact h) | (intro h; rw [h]; rfl) | (intro h1 h2; rw [h1, h2]; rfl) | (intro _; assumption) | (intro _; exact rfl) | (intro h; exact Bool.noConfusion (h.symm.trans ‹_ = false›)) | refine ⟨fun _ => ?_, fun _ => ?_⟩ | refine ⟨?_⟩ | refine ⟨?_, ?_⟩ | fail)
    all_goals first | exact trivial | (refine (?_ : (_ : Int) ≠ _); decide) | exact rfl | skip
    all_goals try dsimp only at *
    all_goals simp only [hbd] at *
    all_goals first | exact trivial | exact rfl | skip
    rotate_right 2
    · have hil : i = (bytesL s).length := by have := geN ‹decide (Int.ofNat i < _) = false›; omega
      subst hil
      rw [(rank_done hq).1]; exact chk_s rfl
    · have hil : i = (bytesL s).length := by have := geN ‹decide (Int.ofNat i < _) = false›; omega
      subst hil
      rw [(rank_done hq).2]; refine chk_b ?_; rw [size_bytesOf, Bool.eq_iff_iff]; simp only [beq_iff_eq, decide_eq_true_eq]; omega
    all_goals
      have hlt : i < s.size := ltN ‹decide (Int.ofNat i < _) = true›
      have hlt' : i < (bytesL s).length := by omega
    · exact Int.ofNat_lt.2 hlt
    · obtain ⟨h1, h2, h3, h4⟩ := rstep_d (acc := acc) (b := b) rfl ‹(decide (letter4 b ≥ 49) && decide (letter4 b ≤ 57)) = true›
      refine Tr_loopH (α := Nat) (fun k => [(4, .s (bytesOf (acc ++ List.replicate k 46))), (7, .i .i64 (.ofNat k))]) (fun _ => []) (fun _ => []) (fun k => k ≤ (letter4 b - 48).toNat) (fun k => (letter4 b - 48).toNat - k) 0 (Nat.zero_le _) (by ((refine ⟨?_, rfl, ?_, ?_, ?_, rfl⟩ <;> repeat' (first | exact trivial | (refine ⟨rfl, ?_⟩) | (refine ⟨?_, ?_⟩) | fail)); all_goals first | rfl | (simp (config := { failIfUnchanged := false }) only [List.replicate_zero, List.append_nil]; done) | (simp [List.replicate_zero, List.append_nil]; done) | (simp_all [List.replicate_zero, List.append_nil]; done) | skip)) ?_
      intro k hk
      refine vs.go rfl ?_
      repeat' (first | exact Bool.noConfusion ‹(!true) = true› | exact Bool.noConfusion ‹(!false) = false› | (intro h; exact h) | (intro h; rw [h]; rfl) | (intro h1 h2; rw [h1, h2]; rfl) | (intro _; assumption) | (intro _; exact rfl) | (intro h; exact Bool.noConfusion (h.symm.trans ‹_ = false›)) | refine ⟨fun _ => ?_, fun _ => ?_⟩ | refine ⟨?_⟩ | refine ⟨?_, ?_⟩ | fail)
      all_goals first | exact trivial | (refine (?_ : (_ : Int) ≠ _); decide) | exact rfl | skip
      all_goals try dsimp only at *
      all_goals first | exact trivial | exact rfl | skip
      all_goals rw [h2] at *
      · rw [size_bytesOf, List.length_append, List.length_replicate]; show _ + 1 ≤ _; omega
      · have hk' := of_decide_eq_true ‹decide (Int.ofNat k < letter4 b - 48) = true›
        refine Again.mk (k + 1) (by have : (k : Int) < letter4 b - 48 := hk'; omega) (by have : (k : Int) < letter4 b - 48 := hk'; omega) ?_
        rw [bytesOf_dot, rep_next, wrapN (by omega)]
        (refine ⟨?_, rfl, ?_, ?_, ?_, rfl⟩ <;> repeat' (first | exact trivial | (refine ⟨rfl, ?_⟩) | fail))
      · have hk' : ¬ (k : Int) < letter4 b - 48 := of_decide_eq_false ‹decide (Int.ofNat k < letter4 b - 48) = false›
        have hkk : k = (letter4 b - 48).toNat := by omega
        refine Again.mk (i + 1, acc ++ List.replicate k 46) ⟨hlt', rank_next hlt' hq (by rw [hb0, hkk]; exact h1), by simp; omega⟩ (by show (bytesL s).length - (i + 1) < (bytesL s).length - i; omega) ?_
        rw [wrapN (by omega)]
        (refine ⟨?_, rfl, ?_, ?_, ?_, rfl⟩ <;> repeat' (first | exact trivial | (refine ⟨rfl, ?_⟩) | fail))
    · exact ⟨hlet.1, hlet.2, trivial⟩
    · rw [size_bytesOf]; show _ + 1 ≤ _; omega
    · have h1 := rstep_p (acc := acc) (b := b) rfl ‹(decide (letter4 b ≥ 49) && decide (letter4 b ≤ 57)) = false› ‹decide (spSide (letter4 b) ≥ 0) = true›
      refine Again.mk (i + 1, acc ++ [letter4 b]) ⟨hlt', rank_next hlt' hq (by rw [hb0]; exact h1), by simp; omega⟩ (by show (bytesL s).length - (i + 1) < (bytesL s).length - i; omega) ?_
      rw [← bytesOf_app, wrapN (by omega)]
      (refine ⟨?_, rfl, ?_, ?_, ?_, rfl⟩ <;> repeat' (first | exact trivial | (refine ⟨rfl, ?_⟩) | fail))
    · have h1 := rstep_n (acc := acc) (b := b) rfl ‹(decide (letter4 b ≥ 49) && decide (letter4 b ≤ 57)) = false› ‹decide (spSide (letter4 b) ≥ 0) = false›
      rw [(rank_bad (rank_rest hlt' hq (by rw [hb0]; exact h1))).1]; exact chk_s rfl
    · have h1 := rstep_n (acc := acc) (b := b) rfl ‹(decide (letter4 b ≥ 49) && decide (letter4 b ≤ 57)) = false› ‹decide (spSide (letter4 b) ≥ 0) = false›
      rw [(rank_bad (rank_rest hlt' hq (by rw [hb0]; exact h1))).2]; exact chk_b rfl
  · cases hcr
end
end Go.X

namespace Go.X
open Go Go.Proofs

def cCells4 : Con
  | [.a (.s s)] => some ⟨[CZ4 s], .tup [.a (.s (bytesOf (cells4T (bytesL s)))), .a (.b (cells4Ok (bytesL s)))], [], []⟩
  | _ => none
def cNum4 : Con
  | [.a (.s s)] => some ⟨[CZ4 s], .tup [.a (.i .i64 (num4V (bytesL s))), .a (.b (num4Ok (bytesL s)))], [], []⟩
  | _ => none
section
variable {G : Nat → World → Prop}
set_option maxHeartbeats 4000000 in
set_option maxRecDepth 20000 in
theorem okCells4 (hS : Hyp G) : ConOK Tryz.prog G 19 cCells4 := by
  refine seat_con hS.seat [(16, cCut4), (47, cRank4)] [] ⟨okCut4 hS, okRank4 hS, trivial⟩ Tryz.func19 rfl rfl rfl ?_
  intro rvs cr hcr hpre
  unfold cCells4 at hcr
  split at hcr
  · rename_i s
    cases hcr
    simp only [List.mem_cons, List.not_mem_nil, or_false, forall_eq_or_imp, forall_eq] at hpre
    refine ⟨⟨rfl, rfl, rfl⟩, fun c hc vs => ?_⟩
    have hsz := hpre.le
    repeat' (first | exact Bool.noConfusion ‹(!true) = true› | exact Bool.noConfusion ‹(!false) = false› | (intro h; exact h) | (intro h; rw [h]; rfl) | (intro h1 h2; rw [h1, h2]; rfl) | (intro _; assumption) | (intro _; exact rfl) | (intro h; exact Bool.noConfusion (h.symm.trans ‹_ = false›)) | refine ⟨fun _ => ?_, fun _ => ?_⟩ | refine ⟨?_⟩ | refine ⟨?_, ?_⟩ | fail)
    all_goals first | exact rfl | exact trivial | exact ⟨hsz, trivial, trivial⟩ | skip
    · rw [(cells4_len (len10_t ‹(Int.ofNat (pieces 47 s).length != 10) = true›)).1]; exact chk_s rfl
    · rw [(cells4_len (len10_t ‹(Int.ofNat (pieces 47 s).length != 10) = true›)).2]; exact chk_b rfl
    have h10 : (pieces 47 s).length = 10 := len10_f ‹(Int.ofNat (pieces 47 s).length != 10) = false›
    have hrl : (pieces 47 s).reverse.length = 10 := by rw [List.length_reverse, h10]
    refine Tr_loopH (α := Nat × List Int) (fun x => [(5, .s (bytesOf x.2)), (6, .i .i64 (9 - (x.1 : Int)))]) (fun _ => []) (fun _ => [])
      (fun x => x.1 ≤ 10 ∧ ((pieces 47 s).reverse.take x.1).foldl cstepB (some []) = some x.2 ∧ x.2.length = 9 * x.1) (fun x => 10 - x.1) (0, []) ⟨Nat.zero_le _, rfl, rfl⟩ (by (refine ⟨?_, rfl, ?_, ?_, ?_, rfl⟩ <;> repeat' (first | exact trivial | (refine ⟨rfl, ?_⟩) | fail))) ?_
    rintro ⟨i, acc⟩ ⟨hi, hq, hl⟩
    dsimp only at hi hq hl
    refine vs.go rfl ?_
    repeat' (first | exact Bool.noConfusion ‹(!true) = true› | exact Bool.noConfusion ‹(!false) = false› | (intro h; exact h) | (intro h; rw [h]; rfl) | (intro h1 h2; rw [h1, h2]; rfl) | (intro _; assumption) | (intro _; exact rfl) | (intro h; exact Bool.noConfusion (h.symm.trans ‹_ = false›)) | refine ⟨fun _ => ?_, fun _ => ?_⟩ | refine ⟨?_⟩ | refine ⟨?_, ?_⟩ | fail)
    all_goals first | exact trivial | (refine (?_ : (_ : Int) ≠ _); decide) | exact rfl | skip
    all_goals try dsimp only at *
    all_goals first | exact trivial | exact rfl | skip
    rotate_right 2
    · have h9 : ¬ (9 - (i : Int) ≥ 0) := of_decide_eq_false ‹decide (9 - (i : Int) ≥ 0) = false›
      have hil : i = (pieces 47 s).reverse.length := by omega
      rw [hil] at hq
      rw [(cells4_done h10 hq).1]; exact chk_s rfl
    · have h9 : ¬ (9 - (i : Int) ≥ 0) := of_decide_eq_false ‹decide (9 - (i : Int) ≥ 0) = false›
      have hil : i = (pieces 47 s).reverse.length := by omega
      rw [hil] at hq
      rw [(cells4_done h10 hq).2]; exact chk_b rfl
    all_goals
      have h9 : 9 - (i : Int) ≥ 0 := of_decide_eq_true ‹decide (9 - (i : Int) ≥ 0) = true›
      have hlt : i < 10 := by omega
      have hlr : i < (pieces 47 s).reverse.length := by omega
      have e9 : ((9 : Int) - (i : Int)).toNat = 9 - i := by omega
      have hrv := rev_at h10 hlt
    · exact h9
    · show (9 : Int) - i < (((pieces 47 s).length : Nat) : Int); omega
    · refine ⟨?_, trivial, trivial⟩
      rw [e9]
      show ((pieces 47 s).getD (9 - i) ByteArray.empty).size ≤ _
      rw [← hrv]
      have := pieces_short (List.mem_reverse.1 (getD_mem hlr))
      omega
    · have hr : rankOk (bytesL ((pieces 47 s).reverse.getD i ByteArray.empty)) = false := by
        rw [hrv, ← e9]; exact (Bool.not_eq_true' _).mp ‹(!rankOk _) = true›
      rw [(cells4_bad h10 hlr hq hr).1]; exact chk_s rfl
    · have hr : rankOk (bytesL ((pieces 47 s).reverse.getD i ByteArray.empty)) = false := by
        rw [hrv, ← e9]; exact (Bool.not_eq_true' _).mp ‹(!rankOk _) = true›
      rw [(cells4_bad h10 hlr hq hr).2]; exact chk_b rfl
    · have hr : rankOk (bytesL ((pieces 47 s).getD (9 - (i : Int)).toNat EK.str.dflt)) = true := (Bool.not_eq_false' _).mp ‹(!rankOk _) = false›
      rw [size_bytesOf, size_bytesOf, ((rank_two _).1 hr).2]; omega
    · have hr : rankOk (bytesL ((pieces 47 s).getD (9 - (i : Int)).toNat EK.str.dflt)) = true := (Bool.not_eq_false' _).mp ‹(!rankOk _) = false›
      have hX : (pieces 47 s).getD (9 - (i : Int)).toNat EK.str.dflt = (pieces 47 s).reverse.getD i ByteArray.empty := by rw [hrv, e9]; rfl
      rw [hX] at hr
      have h9l := ((rank_two _).1 hr).2
      refine Again.mk (i + 1, acc ++ rankT (bytesL ((pieces 47 s).reverse.getD i ByteArray.empty))) ⟨hlt, cells_next hlr hq hr, by show (acc ++ _).length = _; rw [List.length_append, h9l]; omega⟩ (by show 10 - (i + 1) < 10 - i; omega) ?_
      rw [hX, ← bytesOf_app, wrap64 (by omega) (by omega), show (9 : Int) - (i : Int) - 1 = 9 - ((i + 1 : Nat) : Int) by omega]
      (refine ⟨?_, rfl, ?_, ?_, ?_, rfl⟩ <;> repeat' (first | exact trivial | (refine ⟨rfl, ?_⟩) | fail))
  · cases hcr
set_option maxHeartbeats 4000000 in
set_option maxRecDepth 20000 in
theorem okNum4 (hS : Hyp G) : ConOK Tryz.prog G 20 cNum4 := by
  refine seat_con hS.seat [] [] trivial Tryz.func20 rfl rfl rfl ?_
  intro rvs cr hcr hpre
  unfold cNum4 at hcr
  split at hcr
  · rename_i s
    cases hcr
    simp only [List.mem_cons, List.not_mem_nil, or_false, forall_eq_or_imp, forall_eq] at hpre
    refine ⟨⟨rfl, rfl, rfl⟩, fun c hc vs => ?_⟩
    have hsz := hpre.le
    repeat' (first | exact Bool.noConfusion ‹(!true) = true› | exact Bool.noConfusion ‹(!false) = false› | (intro h; exact h) | (intro h; rw [h]; rfl) | (intro h1 h2; rw [h1, h2]; rfl) | (intro _; assumption) | (intro _; exact rfl) | (intro h; exact Bool.noConfusion (h.symm.trans ‹_ = false›)) | refine ⟨fun _ => ?_, fun _ => ?_⟩ | refine ⟨?_⟩ | refine ⟨?_, ?_⟩ | fail)
    all_goals first | exact rfl | exact trivial | skip
    · intro h
      simp only [Bool.not_eq_true', Bool.or_eq_false_iff] at h
      refine ⟨by decide, ?_⟩
      have hne : s.size ≠ 0 := by
        intro h0
        have : s = ⟨#[]⟩ := ByteArray.ext (Array.eq_empty_of_size_eq_zero h0)
        rw [(strEq_iff _ _).2 this] at h
        exact Bool.noConfusion h.1
      show (0 : Int) < ((s.size : Nat) : Int); omega
    · rw [(num4_head ‹(strEq s ⟨#[]⟩ || decide ((s.size : Int) > 4) || (byteAt s 0 == 48 && decide ((s.size : Int) > 1))) = true›).1]; exact chk_i rfl
    · rw [(num4_head ‹(strEq s ⟨#[]⟩ || decide ((s.size : Int) > 4) || (byteAt s 0 == 48 && decide ((s.size : Int) > 1))) = true›).2]; exact chk_b rfl
    obtain ⟨hgo, h1s, h4s⟩ := num4_start ‹(strEq s ⟨#[]⟩ || decide ((s.size : Int) > 4) || (byteAt s 0 == 48 && decide ((s.size : Int) > 1))) = false›
    have hlen := bL_len s
    refine Tr_loopH (α := Nat × Int) (fun x => [(4, .i .i64 x.2), (5, .i .i64 (.ofNat x.1))]) (fun _ => []) (fun _ => [])
      (fun x => x.1 ≤ s.size ∧ ((bytesL s).take x.1).foldl nstep (some 0) = some x.2 ∧ 0 ≤ x.2 ∧ x.2 < 10 ^ x.1) (fun x => s.size - x.1) (0, 0) ⟨Nat.zero_le _, rfl, by decide, by decide⟩ (by (refine ⟨?_, rfl, ?_, ?_, ?_, rfl⟩ <;> repeat' (first | exact trivial | (refine ⟨rfl, ?_⟩) | fail))) ?_
    rintro ⟨i, n⟩ ⟨hi, hq, hn0, hn1⟩
    dsimp only at hi hq hn0 hn1
    obtain ⟨b, hbd⟩ : ∃ b, byteAt s (Int.ofNat i).toNat = b := ⟨_, rfl⟩
    have hb0 : (bytesL s).getD i 0 = b := by rw [bL_at]; exact hbd
    have hp : (10 : Int) ^ i ≤ 10000 := by
      have : i = 0 ∨ i = 1 ∨ i = 2 ∨ i = 3 ∨ i = 4 := by omega
      rcases this with rfl | rfl | rfl | rfl | rfl <;> decide
    refine vs.go rfl ?_
    repeat' (first | exact Bool.noConfusion ‹(!true) = true› | exact Bool.noConfusion ‹(!false) = false› | (intro h; exact h) | (intro h; rw [h]; rfl) | (intro h1 h2; rw [h1, h2]; rfl) | (intro _; assumption) | (intro _; exact rfl) | (intro h; exact Bool.noConfusion (h.symm.trans ‹_ = false›)) | refine ⟨fun _ => ?_, fun _ => ?_⟩ | refine ⟨?_⟩ | refine ⟨?_, ?_⟩ | fail)
    all_goals first | exact trivial | (refine (?_ : (_ : Int) ≠ _); decide) | exact rfl | skip
    all_goals try dsimp only at *
    all_goals simp only [hbd] at *
    all_goals first | exact trivial | exact rfl | skip
    rotate_right 2
    · have hil : i = (bytesL s).length := by have := geN ‹decide (Int.ofNat i < _) = false›; omega
      rw [hil, List.take_length] at hq
      refine chk_i ?_; unfold num4V; rw [hgo, hq]
    · have hil : i = (bytesL s).length := by have := geN ‹decide (Int.ofNat i < _) = false›; omega
      rw [hil, List.take_length] at hq
      refine chk_b ?_; unfold num4Ok; rw [hgo, hq]
    all_goals
      have hlt : i < s.size := ltN ‹decide (Int.ofNat i < _) = true›
      have hlt' : i < (bytesL s).length := by omega
    · exact Int.ofNat_lt.2 hlt
    · exact fun _ => ⟨Int.natCast_nonneg _, Int.ofNat_lt.2 hlt⟩
    · have hc := ‹(decide (b < 48) || decide (b > 57)) = true›
      simp only [Bool.or_eq_true, decide_eq_true_eq] at hc
      rw [(num4_no (hgo.trans (num_rest hlt' hq (by rw [hb0]; exact nstep_f (by omega))))).1]; exact chk_i rfl
    · have hc := ‹(decide (b < 48) || decide (b > 57)) = true›
      simp only [Bool.or_eq_true, decide_eq_true_eq] at hc
      rw [(num4_no (hgo.trans (num_rest hlt' hq (by rw [hb0]; exact nstep_f (by omega))))).2]; exact chk_b rfl
    · exact Int.ofNat_lt.2 hlt
    · have hc := ‹(decide (b < 48) || decide (b > 57)) = false›
      simp only [Bool.or_eq_false_iff, decide_eq_false_iff_not] at hc
      have w1 : IntKind.u8.wrap (b - 48) = b - 48 := wrapB (by omega) (by omega)
      have w2 : IntKind.i64.wrap (b - 48) = b - 48 := wrap64 (by omega) (by omega)
      have w3 : IntKind.i64.wrap (10 * n) = 10 * n := wrap64 (by omega) (by omega)
      have w4 : IntKind.i64.wrap (10 * n + (b - 48)) = 10 * n + (b - 48) := wrap64 (by omega) (by omega)
      have hpow : (10 : Int) ^ (i + 1) = 10 * 10 ^ i := by rw [Int.pow_succ, Int.mul_comm]
      refine Again.mk (i + 1, 10 * n + (b - 48)) ⟨hlt, num_next hlt' hq (by rw [hb0]; exact nstep_t (by omega)), by show (0 : Int) ≤ 10 * n + (b - 48); omega, by show 10 * n + (b - 48) < 10 ^ (i + 1); rw [hpow]; omega⟩ (by show s.size - (i + 1) < s.size - i; omega) ?_
      rw [w1, w2, w3, w4, wrapN (by omega)]
      (refine ⟨?_, rfl, ?_, ?_, ?_, rfl⟩ <;> repeat' (first | exact trivial | (refine ⟨rfl, ?_⟩) | fail))
  · cases hcr
end
end Go.X

namespace Go.X
open Go Go.Proofs

def cROf : Con
  | [.a (.i .u8 c), .a (.i .i64 side)] => some ⟨[BY c], .a (.i .u8 (if side = 1 then IntKind.u8.wrap (IntKind.u8.wrap (c - 65) + 97) else c)), [], []⟩
  | _ => none
def cRIs2 : Con
  | [.a (.s p)] => some ⟨[], .a (.b (spIs p)), [], []⟩
  | _ => none
def cRFile : Con
  | [.a (.i .i64 n)] => some ⟨[], .a (.i .i64 (spFile n)), [], []⟩
  | _ => none
def cRRank : Con
  | [.a (.i .i64 n)] => some ⟨[], .a (.i .i64 (spRank n)), [], []⟩
  | _ => none
def cRFind : Con
  | [.a (.s p), .a (.i .u8 c)] => some ⟨[], .row ⟨3, .int .i64, spFind p c, true⟩, [], []⟩
  | _ => none
theorem cell_bad {c : Int} : spIsCell c = false ↔ c ≠ 46 ∧ spSide c < 0 := by
  unfold spIsCell
  rw [Bool.or_eq_false_iff, beq_eq_false_iff_ne, decide_eq_false_iff_not, Int.not_le]
theorem sqs_take (f : Int → Bool) : ∀ i : Nat, ((List.range (i + 1)).map Int.ofNat).filter f = ((List.range i).map Int.ofNat).filter f ++ if f (i : Int) then [(i : Int)] else [] := by
  intro i
  rw [List.range_succ, List.map_append, List.filter_append]
  congr 1
  show ([Int.ofNat i].filter f) = _
  cases h : f (i : Int) with
  | true => rw [List.filter_cons_of_pos (show f (Int.ofNat i) = true from h)]; rfl
  | false => rw [List.filter_cons_of_neg (by rw [show f (Int.ofNat i) = false from h]; simp)]; rfl
section
variable {G : Nat → World → Prop}
set_option maxHeartbeats 4000000 in
set_option maxRecDepth 20000 in
theorem okRFile (hS : Hyp G) : ConOK Tryz.prog G 58 cRFile := by
  refine seat_con hS.seat [] [] trivial Tryz.func58 rfl rfl rfl ?_
  intro rvs cr hcr hpre
  unfold cRFile at hcr
  split at hcr
  · rename_i n
    cases hcr
    refine ⟨⟨rfl, rfl, rfl⟩, fun c hc vs => ?_⟩
    repeat' (first | exact Bool.noConfusion ‹(!true) = true› | exact Bool.noConfusion ‹(!false) = false› | (intro h; exact h) | (intro h; rw [h]; rfl) | (intro h1 h2; rw [h1, h2]; rfl) | (intro _; assumption) | (intro _; exact rfl) | (intro h; exact Bool.noConfusion (h.symm.trans ‹_ = false›)) | refine ⟨fun _ => ?_, fun _ => ?_⟩ | refine ⟨?_⟩ | refine ⟨?_, ?_⟩ | fail)
    all_goals first | exact trivial | (refine (?_ : (_ : Int) ≠ _); decide) | exact rfl | skip
    · rename_i h; refine chk_i ?_; simp only [Bool.or_eq_true, decide_eq_true_eq] at h; rw [spFile, if_neg (by rw [isSquare_iff]; omega)]
    · rename_i h; refine chk_i ?_; simp only [Bool.or_eq_false_iff, decide_eq_false_iff_not] at h; rw [spFile, if_pos (by rw [isSquare_iff]; omega), tmod9 (by omega)]
  · cases hcr
set_option maxHeartbeats 4000000 in
set_option maxRecDepth 20000 in
theorem okRRank (hS : Hyp G) : ConOK Tryz.prog G 83 cRRank := by
  refine seat_con hS.seat [] [] trivial Tryz.func83 rfl rfl rfl ?_
  intro rvs cr hcr hpre
  unfold cRRank at hcr
  split at hcr
  · rename_i n
    cases hcr
    refine ⟨⟨rfl, rfl, rfl⟩, fun c hc vs => ?_⟩
    repeat' (first | exact Bool.noConfusion ‹(!true) = true› | exact Bool.noConfusion ‹(!false) = false› | (intro h; exact h) | (intro h; rw [h]; rfl) | (intro h1 h2; rw [h1, h2]; rfl) | (intro _; assumption) | (intro _; exact rfl) | (intro h; exact Bool.noConfusion (h.symm.trans ‹_ = false›)) | refine ⟨fun _ => ?_, fun _ => ?_⟩ | refine ⟨?_⟩ | refine ⟨?_, ?_⟩ | fail)
    all_goals first | exact trivial | (refine (?_ : (_ : Int) ≠ _); decide) | exact rfl | skip
    · rename_i h; refine chk_i ?_; simp only [Bool.or_eq_true, decide_eq_true_eq] at h; rw [spRank, if_neg (by rw [isSquare_iff]; omega)]
    · rename_i h; refine chk_i ?_; simp only [Bool.or_eq_false_iff, decide_eq_false_iff_not] at h; rw [spRank, if_pos (by rw [isSquare_iff]; omega), tdiv9 (by omega), wrap64 (by omega) (by omega)]
  · cases hcr
set_option maxHeartbeats 4000000 in
set_option maxRecDepth 20000 in
theorem okRIs2 (hS : Hyp G) : ConOK Tryz.prog G 33 cRIs2 := by
  refine seat_con hS.seat [(56, cRSide)] [] ⟨okRSide hS, trivial⟩ Tryz.func33 rfl rfl rfl ?_
  intro rvs cr hcr hpre
  unfold cRIs2 at hcr
  split at hcr
  · rename_i p
    cases hcr
    refine ⟨⟨rfl, rfl, rfl⟩, fun c hc vs => ?_⟩
    repeat' (first | exact Bool.noConfusion ‹(!true) = true› | exact Bool.noConfusion ‹(!false) = false› | (intro h; exact h) | (intro h; rw [h]; rfl) | (intro h1 h2; rw [h1, h2]; rfl) | (intro _; assumption) | (intro _; exact rfl) | (intro h; exact Bool.noConfusion (h.symm.trans ‹_ = false›)) | refine ⟨fun _ => ?_, fun _ => ?_⟩ | refine ⟨?_⟩ | refine ⟨?_, ?_⟩ | fail)
    all_goals first | exact trivial | (refine (?_ : (_ : Int) ≠ _); decide) | exact rfl | skip
    · rename_i h
      refine chk_b ?_
      cases hp : spIs p with
      | false => rfl
      | true => have := spIs_size hp; have := bneT h; omega
    · rename_i h
      have h90 : p.size = 90 := by have := bneF h; omega
      refine Tr_loopH (α := Nat) (fun i => [(3, .i .i64 (.ofNat i))]) (fun _ => []) (fun _ => []) (fun i => i ≤ 90 ∧ ∀ k, k < i → spIsCell (byteAt p k) = true) (fun i => 90 - i) 0 ⟨by omega, fun k hk => by omega⟩ (by (refine ⟨?_, rfl, ?_, ?_, ?_, rfl⟩ <;> repeat' (first | exact trivial | (refine ⟨rfl, ?_⟩) | fail))) ?_
      rintro i ⟨hi, hq⟩
      refine vs.go rfl ?_
      repeat' (first | exact Bool.noConfusion ‹(!true) = true› | exact Bool.noConfusion ‹(!false) = false› | (intro h; exact h) | (intro h; rw [h]; rfl) | (intro h1 h2; rw [h1, h2]; rfl) | (intro _; assumption) | (intro _; exact rfl) | (intro h; exact Bool.noConfusion (h.symm.trans ‹_ = false›)) | refine ⟨fun _ => ?_, fun _ => ?_⟩ | refine ⟨?_⟩ | refine ⟨?_, ?_⟩ | fail)
      all_goals first | exact trivial | (refine (?_ : (_ : Int) ≠ _); decide) | exact rfl | skip
      all_goals try dsimp only at *
      all_goals first | (intro _; exact BY.at _ _) | skip
      · rename_i h1; simp at h1; show (i : Int) < p.size; omega
      · rename_i h1; intro _; simp at h1; exact ⟨by simp, by show (i : Int) < p.size; omega⟩
      · rename_i h1 hx
        refine chk_b ?_
        simp only [Bool.and_eq_true, decide_eq_true_eq] at hx h1
        cases hp : spIs p with
        | false => rfl
        | true =>
          have := (is_iff.1 hp).2 i (by simp at h1; omega)
          have hb := cell_bad.2 ⟨bneT hx.1, hx.2⟩
          have hb : spIsCell (byteAt p i) = false := hb
          rw [this] at hb; cases hb
      · rename_i h1 hx
        simp at h1
        have hc : spIsCell (byteAt p i) = true := by
          cases hc : spIsCell (byteAt p i) with
          | true => rfl
          | false =>
            exfalso
            obtain ⟨q1, q2⟩ := cell_bad.1 hc
            have hx : (byteAt p i != 46 && decide (spSide (byteAt p i) < 0)) = false := hx
            simp [q1, q2] at hx
        refine Again.mk (i + 1) ⟨by omega, fun k hk => ?_⟩ (by omega) ?_
        · by_cases hki : k = i
          · subst hki; exact hc
          · exact hq k (by omega)
        · rw [wrapN (by omega)]
          (refine ⟨?_, rfl, ?_, ?_, ?_, rfl⟩ <;> repeat' (first | exact trivial | (refine ⟨rfl, ?_⟩) | fail))
      · rename_i h1
        simp at h1
        refine chk_b ?_
        rw [is_iff.2 ⟨h90, fun k hk => hq k (by omega)⟩]
  · cases hcr
set_option maxHeartbeats 4000000 in
set_option maxRecDepth 20000 in
theorem okRFind (hS : Hyp G) : ConOK Tryz.prog G 34 cRFind := by
  refine seat_con hS.seat [(33, cRIs2)] [] ⟨okRIs2 hS, trivial⟩ Tryz.func34 rfl rfl rfl ?_
  intro rvs cr hcr hpre
  unfold cRFind at hcr
  split at hcr
  · rename_i p c0
    cases hcr
    refine ⟨⟨rfl, rfl, rfl⟩, fun c hc vs => ?_⟩
    repeat' (first | exact Bool.noConfusion ‹(!true) = true› | exact Bool.noConfusion ‹(!false) = false› | (intro h; exact h) | (intro h; rw [h]; rfl) | (intro h1 h2; rw [h1, h2]; rfl) | (intro _; assumption) | (intro _; exact rfl) | (intro h; exact Bool.noConfusion (h.symm.trans ‹_ = false›)) | refine ⟨fun _ => ?_, fun _ => ?_⟩ | refine ⟨?_⟩ | refine ⟨?_, ?_⟩ | fail)
    all_goals first | exact trivial | (refine (?_ : (_ : Int) ≠ _); decide) | exact rfl | skip
    · rename_i h
      show spFind p c0 = []
      unfold spFind; rw [set_bad (bt h)]
    · rename_i h
      have hp := bn h
      have h90 := spIs_size hp
      have hfin := find_canon hp c0
      refine Tr_nilTmp 3 (.int .i64) 5 rfl (by decide) ?_
      repeat' (first | exact Bool.noConfusion ‹(!true) = true› | exact Bool.noConfusion ‹(!false) = false› | (intro h; exact h) | (intro h; rw [h]; rfl) | (intro h1 h2; rw [h1, h2]; rfl) | (intro _; assumption) | (intro _; exact rfl) | (intro h; exact Bool.noConfusion (h.symm.trans ‹_ = false›)) | refine ⟨fun _ => ?_, fun _ => ?_⟩ | refine ⟨?_⟩ | refine ⟨?_, ?_⟩ | fail)
      refine Tr_loopH (α := Nat) (fun i => [(5, .row 0), (6, .i .i64 (.ofNat i))]) (fun _ => []) (fun i => [(0, some ⟨3, .int .i64, ((List.range i).map Int.ofNat).filter (fun n => bAt (bytesL p) n == c0), true⟩)]) (fun i => i ≤ 90) (fun i => 90 - i) 0 (by omega) (by (refine ⟨?_, rfl, ?_, ?_, ?_, rfl⟩ <;> repeat' (first | exact trivial | (refine ⟨rfl, ?_⟩) | fail))) ?_
      intro i hi
      have hl : (((List.range i).map Int.ofNat).filter (fun n => bAt (bytesL p) n == c0)).length ≤ 90 := by
        refine Nat.le_trans (List.length_filter_le _ _) ?_
        simpa using hi
      refine vs.go rfl ?_
      repeat' (first | exact Bool.noConfusion ‹(!true) = true› | exact Bool.noConfusion ‹(!false) = false› | (intro h; exact h) | (intro h; rw [h]; rfl) | (intro h1 h2; rw [h1, h2]; rfl) | (intro _; assumption) | (intro _; exact rfl) | (intro h; exact Bool.noConfusion (h.symm.trans ‹_ = false›)) | refine ⟨fun _ => ?_, fun _ => ?_⟩ | refine ⟨?_⟩ | refine ⟨?_, ?_⟩ | fail)
      all_goals first | exact trivial | (refine (?_ : (_ : Int) ≠ _); decide) | exact rfl | skip
      all_goals try dsimp only at *
      · rename_i h1; simpa using h1
      · exact Nat.le_trans (Nat.add_le_add_right hl 1) (by decide)
      · exact Nat.le_trans (Nat.mul_le_mul_right _ (Nat.add_le_add_right hl 1)) (by decide)
      · rename_i h1 hx
        simp at h1
        refine Again.mk (i + 1) (by omega) (by omega) ?_
        have e := sqs_take (fun n => bAt (bytesL p) n == c0) i
        rw [if_pos (by rw [bAt_bytes]; exact hx)] at e
        rw [e, wrapN (by omega)]
        (refine ⟨?_, rfl, ?_, ?_, ?_, rfl⟩ <;> repeat' (first | exact trivial | (refine ⟨rfl, ?_⟩) | fail))
      · rename_i h1 hx
        simp at h1
        refine Again.mk (i + 1) (by omega) (by omega) ?_
        have e := sqs_take (fun n => bAt (bytesL p) n == c0) i
        rw [if_neg (by rw [bAt_bytes]; intro hh; exact Bool.noConfusion (hh.symm.trans hx)), List.append_nil] at e
        rw [e, wrapN (by omega)]
        (refine ⟨?_, rfl, ?_, ?_, ?_, rfl⟩ <;> repeat' (first | exact trivial | (refine ⟨rfl, ?_⟩) | fail))
      · rename_i h1
        simp at h1
        have : i = 90 := by omega
        subst this
        show (⟨_, _, _, _⟩ : Row) = ⟨_, _, _, _⟩
        rw [hfin]; rfl
  · cases hcr
end
end Go.X

namespace Go.X
open Go Go.Proofs

def cRReal : Con
  | [.a (.i .i64 n), .a (.i .i64 side)] => some ⟨[], .a (.b (spOk n side)), [], []⟩
  | _ => none
def cROwn : Con
  | [.a (.i .i64 n), .a (.i .i64 side)] => some ⟨[], .a (.i .i64 (rfOwn n side)), [], []⟩
  | _ => none
def cRPalace : Con
  | [.a (.i .i64 n), .a (.i .i64 side)] => some ⟨[], .a (.b (rfPalace n side)), [], []⟩
  | _ => none
def cROver : Con
  | [.a (.i .i64 n), .a (.i .i64 side)] => some ⟨[], .a (.b (spOver n side)), [], []⟩
  | _ => none
def cRAdv : Con
  | [.a (.i .i64 f), .a (.i .i64 r)] => some ⟨[], .a (.b (rfAdv f r)), [], []⟩
  | _ => none
def cREle : Con
  | [.a (.i .i64 f), .a (.i .i64 r)] => some ⟨[], .a (.b (rfEle f r)), [], []⟩
  | _ => none
def cRMay : Con
  | [.a (.i .u8 c), .a (.i .i64 n)] => some ⟨[BY c], .a (.b (spMay c n)), [], []⟩
  | _ => none
section
variable {G : Nat → World → Prop}
set_option maxHeartbeats 4000000 in
set_option maxRecDepth 20000 in
theorem okRReal (hS : Hyp G) : ConOK Tryz.prog G 57 cRReal := by
  refine seat_con hS.seat [] [] trivial Tryz.func57 rfl rfl rfl ?_
  intro rvs cr hcr hpre
  unfold cRReal at hcr
  split at hcr
  · cases hcr
    refine ⟨⟨rfl, rfl, rfl⟩, fun c hc vs => ?_⟩
    repeat' (first | exact Bool.noConfusion ‹(!true) = true› | exact Bool.noConfusion ‹(!false) = false› | (intro h; exact h) | (intro h; rw [h]; rfl) | (intro h1 h2; rw [h1, h2]; rfl) | (intro _; assumption) | (intro _; exact rfl) | (intro h; exact Bool.noConfusion (h.symm.trans ‹_ = false›)) | refine ⟨fun _ => ?_, fun _ => ?_⟩ | refine ⟨?_⟩ | refine ⟨?_, ?_⟩ | fail)
    all_goals first | exact trivial | (refine (?_ : (_ : Int) ≠ _); decide) | exact rfl | skip
  · cases hcr
set_option maxHeartbeats 4000000 in
set_option maxRecDepth 20000 in
theorem okROwn (hS : Hyp G) : ConOK Tryz.prog G 59 cROwn := by
  refine seat_con hS.seat [(83, cRRank)] [] ⟨okRRank hS, trivial⟩ Tryz.func59 rfl rfl rfl ?_
  intro rvs cr hcr hpre
  unfold cROwn at hcr
  split at hcr
  · rename_i n side
    cases hcr
    refine ⟨⟨rfl, rfl, rfl⟩, fun c hc vs => ?_⟩
    have := rank_bd n
    repeat' (first | exact Bool.noConfusion ‹(!true) = true› | exact Bool.noConfusion ‹(!false) = false› | (intro h; exact h) | (intro h; rw [h]; rfl) | (intro h1 h2; rw [h1, h2]; rfl) | (intro _; assumption) | (intro _; exact rfl) | (intro h; exact Bool.noConfusion (h.symm.trans ‹_ = false›)) | refine ⟨fun _ => ?_, fun _ => ?_⟩ | refine ⟨?_⟩ | refine ⟨?_, ?_⟩ | fail)
    all_goals first | exact trivial | (refine (?_ : (_ : Int) ≠ _); decide) | exact rfl | skip
    · exact chk_i (by rw [rfOwn, if_pos (beqT ‹_›), wrap64 (by omega) (by omega)])
    · exact chk_i (by rw [rfOwn, if_neg (beqF ‹_›)])
  · cases hcr
set_option maxHeartbeats 4000000 in
set_option maxRecDepth 20000 in
theorem okRPalace (hS : Hyp G) : ConOK Tryz.prog G 60 cRPalace := by
  refine seat_con hS.seat [(58, cRFile), (57, cRReal), (59, cROwn)] [] ⟨okRFile hS, okRReal hS, okROwn hS, trivial⟩ Tryz.func60 rfl rfl rfl ?_
  intro rvs cr hcr hpre
  unfold cRPalace at hcr
  split at hcr
  · cases hcr
    refine ⟨⟨rfl, rfl, rfl⟩, fun c hc vs => ?_⟩
    repeat' (first | exact Bool.noConfusion ‹(!true) = true› | exact Bool.noConfusion ‹(!false) = false› | (intro h; exact h) | (intro h; rw [h]; rfl) | (intro h1 h2; rw [h1, h2]; rfl) | (intro _; assumption) | (intro _; exact rfl) | (intro h; exact Bool.noConfusion (h.symm.trans ‹_ = false›)) | refine ⟨fun _ => ?_, fun _ => ?_⟩ | refine ⟨?_⟩ | refine ⟨?_, ?_⟩ | fail)
    all_goals first | exact trivial | (refine (?_ : (_ : Int) ≠ _); decide) | exact rfl | skip
  · cases hcr
set_option maxHeartbeats 4000000 in
set_option maxRecDepth 20000 in
theorem okRAdv (hS : Hyp G) : ConOK Tryz.prog G 61 cRAdv := by
  refine seat_con hS.seat [] [] trivial Tryz.func61 rfl rfl rfl ?_
  intro rvs cr hcr hpre
  unfold cRAdv at hcr
  split at hcr
  · cases hcr
    refine ⟨⟨rfl, rfl, rfl⟩, fun c hc vs => ?_⟩
    repeat' (first | exact Bool.noConfusion ‹(!true) = true› | exact Bool.noConfusion ‹(!false) = false› | (intro h; exact h) | (intro h; rw [h]; rfl) | (intro h1 h2; rw [h1, h2]; rfl) | (intro _; assumption) | (intro _; exact rfl) | (intro h; exact Bool.noConfusion (h.symm.trans ‹_ = false›)) | refine ⟨fun _ => ?_, fun _ => ?_⟩ | refine ⟨?_⟩ | refine ⟨?_, ?_⟩ | fail)
    all_goals first | exact trivial | (refine (?_ : (_ : Int) ≠ _); decide) | exact rfl | skip
  · cases hcr
set_option maxHeartbeats 4000000 in
set_option maxRecDepth 20000 in
theorem okREle (hS : Hyp G) : ConOK Tryz.prog G 62 cREle := by
  refine seat_con hS.seat [] [] trivial Tryz.func62 rfl rfl rfl ?_
  intro rvs cr hcr hpre
  unfold cREle at hcr
  split at hcr
  · rename_i f r
    cases hcr
    refine ⟨⟨rfl, rfl, rfl⟩, fun c hc vs => ?_⟩
    repeat' (first | exact Bool.noConfusion ‹(!true) = true› | exact Bool.noConfusion ‹(!false) = false› | (intro h; exact h) | (intro h; rw [h]; rfl) | (intro h1 h2; rw [h1, h2]; rfl) | (intro _; assumption) | (intro _; exact rfl) | (intro h; exact Bool.noConfusion (h.symm.trans ‹_ = false›)) | refine ⟨fun _ => ?_, fun _ => ?_⟩ | refine ⟨?_⟩ | refine ⟨?_, ?_⟩ | fail)
    all_goals first | exact rfl | skip
    all_goals (refine chk_b ?_; rw [rfEle]; simp only [beq_iff_eq, beq_eq_false_iff_ne, ne_eq] at *; first | (rw [if_pos (by omega)]; done) | (rw [if_neg (by omega), if_pos (by omega)]; done) | (rw [if_neg (by omega), if_neg (by omega)]; done) | (exfalso; omega))
  · cases hcr
set_option maxHeartbeats 4000000 in
set_option maxRecDepth 20000 in
theorem okRMay (hS : Hyp G) : ConOK Tryz.prog G 37 cRMay := by
  refine seat_con hS.seat [(56, cRSide), (57, cRReal), (58, cRFile), (59, cROwn), (36, cRKind), (60, cRPalace), (61, cRAdv), (62, cREle)] [] ⟨okRSide hS, okRReal hS, okRFile hS, okROwn hS, okRKind hS, okRPalace hS, okRAdv hS, okREle hS, trivial⟩ Tryz.func37 rfl rfl rfl ?_
  intro rvs cr hcr hpre
  unfold cRMay at hcr
  split at hcr
  · rename_i c0 n
    cases hcr
    simp only [List.mem_cons, List.not_mem_nil, or_false, forall_eq_or_imp, forall_eq] at hpre
    refine ⟨⟨rfl, rfl, rfl⟩, fun c hc vs => ?_⟩
    have hsb := side_bd c0
    repeat' (first | exact Bool.noConfusion ‹(!true) = true› | exact Bool.noConfusion ‹(!false) = false› | (intro h; exact h) | (intro h; rw [h]; rfl) | (intro h1 h2; rw [h1, h2]; rfl) | (intro _; assumption) | (intro _; exact rfl) | (intro h; exact Bool.noConfusion (h.symm.trans ‹_ = false›)) | refine ⟨fun _ => ?_, fun _ => ?_⟩ | refine ⟨?_⟩ | refine ⟨?_, ?_⟩ | fail)
    all_goals first | exact hpre | exact rfl | skip
    · refine chk_b ?_
      have h := ‹(_ || _) = true›
      rw [spMay, if_neg]
      intro ho
      rw [ho] at h
      simp only [Bool.not_true, Bool.or_false, decide_eq_true_eq] at h
      simp only [spOk, Bool.and_eq_true, Bool.or_eq_true, decide_eq_true_eq, beq_iff_eq] at ho
      omega
    all_goals
      have hor := ‹(decide (spSide c0 < 0) || !spOk n (spSide c0)) = false›
      simp only [Bool.or_eq_false_iff] at hor
      have ho := bn hor.2
      have hst := stand_eq ho
    · exact chk_b (by rw [spMay, if_pos ho, if_pos (beqT ‹_›), hst.1])
    · rename_i h1 h2
      exact chk_b (by rw [spMay, if_pos ho, if_neg (beqF h1), if_pos (beqT h2), hst.2.1])
    · rename_i h1 h2 h3
      exact chk_b (by rw [spMay, if_pos ho, if_neg (beqF h1), if_neg (beqF h2), if_pos (beqT h3), hst.2.2.1])
    · intro _; decide
    · rename_i h1 h2 h3 h4
      exact chk_b (by rw [spMay, if_pos ho, if_neg (beqF h1), if_neg (beqF h2), if_neg (beqF h3), if_pos (beqT h4), hst.2.2.2.1])
    · rename_i h1 h2 h3 h4
      exact chk_b (by rw [spMay, if_pos ho, if_neg (beqF h1), if_neg (beqF h2), if_neg (beqF h3), if_neg (beqF h4)])
  · cases hcr
end
end Go.X

namespace Go.X
open Go Go.Proofs

def cR5Real : Con
  | [.a (.i .i64 n)] => some ⟨[], .a (.b (spIsSquare n)), [], []⟩
  | _ => none
def cR5Away : Con
  | [.a (.i .i64 a), .a (.i .i64 b)] => some ⟨[SM a, SM b], .a (.i .i64 (away a b)), [], []⟩
  | _ => none
def cR5Half : Con
  | [.a (.i .i64 a), .a (.i .i64 b), .a (.i .i64 fr), .a (.s p), .a (.i .i64 st)] => some ⟨[S90 p, HalfOk a b fr st], .a (.b (byteAt p (if b > a then fr + st else fr - st).toNat == 46)), [], []⟩
  | _ => none
def cR5Horse : Con
  | [.a (.s p), .a (.i .i64 fr), .a (.i .i64 t)] => some ⟨[S90 p, Sq fr, Sq t], .a (.b (dHorse (bytesL p) fr t)), [], []⟩
  | _ => none
def cR5Btw : Con
  | [.a (.s p), .a (.i .i64 a), .a (.i .i64 b)] => some ⟨[S90 p, Sq a, Sq b], .a (.i .i64 (dBetween (bytesL p) a b)), [], []⟩
  | _ => none
def cR5Pawn : Con
  | [.a (.i .i64 side), .a (.i .i64 fr), .a (.i .i64 t)] => some ⟨[SM side, Sq fr, Sq t], .a (.b (dPawnCan side fr t)), [], []⟩
  | _ => none
def cR5Can : Con
  | [.a (.s p), .a (.i .i64 fr), .a (.i .i64 t)] => some ⟨[S90 p, Sq fr, Sq t], .a (.b (dReach (bytesL p) (byteAt p fr.toNat) fr t)), [], []⟩
  | _ => none
def cR5Fast : Con
  | [.a (.s p), .a (.i .i64 fr), .a (.i .i64 t)] => some ⟨[S90 p, Sq fr, Sq t], .a (.b (dFast (bytesL p) fr t)), [], []⟩
  | _ => none
def cR5Between : Con
  | [.a (.s p), .a (.i .i64 a), .a (.i .i64 b)] => some ⟨[], .a (.i .i64 (if spIs p && spIsSquare a && spIsSquare b then dBetween (bytesL p) a b else -1)), [], []⟩
  | _ => none
section
variable {G : Nat → World → Prop}
end
end Go.X

namespace Go.X
open Go Go.Proofs

def cR7Gen : Con
  | [.a (.s p), .a (.i .i64 side)] => some ⟨[], .a (.i .i64 (if spIs p && spIsSide side then dGeneral (bytesL p) side else -1)), [], []⟩
  | _ => none
def cR7Put : Con
  | [.a (.s p), .a (.i .i64 n), .a (.i .i64 side)] => some ⟨[S90 p, Sq n, SD side], .a (.s (bytesOf ((bytesL p).set n.toNat (if side = 0 then 112 else 80)))), [], []⟩
  | _ => none
def cR7Att : Con
  | [.a (.s p), .a (.i .i64 n), .a (.i .i64 side)] => some ⟨[], .row ⟨3, .int .i64, if spIs p && spIsSquare n && spIsSide side then dAttackers (bytesL p) n side else [], true⟩, [], []⟩
  | _ => none
section
variable {G : Nat → World → Prop}
end
end Go.X

namespace Go.X
open Go Go.Proofs

def cR7GenS : Con
  | [.a (.s p), .a (.i .i64 side)] => some ⟨[], .a (.i .i64 (spGeneral p side)), [], []⟩
  | _ => none
theorem r7GenS : cR7GenS = cR7Gen := by funext l; unfold cR7GenS cR7Gen; split <;> simp only [general_eq]
def cR5BtwS : Con
  | [.a (.s p), .a (.i .i64 a), .a (.i .i64 b)] => some ⟨[], .a (.i .i64 (spBetween p a b)), [], []⟩
  | _ => none
theorem r5BtwS : cR5BtwS = cR5Between := by funext l; unfold cR5BtwS cR5Between; split <;> simp only [between_eq]
def cR7AttS : Con
  | [.a (.s p), .a (.i .i64 n), .a (.i .i64 side)] => some ⟨[], .row ⟨3, .int .i64, spAttackers p n side, true⟩, [], []⟩
  | _ => none
theorem r7AttS : cR7AttS = cR7Att := by funext l; unfold cR7AttS cR7Att; split <;> simp only [attackers_eq]
def cR7Facing : Con
  | [.a (.s p)] => some ⟨[], .a (.b (spFacing p)), [], []⟩
  | _ => none
def cR7In : Con
  | [.a (.s p), .a (.i .i64 side)] => some ⟨[], .a (.b (spIn p side)), [], []⟩
  | _ => none
def cRMost : Con
  | [.a (.i .u8 c)] => some ⟨[BY c], .a (.i .i64 (dMost c)), [], []⟩
  | _ => none
def cRCheck : Con
  | [.agg [.a (.s p), .a (.i .i64 side), .a (.i .i64 clock), .a (.i .i64 full)]] => some ⟨[], .a (.i .i64 (rCheck p side clock full)), [], []⟩
  | _ => none
def cRWell : Con
  | [.agg [.a (.s p), .a (.i .i64 side), .a (.i .i64 clock), .a (.i .i64 full)]] => some ⟨[], .a (.i .i64 (rWell p side clock full)), [], []⟩
  | _ => none
section
variable {G : Nat → World → Prop}
set_option maxHeartbeats 4000000 in
set_option maxRecDepth 20000 in
theorem okRMost (hS : Hyp G) : ConOK Tryz.prog G 35 cRMost := by
  refine seat_con hS.seat [(36, cRKind)] [] ⟨okRKind hS, trivial⟩ Tryz.func35 rfl rfl rfl ?_
  intro rvs cr hcr hpre
  unfold cRMost at hcr
  split at hcr
  · rename_i c0
    cases hcr
    simp only [List.mem_cons, List.not_mem_nil, or_false, forall_eq_or_imp, forall_eq] at hpre
    refine ⟨⟨rfl, rfl, rfl⟩, fun c hc vs => ?_⟩
    repeat' (first | exact Bool.noConfusion ‹(!true) = true› | exact Bool.noConfusion ‹(!false) = false› | (intro h; exact h) | (intro h; rw [h]; rfl) | (intro h1 h2; rw [h1, h2]; rfl) | (intro _; assumption) | (intro _; exact rfl) | (intro h; exact Bool.noConfusion (h.symm.trans ‹_ = false›)) | refine ⟨fun _ => ?_, fun _ => ?_⟩ | refine ⟨?_⟩ | refine ⟨?_, ?_⟩ | fail)
    all_goals first | exact hpre | exact rfl | skip
    · exact chk_i (by rw [dMost, if_pos (beqT ‹_›)])
    · rename_i h1 h2; exact chk_i (by rw [dMost, if_neg (beqF h1), if_pos (beqT h2)])
    · rename_i h1 h2 h3; exact chk_i (by rw [dMost, if_neg (beqF h1), if_neg (beqF h2), if_pos (beqT h3)])
    · rename_i h1 h2 h3; exact chk_i (by rw [dMost, if_neg (beqF h1), if_neg (beqF h2), if_neg (beqF h3)])
  · cases hcr
set_option maxHeartbeats 4000000 in
set_option maxRecDepth 20000 in
theorem okRCheck (hS : Hyp G) : ConOK Tryz.prog G 15 cRCheck := by
  refine seat_con hS.seat [(33, cRIs2), (34, cRFind), (35, cRMost), (36, cRKind), (37, cRMay)] [] ⟨okRIs2 hS, okRFind hS, okRMost hS, okRKind hS, okRMay hS, trivial⟩ Tryz.func15 rfl rfl rfl ?_
  intro rvs cr hcr hpre
  unfold cRCheck at hcr
  split at hcr
  · rename_i p side clock full
    cases hcr
    refine ⟨⟨rfl, rfl, rfl⟩, fun c hc vs => ?_⟩
    repeat' (first | exact Bool.noConfusion ‹(!true) = true› | exact Bool.noConfusion ‹(!false) = false› | (intro h; exact h) | (intro h; rw [h]; rfl) | (intro h1 h2; rw [h1, h2]; rfl) | (intro _; assumption) | (intro _; exact rfl) | (intro h; exact Bool.noConfusion (h.symm.trans ‹_ = false›)) | refine ⟨fun _ => ?_, fun _ => ?_⟩ | refine ⟨?_⟩ | refine ⟨?_, ?_⟩ | fail)
    all_goals first | exact rfl | skip
    · rename_i h; exact chk_i (by rw [rCheck, if_pos (show rArg p side clock full = true from h)])
    · rename_i h
      have ha : rArg p side clock full = false := h
      have hp := (rArg_f ha).1
      have h90 := spIs_size hp
      refine Tr_gen 3 letP rfl (fun s hs => ?_)
      have hsz : s.size = 14 := by rw [hs]; rfl
      refine Tr_loopH (α := Nat) (fun i => [(4, .i .i64 (.ofNat i))]) (fun _ => []) (fun _ => []) (fun i => i ≤ 14 ∧ ∀ k, k < i → dBadN (bytesL p) (letL.getD k 0) = false) (fun i => 14 - i) 0 ⟨by omega, fun k hk => by omega⟩ (by (refine ⟨?_, rfl, ?_, ?_, ?_, rfl⟩ <;> repeat' (first | exact trivial | (refine ⟨rfl, ?_⟩) | fail))) ?_
      rintro i ⟨hi, hq⟩
      have hlt : decide (Int.ofNat i < (s.size : Int)) = true → i < 14 := fun h => by have := ltN h; omega
      have hbad : i < 14 → (decide (((spFind p (byteAt s (Int.ofNat i).toNat)).length : Int) > dMost (byteAt s (Int.ofNat i).toNat)) || ((spKind (byteAt s (Int.ofNat i).toNat) == 75) && (((spFind p (byteAt s (Int.ofNat i).toNat)).length : Int) != 1))) = dBadN (bytesL p) (letL.getD i 0) := fun h => by
        have e : byteAt s (Int.ofNat i).toNat = letL.getD i 0 := by rw [hs]; exact letP_at i h
        rw [e, find_cnt hp]; rfl
      refine vs.go rfl ?_
      repeat' (first | exact Bool.noConfusion ‹(!true) = true› | exact Bool.noConfusion ‹(!false) = false› | (intro h; exact h) | (intro h; rw [h]; rfl) | (intro h1 h2; rw [h1, h2]; rfl) | (intro _; assumption) | (intro _; exact rfl) | (intro h; exact Bool.noConfusion (h.symm.trans ‹_ = false›)) | refine ⟨fun _ => ?_, fun _ => ?_⟩ | refine ⟨?_⟩ | refine ⟨?_, ?_⟩ | fail)
      all_goals first | exact trivial | (refine (?_ : (_ : Int) ≠ _); decide) | exact rfl | skip
      all_goals try dsimp only at *
      all_goals first | exact BY.at _ _ | (intro _; exact BY.at _ _) | (rename_i h; have h := ltN h; show (i : Int) < (s.size : Int); omega) | (rename_i h; have h := ltN h; intro _; exact ⟨by simp, by show (i : Int) < (s.size : Int); omega⟩) | skip
      · rename_i h1 h2
        rw [hbad (hlt h1)] at h2
        exact chk_i (by rw [rCheck, if_neg (by simp [ha]), dCheck, if_pos (any_t (d := 0) (hlt h1) h2)])
      · rename_i h1 h2
        rw [hbad (hlt h1)] at h2
        have := hlt h1
        refine Again.mk (i + 1) ⟨by omega, till hq h2⟩ (by omega) ?_
        rw [wrapN (by omega)]
        (refine ⟨?_, rfl, ?_, ?_, ?_, rfl⟩ <;> repeat' (first | exact trivial | (refine ⟨rfl, ?_⟩) | fail))
      · rename_i h1
        have hi14 : i = 14 := by have := geN h1; omega
        have hN : letL.any (dBadN (bytesL p)) = false := any_f (d := 0) fun k hk => hq k (by rw [hi14]; exact hk)
        refine Tr_loopH (α := Nat) (fun j => [(6, .i .i64 (.ofNat j))]) (fun _ => []) (fun _ => []) (fun j => j ≤ 90 ∧ ∀ k, k < j → dBadP (bytesL p) (Int.ofNat k) = false) (fun j => 90 - j) 0 ⟨by omega, fun k hk => by omega⟩ (by (refine ⟨?_, rfl, ?_, ?_, ?_, rfl⟩ <;> repeat' (first | exact trivial | (refine ⟨rfl, ?_⟩) | fail))) ?_
        rintro j ⟨hj, hr⟩
        have hbp : ((byteAt p (Int.ofNat j).toNat != 46) && !spMay (byteAt p (Int.ofNat j).toNat) (Int.ofNat j)) = dBadP (bytesL p) (Int.ofNat j) := by rw [dBadP, bAt_bytes]
        refine vs.go rfl ?_
        repeat' (first | exact Bool.noConfusion ‹(!true) = true› | exact Bool.noConfusion ‹(!false) = false› | (intro h; exact h) | (intro h; rw [h]; rfl) | (intro h1 h2; rw [h1, h2]; rfl) | (intro _; assumption) | (intro _; exact rfl) | (intro h; exact Bool.noConfusion (h.symm.trans ‹_ = false›)) | refine ⟨fun _ => ?_, fun _ => ?_⟩ | refine ⟨?_⟩ | refine ⟨?_, ?_⟩ | fail)
        all_goals first | exact trivial | (refine (?_ : (_ : Int) ≠ _); decide) | exact rfl | skip
        all_goals try dsimp only at *
        all_goals first | exact BY.at _ _ | (intro _; exact BY.at _ _) | (rename_i h; have h := lt90 h; show (j : Int) < (p.size : Int); omega) | (rename_i h; have h := lt90 h; intro _; exact ⟨by simp, by show (j : Int) < (p.size : Int); omega⟩) | skip
        · rename_i h1 h2
          rw [hbp] at h2
          exact chk_i (by rw [rCheck, if_neg (by simp [ha]), dCheck, if_neg (by rw [hN]; exact Bool.noConfusion), if_pos (sqs_t (lt90 h1) h2)])
        · rename_i h1 h2
          rw [hbp] at h2
          have := lt90 h1
          refine Again.mk (j + 1) ⟨by omega, till hr h2⟩ (by omega) ?_
          rw [wrapN (by omega)]
          (refine ⟨?_, rfl, ?_, ?_, ?_, rfl⟩ <;> repeat' (first | exact trivial | (refine ⟨rfl, ?_⟩) | fail))
        · rename_i h1
          have := ge90 h1
          exact chk_i (by rw [rCheck, if_neg (by simp [ha]), dCheck, if_neg (by rw [hN]; exact Bool.noConfusion), if_neg (by rw [sqs_f fun k hk => hr k (by omega)]; exact Bool.noConfusion)])
  · cases hcr
end
end Go.X

namespace Go.X
open Go Go.Proofs

def cRParse4 : Con
  | [.a (.s s)] => some ⟨[CZ4 s], .tup [aggQ (pos4 s), .a (.i .i64 (err4 s))], [], []⟩
  | _ => none
/- The parts, veiled. -/
def vCut (Q : Parts) : Con
  | [.a (.s s), .a (.i .u8 c)] => some ⟨[CZ4 s], .row ⟨9, .str, Q.pc c s, true⟩, [], []⟩
  | _ => none
def vCells (Q : Parts) : Con
  | [.a (.s s)] => some ⟨[CZ4 s], .tup [.a (.s (Q.T s)), .a (.b (Q.O s))], [], []⟩
  | _ => none
def vNum (Q : Parts) : Con
  | [.a (.s s)] => some ⟨[CZ4 s], .tup [.a (.i .i64 (Q.V s)), .a (.b (Q.N s))], [], []⟩
  | _ => none
def vCheck (Q : Parts) : Con
  | [.agg [.a (.s p), .a (.i .i64 side), .a (.i .i64 clock), .a (.i .i64 full)]] => some ⟨[], .a (.i .i64 (Q.C p side clock full)), [], []⟩
  | _ => none
def vParse (Q : Parts) : Con
  | [.a (.s s)] => some ⟨[CZ4 s], .tup [aggQ (mir4 Q s).1, .a (.i .i64 (mir4 Q s).2)], [], []⟩
  | _ => none
section
variable {G : Nat → World → Prop}
set_option maxHeartbeats 40000000 in
set_option maxRecDepth 20000 in
theorem walkRParse4 (hS : Hyp G) (Q : Parts) (hpc : ∀ s i, s.size ≤ 4000000 → ((Q.pc 32 s).getD i ByteArray.empty).size ≤ 4000000) (h1 : ConOK Tryz.prog G 16 (vCut Q)) (h2 : ConOK Tryz.prog G 19 (vCells Q)) (h3 : ConOK Tryz.prog G 20 (vNum Q)) (h4 : ConOK Tryz.prog G 15 (vCheck Q)) : ConOK Tryz.prog G 12 (vParse Q) := by
  refine seat_con hS.seat [(16, vCut Q), (19, vCells Q), (20, vNum Q), (15, vCheck Q)] [] ⟨h1, h2, h3, h4, trivial⟩ Tryz.func12 rfl rfl rfl ?_
  intro rvs cr hcr hpre
  unfold vParse at hcr
  split at hcr
  · rename_i s
    cases hcr
    simp only [List.mem_cons, List.not_mem_nil, or_false, forall_eq_or_imp, forall_eq] at hpre
    refine ⟨⟨rfl, rfl, rfl⟩, fun c hc vs => ?_⟩
    have hsz := hpre.le
    obtain ⟨M, hM⟩ : ∃ x, mir4 Q s = x := ⟨_, rfl⟩
    rw [hM]
    repeat' (first | exact Bool.noConfusion ‹(!true) = true› | exact Bool.noConfusion ‹(!false) = false› | (intro h; exact h) | (intro h; rw [h]; rfl) | (intro h1 h2; rw [h1, h2]; rfl) | (intro _; assumption) | (intro _; exact rfl) | (intro h; exact Bool.noConfusion (h.symm.trans ‹_ = false›)) | refine ⟨fun _ => ?_, fun _ => ?_⟩ | refine ⟨?_⟩ | refine ⟨?_, ?_⟩ | fail)
    all_goals first | exact (Bool.noConfusion ((‹strEq ((Q.pc 32 s).getD 1 ByteArray.empty) ⟨#[119]⟩ = true›).symm.trans ‹strEq ((Q.pc 32 s).getD 1 ByteArray.empty) ⟨#[119]⟩ = false›)) | skip
    all_goals first | exact trivial | exact rfl | (refine (?_ : CZ4 _); first | exact hpre | exact ⟨hpc _ _ hsz, trivial, trivial⟩) | skip
    all_goals first | (have hE := hM.symm.trans (mir_long ‹decide ((s.size : Int) > 1000) = true›); rw [hE]; first | exact chk_s rfl | exact chk_i rfl) | skip
    all_goals first | (have hz := ‹decide ((s.size : Int) > 1000) = false›; first | (have hE := hM.symm.trans (mir_len hz ‹(Int.ofNat (Q.pc 32 s).length != 2 && Int.ofNat (Q.pc 32 s).length != 6) = true›); rw [hE]; first | exact chk_s rfl | exact chk_i rfl) | (have hl := ‹(Int.ofNat (Q.pc 32 s).length != 2 && Int.ofNat (Q.pc 32 s).length != 6) = false›; first | exact len_lt (n := 0) (by decide) hl | exact len_lt (n := 1) (by decide) hl | (have hE := hM.symm.trans (mir_side hz hl (sd_n ‹strEq ((Q.pc 32 s).getD 1 ByteArray.empty) ⟨#[119]⟩ = false› ‹strEq ((Q.pc 32 s).getD 1 ByteArray.empty) ⟨#[114]⟩ = false› ‹strEq ((Q.pc 32 s).getD 1 ByteArray.empty) ⟨#[98]⟩ = false›)); rw [hE]; first | exact chk_s rfl | exact chk_i rfl) | (have hgo := mir_go hz hl (sd_w ‹strEq ((Q.pc 32 s).getD 1 ByteArray.empty) ⟨#[119]⟩ = true›)) | (have hgo := mir_go hz hl (sd_r ‹strEq ((Q.pc 32 s).getD 1 ByteArray.empty) ⟨#[119]⟩ = false› ‹strEq ((Q.pc 32 s).getD 1 ByteArray.empty) ⟨#[114]⟩ = true›)) | (have hgo := mir_go hz hl (sd_b ‹strEq ((Q.pc 32 s).getD 1 ByteArray.empty) ⟨#[119]⟩ = false› ‹strEq ((Q.pc 32 s).getD 1 ByteArray.empty) ⟨#[114]⟩ = false› ‹strEq ((Q.pc 32 s).getD 1 ByteArray.empty) ⟨#[98]⟩ = true›)))) | skip
    all_goals first | (have h6 := ‹(Int.ofNat (Q.pc 32 s).length == 6) = true›; first | exact len_lt6 (n := 4) (by decide) h6 | exact len_lt6 (n := 5) (by decide) h6 | exact (fun _ => ⟨by decide, len_lt6 (n := 2) (by decide) h6⟩) | exact (fun _ => ⟨by decide, len_lt6 (n := 3) (by decide) h6⟩) | (have hE := hM.symm.trans (hgo.trans (tail_6 h6 ‹(!(Q.O ((Q.pc 32 s).getD 0 ByteArray.empty) && Q.N ((Q.pc 32 s).getD 4 ByteArray.empty) && Q.N ((Q.pc 32 s).getD 5 ByteArray.empty) && strEq ((Q.pc 32 s).getD 2 ByteArray.empty) ⟨#[45]⟩ && strEq ((Q.pc 32 s).getD 3 ByteArray.empty) ⟨#[45]⟩)) = true›)); rw [hE]; first | exact chk_s rfl | exact chk_i rfl) | (have hb := hgo.trans (tail_6k h6 ‹(!(Q.O ((Q.pc 32 s).getD 0 ByteArray.empty) && Q.N ((Q.pc 32 s).getD 4 ByteArray.empty) && Q.N ((Q.pc 32 s).getD 5 ByteArray.empty) && strEq ((Q.pc 32 s).getD 2 ByteArray.empty) ⟨#[45]⟩ && strEq ((Q.pc 32 s).getD 3 ByteArray.empty) ⟨#[45]⟩)) = false›))) | (have h6 := ‹(Int.ofNat (Q.pc 32 s).length == 6) = false›; first | (have hE := hM.symm.trans (hgo.trans (tail_2 h6 ‹(!(Q.O ((Q.pc 32 s).getD 0 ByteArray.empty))) = true›)); rw [hE]; first | exact chk_s rfl | exact chk_i rfl) | (have hb := hgo.trans (tail_2k h6 ‹(!(Q.O ((Q.pc 32 s).getD 0 ByteArray.empty))) = false›))) | skip
    all_goals first | (have hE := hM.symm.trans (hb.trans (ck_t ‹(Q.C _ _ _ _ != 0) = true›)); rw [hE]; first | exact chk_s rfl | exact chk_i rfl) | (have hE := hM.symm.trans (hb.trans (ck_f ‹(Q.C _ _ _ _ != 0) = false›)); rw [hE]; first | exact chk_s rfl | exact chk_i rfl) | skip
    all_goals done
  · cases hcr
theorem okRParse4 (hS : Hyp G) : ConOK Tryz.prog G 12 cRParse4 := by
  have e1 : cCut4 = vCut dP := rfl
  have e2 : cCells4 = vCells dP := rfl
  have e3 : cNum4 = vNum dP := rfl
  have e4 : cRCheck = vCheck dP := rfl
  have e5 : vParse dP = cRParse4 := by
    funext l
    unfold vParse cRParse4
    split
    · simp only [mir_eq]
    · rfl
  rw [← e5]
  exact walkRParse4 hS dP (fun s i h => fld_tz h i) (e1 ▸ okCut4 hS) (e2 ▸ okCells4 hS) (e3 ▸ okNum4 hS) (e4 ▸ okRCheck hS)
end
end Go.X

namespace Go.X
open Go Go.Proofs Go.RowKit

theorem seat_ok (g : Nat → World → Prop) (hg : ∀ (c : Ctx), g c.g0 c.w0 → ∀ w, Frame c w → g c.g0 w) : Seat Tryz.prog g TT := ⟨tt_ok, by kernel_rfl, hg⟩
def GG (g0 : Nat) (w : World) : Prop := 9 ≤ g0 ∧ TabAt (Tryz.laysT29_ren.g 1) Lib.deBruijn64tab w ∧ Globs w
theorem g_lt : Tryz.laysT29_ren.g 1 < 9 := by decide +kernel
theorem gg_keep (c : Ctx) (h : GG c.g0 c.w0) (w : World) (hf : Frame c w) : GG c.g0 w := by
  have hb : ∀ k, k < 9 → w.heap[k]? = c.w0.heap[k]? := fun k hk => by
    have hlt : k < c.base := Nat.lt_of_lt_of_le (Nat.lt_of_lt_of_le hk h.1) c.g0_le
    exact hf.block _ hlt (fun hw => absurd (c.wr_ge _ hw) (Nat.not_le.2 (Nat.lt_of_lt_of_le hk h.1)))
  refine ⟨h.1, fun j hj => ?_, h.2.2.same hb⟩
  have h1 := h.2.1 j hj
  unfold World.cell? at h1 ⊢
  dsimp only at h1 ⊢
  rw [hb _ g_lt]; exact h1
theorem hyp : Hyp GG := ⟨seat_ok GG gg_keep, fun _ _ h => h.2.1, fun _ _ h => h.2.2⟩
theorem law_calls {f : FuncId} {con : Con} {w : World} {avs : List AV} {rvs : List RV} {pre : List Prop} {vals : List Value} (hC : ConOK Tryz.prog GG f con) (hs : 9 ≤ w.heap.size) (hT : TabAt (Tryz.laysT29_ren.g 1) Lib.deBruijn64tab w) (hg : Globs w)
    (hres : allRes (resolve st0) avs = some rvs) (hR : RL st0 e0 avs vals) (hcr : con rvs = some ⟨pre, .a (.b true), [], []⟩) (hpre : ∀ p ∈ pre, p) :
    Calls Tryz.prog f vals.toArray w fun en w' => en = .returned (.bool true) ∧ Below w.heap.size w w' := by
  refine (con_calls hC (g0 := 9) hs ⟨Nat.le_refl _, hT, hg⟩ hres hR hcr hpre).mono ?_
  rintro en w' ⟨v, e', rfl, h1, h2⟩
  refine ⟨?_, top_below h1.frame⟩
  simp only [RT.inst, R] at h2
  rw [h2]
end Go.X

namespace Go.X
open Go Go.Proofs

def cDigK (k : Nat) : Con
  | [.a (.i .i64 n)] => some ⟨[DG k n], .a (.s (bytesOf (digL n))), [], []⟩
  | _ => none
def cDig4 : Con := cDigK 4
def cRow4 : Con
  | [.a (.s b), .a (.i .i64 r)] => some ⟨[RW b r], .a (.s (bytesOf (rk (bytesL b) r.toNat))), [], []⟩
  | _ => none
section
variable {G : Nat → World → Prop}
set_option maxHeartbeats 4000000 in
set_option maxRecDepth 20000 in
theorem okDigK (hS : Hyp G) : ∀ k, ConOK Tryz.prog G 32 (cDigK k)
  | 0 => by
    refine seat_con hS.seat [] [] trivial Tryz.func32 rfl rfl rfl ?_
    intro rvs cr hcr hpre
    unfold cDigK at hcr
    split at hcr
    · cases hcr
      simp only [List.mem_cons, List.not_mem_nil, or_false, forall_eq_or_imp, forall_eq] at hpre
      exact absurd hpre.pos.1 (Nat.lt_irrefl 0)
    · cases hcr
  | k + 1 => by
    refine seat_con hS.seat [(32, cDigK k)] [] ⟨okDigK hS k, trivial⟩ Tryz.func32 rfl rfl rfl ?_
    intro rvs cr hcr hpre
    unfold cDigK at hcr
    split at hcr
    · rename_i n
      cases hcr
      simp only [List.mem_cons, List.not_mem_nil, or_false, forall_eq_or_imp, forall_eq] at hpre
      refine ⟨⟨rfl, rfl, rfl⟩, fun c hc vs => ?_⟩
      have h0 := hpre.lo
      have h9 := hpre.pos.2
      repeat' (first | exact Bool.noConfusion ‹(!true) = true› | exact Bool.noConfusion ‹(!false) = false› | (intro h; exact h) | (intro h; rw [h]; rfl) | (intro h1 h2; rw [h1, h2]; rfl) | (intro _; assumption) | (intro _; exact rfl) | (intro h; exact Bool.noConfusion (h.symm.trans ‹_ = false›)) | refine ⟨fun _ => ?_, fun _ => ?_⟩ | refine ⟨?_⟩ | refine ⟨?_, ?_⟩ | fail)
      all_goals first | exact trivial | (refine (?_ : (_ : Int) ≠ _); decide) | exact rfl | skip
      all_goals try dsimp only at *
      all_goals first | exact trivial | exact rfl | exact (by decide : (10 : Int) ≠ 0) | skip
      all_goals try simp only [dig_byte h0 h9] at *
      · have h10 : n ≥ 10 := of_decide_eq_true ‹decide (n ≥ 10) = true›
        have hd : Int.tdiv n 10 = n / 10 := Int.tdiv_eq_ediv_of_nonneg h0
        rw [wrap64 (by omega) (by omega)]
        exact hpre.next h10
      · have h10 : n ≥ 10 := of_decide_eq_true ‹decide (n ≥ 10) = true›
        have hd : Int.tdiv n 10 = n / 10 := Int.tdiv_eq_ediv_of_nonneg h0
        rw [wrap64 (by omega) (by omega), size_bytesOf, hd]
        have := dig_len (n := n / 10) (by omega) (by omega)
        show (_ : Nat) + 1 ≤ _
        omega
      · have h10 : n ≥ 10 := of_decide_eq_true ‹decide (n ≥ 10) = true›
        have hd : Int.tdiv n 10 = n / 10 := Int.tdiv_eq_ediv_of_nonneg h0
        rw [wrap64 (by omega) (by omega)]
        exact chk_s (dig_step h10)
      · have h10 : ¬ n ≥ 10 := of_decide_eq_false ‹decide (n ≥ 10) = false›
        refine chk_s ?_
        rw [dig_one h0 (by omega), Int.emod_eq_of_lt h0 (by omega)]
    · cases hcr
theorem okDig4 (hS : Hyp G) : ConOK Tryz.prog G 32 cDig4 := okDigK hS 4
set_option maxHeartbeats 4000000 in
set_option maxRecDepth 20000 in
theorem okRow4 (hS : Hyp G) : ConOK Tryz.prog G 31 cRow4 := by
  refine seat_con hS.seat [(32, cDig4)] [] ⟨okDig4 hS, trivial⟩ Tryz.func31 rfl rfl rfl ?_
  intro rvs cr hcr hpre
  unfold cRow4 at hcr
  split at hcr
  · rename_i b r
    cases hcr
    simp only [List.mem_cons, List.not_mem_nil, or_false, forall_eq_or_imp, forall_eq] at hpre
    refine ⟨⟨rfl, rfl, rfl⟩, fun c hc vs => ?_⟩
    have hb := hpre.sz; have hr0 := hpre.lo; have hr1 := hpre.hi
    have hbl : (bytesL b).length = 90 := by rw [bL_len]; exact hb
    obtain ⟨q, rfl⟩ : ∃ q : Nat, r = (q : Int) := ⟨r.toNat, by omega⟩
    have hq9 : q ≤ 9 := by omega
    rw [Int.toNat_natCast]
    repeat' (first | exact Bool.noConfusion ‹(!true) = true› | exact Bool.noConfusion ‹(!false) = false› | (intro h; exact h) | (intro h; rw [h]; rfl) | (intro h1 h2; rw [h1, h2]; rfl) | (intro _; assumption) | (intro _; exact rfl) | (intro h; exact Bool.noConfusion (h.symm.trans ‹_ = false›)) | refine ⟨fun _ => ?_, fun _ => ?_⟩ | refine ⟨?_⟩ | refine ⟨?_, ?_⟩ | fail)
    all_goals first | exact trivial | exact rfl | skip
    refine Tr_loopH (α := Nat) (fun i => [(5, .s (bytesOf (rst (bytesL b) q i).1)), (6, .i .i64 (rst (bytesL b) q i).2), (7, .i .i64 (.ofNat i))]) (fun _ => []) (fun _ => []) (fun i => RInv (bytesL b) q i) (fun i => 9 - i) 0 (RInv.start _ _) (by rw [show rst (bytesL b) q 0 = ([], 0) by unfold rst; rw [show 9 * q + 0 = 9 * q from rfl, part_self]; rfl]; (refine ⟨?_, rfl, ?_, ?_, ?_, rfl⟩ <;> repeat' (first | exact trivial | (refine ⟨rfl, ?_⟩) | fail))) ?_
    intro i hi
    have hi9 := hi.hi; have hk0 := hi.k0; have hk1 := hi.k1; have hln := hi.len
    obtain ⟨⟨out, k⟩, hst⟩ : ∃ x, rst (bytesL b) q i = x := ⟨_, rfl⟩
    rw [hst] at hk0 hk1 hln
    rw [hst]
    dsimp only at hk0 hk1 hln
    obtain ⟨d, hd⟩ : ∃ d, byteAt b (9 * q + i) = d := ⟨_, rfl⟩
    have hgd : (bytesL b).getD (9 * q + i) 0 = d := by rw [bL_at]; exact hd
    have hw : q ≤ 9 → i < 9 → IntKind.i64.wrap (IntKind.i64.wrap (9 * (q : Int)) + Int.ofNat i) = ((9 * q + i : Nat) : Int) := fun _ hi => by
      rw [wrap64 (x := 9 * (q : Int)) (by omega) (by omega), wrap64 (by show _ ≤ _ + (i : Int); omega) (by show _ + (i : Int) ≤ _; omega)]
      show _ + (i : Int) = _; omega
    have hdg : 0 < k → DG 4 k := fun h => DG.of (by omega) (by omega)
    have hdl : 0 < k → (digL k).length ≤ 1 := fun h => by rw [dig_one (by omega) (by omega)]; exact Nat.le_refl _
    refine vs.go rfl ?_
    repeat' (first | exact Bool.noConfusion ‹(!true) = true› | exact Bool.noConfusion ‹(!false) = false› | (intro h; exact h) | (intro h; rw [h]; rfl) | (intro h1 h2; rw [h1, h2]; rfl) | (intro _; assumption) | (intro _; exact rfl) | (intro h; exact Bool.noConfusion (h.symm.trans ‹_ = false›)) | refine ⟨fun _ => ?_, fun _ => ?_⟩ | refine ⟨?_⟩ | refine ⟨?_, ?_⟩ | fail)
    all_goals first | exact trivial | (refine (?_ : (_ : Int) ≠ _); decide) | exact rfl | skip
    all_goals try dsimp only at *
    all_goals first | exact trivial | exact rfl | skip
    all_goals first | (have hlt : i < 9 := Int.ofNat_lt.1 (of_decide_eq_true ‹decide (Int.ofNat i < 9) = true›); have hn := rst_next hbl hq9 hlt; rw [hst, hgd] at hn; simp only [hw hq9 hlt, Int.toNat_natCast, hd] at *) | (have hge : ¬ (i : Int) < 9 := of_decide_eq_false ‹decide (Int.ofNat i < 9) = false›; have hi9' : i = 9 := (by omega); subst hi9')
    all_goals first | exact hdg (of_decide_eq_true ‹decide (k > 0) = true›) | (have hk := hdl (of_decide_eq_true ‹decide (k > 0) = true›); simp only [size_bytesOf, ByteArray.size_append, List.length_singleton]; omega) | (simp only [size_bytesOf, ByteArray.size_append, List.length_singleton]; omega) | skip
    · exact Int.natCast_nonneg _
    · exact Int.ofNat_lt.2 (by omega)
    · rw [step_dot (beqT ‹(d == 46) = true›)] at hn
      refine Again.mk (i + 1) (hi.next hbl hq9 hlt) (by show 9 - (i + 1) < 9 - i; omega) ?_
      rw [hn, wrap64 (x := k + 1) (by omega) (by omega), wrapN (by omega)]
      (refine ⟨?_, rfl, ?_, ?_, ?_, rfl⟩ <;> repeat' (first | exact trivial | (refine ⟨rfl, ?_⟩) | fail))
    · rw [step_gap (beqF ‹(d == 46) = false›) (of_decide_eq_true ‹decide (k > 0) = true›)] at hn
      refine Again.mk (i + 1) (hi.next hbl hq9 hlt) (by show 9 - (i + 1) < 9 - i; omega) ?_
      rw [hn, ← bytesOf_app, ← bytesOf_app, wrapN (by omega)]
      (refine ⟨?_, rfl, ?_, ?_, ?_, rfl⟩ <;> repeat' (first | exact trivial | (refine ⟨rfl, ?_⟩) | fail))
    · rw [step_no (beqF ‹(d == 46) = false›) (of_decide_eq_false ‹decide (k > 0) = false›)] at hn
      refine Again.mk (i + 1) (hi.next hbl hq9 hlt) (by show 9 - (i + 1) < 9 - i; omega) ?_
      rw [hn, ← bytesOf_app, wrapN (by omega)]
      (refine ⟨?_, rfl, ?_, ?_, ?_, rfl⟩ <;> repeat' (first | exact trivial | (refine ⟨rfl, ?_⟩) | fail))
    · rw [rk_end, hst, end_gap (of_decide_eq_true ‹decide (k > 0) = true›), bytesOf_app]; exact chk_s rfl
    · rw [rk_end, hst, end_no (of_decide_eq_false ‹decide (k > 0) = false›)]; exact chk_s rfl
  · cases hcr
end
end Go.X

namespace Go.X
open Go Go.Proofs

def cRPrint4 : Con
  | [.agg [.a (.s p), .a (.i .i64 side), .a (.i .i64 clock), .a (.i .i64 full)]] => some ⟨[], .tup [.a (.s (printP (p, side, clock, full)).1), .a (.i .i64 (printP (p, side, clock, full)).2)], [], []⟩
  | _ => none
section
variable {G : Nat → World → Prop}
set_option maxHeartbeats 4000000 in
set_option maxRecDepth 20000 in
theorem okRPrint4 (hS : Hyp G) : ConOK Tryz.prog G 14 cRPrint4 := by
  refine seat_con hS.seat [(15, cRCheck), (31, cRow4), (32, cDig4)] [] ⟨okRCheck hS, okRow4 hS, okDig4 hS, trivial⟩ Tryz.func14 rfl rfl rfl ?_
  intro rvs cr hcr hpre
  unfold cRPrint4 at hcr
  split at hcr
  · rename_i p side clock full
    cases hcr
    refine ⟨⟨rfl, rfl, rfl⟩, fun c hc vs => ?_⟩
    obtain ⟨P4, hP⟩ : ∃ x, printP (p, side, clock, full) = x := ⟨_, rfl⟩
    obtain ⟨C, hC⟩ : ∃ x, rCheck p side clock full = x := ⟨_, rfl⟩
    have hk : ck (p, side, clock, full) = C := hC
    rw [hP]
    repeat' (first | exact Bool.noConfusion ‹(!true) = true› | exact Bool.noConfusion ‹(!false) = false› | (intro h; exact h) | (intro h; rw [h]; rfl) | (intro h1 h2; rw [h1, h2]; rfl) | (intro _; assumption) | (intro _; exact rfl) | (intro h; exact Bool.noConfusion (h.symm.trans ‹_ = false›)) | refine ⟨fun _ => ?_, fun _ => ?_⟩ | refine ⟨?_⟩ | refine ⟨?_, ?_⟩ | fail)
    all_goals simp only [hC] at *
    all_goals first | exact trivial | exact rfl | skip
    · rw [hP.symm.trans (print_chk (by rw [hk]; assumption))]; exact chk_s rfl
    · rw [hP.symm.trans (print_chk (by rw [hk]; assumption)), hk]; exact chk_i rfl
    all_goals
      have hc0 : (C != 0) = false := ‹(C != 0) = false›
      have hk0 : ck (p, side, clock, full) = 0 := by rw [hk]; exact bneF hc0
      have hok := pr_ok hk0
      have hcb : cellsB (bytesL p) := hok.c
      have hbl : (bytesL p).length = 90 := hok.l
      have hpz : p.size = 90 := by rw [← bL_len]; exact hbl
      have hPr : P4 = (prB (p, side, clock, full), 0) := hP.symm.trans (print_ok (by rw [hk]; exact hc0))
    · exact ⟨hpz, by decide, by decide⟩
    refine Tr_loopH (α := Nat) (fun i => [(5, .s (bytesOf (rowsT (bytesL p) (i + 1)))), (6, .i .i64 (8 - (i : Int)))]) (fun _ => []) (fun _ => []) (fun i => i ≤ 9) (fun i => 9 - i) 0 (by decide) (by rw [rows_one]; (refine ⟨?_, rfl, ?_, ?_, ?_, rfl⟩ <;> repeat' (first | exact trivial | (refine ⟨rfl, ?_⟩) | fail))) ?_
    intro i hi
    have hrl := rows_len hcb hbl (i + 1)
    refine vs.go rfl ?_
    repeat' (first | exact Bool.noConfusion ‹(!true) = true› | exact Bool.noConfusion ‹(!false) = false› | (intro h; exact h) | (intro h; rw [h]; rfl) | (intro h1 h2; rw [h1, h2]; rfl) | (intro _; assumption) | (intro _; exact rfl) | (intro h; exact Bool.noConfusion (h.symm.trans ‹_ = false›)) | refine ⟨fun _ => ?_, fun _ => ?_⟩ | refine ⟨?_⟩ | refine ⟨?_, ?_⟩ | fail)
    all_goals first | exact trivial | (refine (?_ : (_ : Int) ≠ _); decide) | exact rfl | skip
    all_goals try dsimp only at *
    all_goals first | exact trivial | exact rfl | skip
    all_goals
      have hdk := dig_len hok.k.1 (by have := hok.k.2; omega)
      have hdf := dig_len (n := full) (by have := hok.f.1; omega) hok.f.2
    all_goals first | exact DG.of hok.k.1 (by have := hok.k.2; omega) | exact DG.of (n := full) (by have := hok.f.1; omega) hok.f.2 | (simp only [size_bytesOf, ByteArray.size_append, show (⟨#[47]⟩ : ByteArray).size = 1 from rfl, show (⟨#[32]⟩ : ByteArray).size = 1 from rfl, show (⟨#[32, 98, 32, 45, 32, 45, 32]⟩ : ByteArray).size = 7 from rfl, show (⟨#[32, 119, 32, 45, 32, 45, 32]⟩ : ByteArray).size = 7 from rfl]; omega) | skip
    · have h8 : (8 : Int) - i ≥ 0 := of_decide_eq_true ‹decide ((8 : Int) - i ≥ 0) = true›
      exact ⟨hpz, h8, by omega⟩
    · have h8 : (8 : Int) - i ≥ 0 := of_decide_eq_true ‹decide ((8 : Int) - i ≥ 0) = true›
      have := rk_len hcb hbl (r := ((8 : Int) - i).toNat) (by omega)
      simp only [size_bytesOf, ByteArray.size_append, show (⟨#[47]⟩ : ByteArray).size = 1 from rfl]
      omega
    · have h8 : (8 : Int) - i ≥ 0 := of_decide_eq_true ‹decide ((8 : Int) - i ≥ 0) = true›
      refine Again.mk (i + 1) (by omega) (by omega) ?_
      rw [rows_next (n := i + 1) (by omega) (by omega), bytesOf_app, bytesOf_app, show 9 - (i + 1) = ((8 : Int) - i).toNat by omega, wrap64 (by omega) (by omega), show (8 : Int) - i - 1 = 8 - ((i + 1 : Nat) : Int) by omega]
      (refine ⟨?_, rfl, ?_, ?_, ?_, rfl⟩ <;> repeat' (first | exact trivial | (refine ⟨rfl, ?_⟩) | fail))
    · have h8 : ¬ (8 : Int) - i ≥ 0 := of_decide_eq_false ‹decide ((8 : Int) - i ≥ 0) = false›
      have h9 : i = 9 := by omega
      subst h9
      rw [hPr, prB_app, rows_all, side_t ‹(side == 1) = true›]; exact chk_s rfl
    · rw [hPr]; exact chk_i rfl
    · have h8 : ¬ (8 : Int) - i ≥ 0 := of_decide_eq_false ‹decide ((8 : Int) - i ≥ 0) = false›
      have h9 : i = 9 := by omega
      subst h9
      rw [hPr, prB_app, rows_all, side_f ‹(side == 1) = false›]; exact chk_s rfl
    · rw [hPr]; exact chk_i rfl
  · cases hcr
end
end Go.X
