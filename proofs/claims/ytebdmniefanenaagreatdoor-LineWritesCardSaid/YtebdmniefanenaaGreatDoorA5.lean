/-
  Parts of the proof.
-/
import Derived.Test.YtebdmniefanenaaGreatDoorA4
import Derived.Test.YtebdmniefanenaaGreatDoorA2
import Derived.LaidEql
import Derived.Stop.Asserts
import Derived.RowKitTokens
import Derived.Test.YtebdmniefanenaaGreatDoorA3

set_option linter.unusedSimpArgs false
set_option linter.unusedVariables false

namespace Go.X
open Go Go.Proofs

def cCellsP : Con
  | [.a (.s s)] => some ⟨[TZ4 s], .tup [.a (.s (bytesOf (cellsT (bytesL s)))), .a (.b (cellsOk (bytesL s)))], [], []⟩
  | _ => none
section
variable {G : Nat → World → Prop}
set_option maxHeartbeats 4000000 in
set_option maxRecDepth 20000 in
theorem okCellsP (hS : Hyp G) : ConOK Tryz.prog G 127 cCellsP := by
  refine seat_con hS.seat [(32, cSplitS), (43, cRev), (1000043, cMark), (149, cRankP), (42, cBStrS), (1000042, cMark)] [] ⟨okSplitS hS, okRev hS, okMark, okRankP hS, okBStrS hS, okMark, trivial⟩ Tryz.func127 rfl rfl rfl ?_
  intro rvs cr hcr hpre
  unfold cCellsP at hcr
  split at hcr
  · rename_i s
    cases hcr
    simp only [List.mem_cons, List.not_mem_nil, or_false, forall_eq_or_imp, forall_eq] at hpre
    refine ⟨⟨rfl, rfl, rfl⟩, fun c hc vs => ?_⟩
    have hsz := hpre.le
    obtain ⟨L, hL⟩ : ∃ L, (pieces 47 s).reverse = L := ⟨_, rfl⟩
    have hLs : splitL s ⟨#[47]⟩ = pieces 47 s := rfl
    have e3 : (pieces 47 s).length = L.length := by rw [← hL, List.length_reverse]
    have hLn : L.length ≤ s.size + 1 := by
      rw [← hL, List.length_reverse, pieces_length]
      have := cutAt_len 47 (bytesL s)
      have e : (bytesL s).length = s.size := by simp [bytesL]
      omega
    repeat' (first | exact Bool.noConfusion ‹(!true) = true› | exact Bool.noConfusion ‹(!false) = false› | (intro h; exact h) | (intro h; rw [h]; rfl) | (intro h1 h2; rw [h1, h2]; rfl) | (intro _; assumption) | (intro _; exact rfl) | (intro h; exact Bool.noConfusion (h.symm.trans ‹_ = false›)) | refine ⟨fun _ => ?_, fun _ => ?_⟩ | refine ⟨?_⟩ | refine ⟨?_, ?_⟩ | fail)
    all_goals try simp only [hLs, hL]
    all_goals first | exact rfl | exact trivial | skip
    · exact ⟨hsz, rfl, trivial⟩
    · rw [← List.length_reverse, hL]; omega
    refine Tr_nilBox 5 (.int .u8) 0 1 rfl rfl (by decide) ?_
    refine Tr_loopH (α := Nat × List Int) (fun x => [(16, .i .i64 (.ofNat x.1))]) (fun x => [(0, some ⟨75, [fr0 x.1, .row 1], true⟩)]) (fun x => [(1, some ⟨5, .int .u8, x.2, true⟩)])
      (fun x => x.1 ≤ L.length ∧ (L.take x.1).foldl cstepB (some []) = some x.2 ∧ x.2.length = 9 * x.1 ∧ BYL x.2) (fun x => L.length - x.1) (0, []) ⟨Nat.zero_le _, rfl, rfl, ⟨by simp, trivial, trivial⟩⟩ (by (refine ⟨?_, rfl, ?_, ?_, ?_, rfl⟩ <;> repeat' (first | exact trivial | (refine ⟨rfl, ?_⟩) | fail))) ?_
    rintro ⟨i, acc⟩ ⟨hi, hq, hl, hb⟩
    rcases i with _ | i
    · refine vs.go rfl ?_
      repeat' (first | exact Bool.noConfusion ‹(!true) = true› | exact Bool.noConfusion ‹(!false) = false› | (intro h; exact h) | (intro h; rw [h]; rfl) | (intro h1 h2; rw [h1, h2]; rfl) | (intro _; assumption) | (intro _; exact rfl) | (intro h; exact Bool.noConfusion (h.symm.trans ‹_ = false›)) | refine ⟨fun _ => ?_, fun _ => ?_⟩ | refine ⟨?_⟩ | refine ⟨?_, ?_⟩ | fail)
      all_goals first | exact trivial | (refine (?_ : (_ : Int) ≠ _); decide) | exact rfl | skip
      all_goals try dsimp only at *
      all_goals first | exact trivial | exact rfl | skip
      rotate_right 3
      · exact hb
      all_goals first | (have hil : 0 = L.length := Nat.le_antisymm hi (Nat.not_lt.1 fun h => of_decide_eq_false ‹decide (Int.ofNat (0) < _) = false› (Int.ofNat_lt.2 h))
                         rw [hil, ← hL] at hq
                         obtain ⟨e1, e2⟩ := cells_done hq
                         first | (rw [e1]; exact chk_s rfl) | (rw [e2]; refine chk_b ?_; rw [e3, Bool.eq_iff_iff]; simp only [beq_iff_eq, decide_eq_true_eq]; omega)) | skip
      all_goals
        have hlt : 0 < L.length := Int.ofNat_lt.1 (of_decide_eq_true ‹decide (Int.ofNat (0) < _) = true›)
        have hmem : L.getD (0) ByteArray.empty ∈ L := getD_mem hlt
        have hpz : (L.getD (0) ByteArray.empty).size ≤ s.size := by
          rw [← hL] at hmem ⊢
          exact pieces_short (List.mem_reverse.1 hmem)
      · exact Int.ofNat_lt.2 hlt
      · exact ⟨by show (L.getD (0) ByteArray.empty).size ≤ _; omega, trivial, trivial⟩
      · have hr : rankOk (bytesL (L.getD (0) ByteArray.empty)) = false := (Bool.not_eq_true' _).mp (‹(!rankOk _) = true› : (!rankOk (bytesL (L.getD (0) ByteArray.empty))) = true)
        subst hL
        rw [(cells_bad hlt hq hr).1]; exact chk_s rfl
      · have hr : rankOk (bytesL (L.getD (0) ByteArray.empty)) = false := (Bool.not_eq_true' _).mp (‹(!rankOk _) = true› : (!rankOk (bytesL (L.getD (0) ByteArray.empty))) = true)
        subst hL
        rw [(cells_bad hlt hq hr).2]; exact chk_b rfl
      · have hr : rankOk (bytesL (L.getD (0) ByteArray.empty)) = true := (Bool.not_eq_false' _).mp (‹(!rankOk _) = false› : (!rankOk (bytesL (L.getD (0) ByteArray.empty))) = false)
        have h9 := ((rank_two _).1 hr).2
        have hrb := rank_by (b := bytesL (L.getD (0) ByteArray.empty)) (fun x hx => bytesL_bound _ x hx)
        repeat' (first | exact Bool.noConfusion ‹(!true) = true› | exact Bool.noConfusion ‹(!false) = false› | (intro h; exact h) | (intro h; rw [h]; rfl) | (intro h1 h2; rw [h1, h2]; rfl) | (intro _; assumption) | (intro _; exact rfl) | (intro h; exact Bool.noConfusion (h.symm.trans ‹_ = false›)) | refine ⟨fun _ => ?_, fun _ => ?_⟩ | refine ⟨?_⟩ | refine ⟨?_, ?_⟩ | fail)
        refine trOps_none rfl (inl_one false hS.seat.tt rfl rfl Tryz.func40 rfl rfl ?_)
        intro cI hkI hrI
        refine (vs.kin hkI).go rfl ?_
        repeat' (first | exact Bool.noConfusion ‹(!true) = true› | exact Bool.noConfusion ‹(!false) = false› | (intro h; exact h) | (intro h; rw [h]; rfl) | (intro h1 h2; rw [h1, h2]; rfl) | (intro _; assumption) | (intro _; exact rfl) | (intro h; exact Bool.noConfusion (h.symm.trans ‹_ = false›)) | refine ⟨fun _ => ?_, fun _ => ?_⟩ | refine ⟨?_⟩ | refine ⟨?_, ?_⟩ | fail)
        refine trOps_none rfl (tr_copyCheck cc_law rfl Tryz.func66 rfl rfl rfl rfl (by first | exact .inl rfl | exact .inr rfl) ?_)
        refine (vs.kin hkI).on ?_
        repeat' (first | exact Bool.noConfusion ‹(!true) = true› | exact Bool.noConfusion ‹(!false) = false› | (intro h; exact h) | (intro h; rw [h]; rfl) | (intro h1 h2; rw [h1, h2]; rfl) | (intro _; assumption) | (intro _; exact rfl) | (intro h; exact Bool.noConfusion (h.symm.trans ‹_ = false›)) | refine ⟨fun _ => ?_, fun _ => ?_⟩ | refine ⟨?_⟩ | refine ⟨?_, ?_⟩ | fail)
        · show acc.length + (bytesOf (rankT (bytesL (L.getD (0) ByteArray.empty)))).size ≤ 4000000000
          rw [size_bytesOf, h9]; omega
        refine vs.on ?_
        repeat' (first | exact Bool.noConfusion ‹(!true) = true› | exact Bool.noConfusion ‹(!false) = false› | (intro h; exact h) | (intro h; rw [h]; rfl) | (intro h1 h2; rw [h1, h2]; rfl) | (intro _; assumption) | (intro _; exact rfl) | (intro h; exact Bool.noConfusion (h.symm.trans ‹_ = false›)) | refine ⟨fun _ => ?_, fun _ => ?_⟩ | refine ⟨?_⟩ | refine ⟨?_, ?_⟩ | fail)
        refine Again.mk (0 + 1, acc ++ rankT (bytesL (L.getD (0) ByteArray.empty))) ⟨hlt, cells_next hlt hq hr, by show (acc ++ _).length = _; rw [List.length_append, h9]; omega, hb.app hrb⟩ (by show L.length - (0 + 1) < L.length - (0); omega) ?_
        have hbl : bytesL (bytesOf (rankT (bytesL (L.getD (Int.ofNat (0)).toNat EK.str.dflt)))) = rankT (bytesL (L.getD (0) ByteArray.empty)) := bytesL_of hrb.b
        rw [hbl, wrapN (by omega)]
        (refine ⟨?_, rfl, ?_, ?_, ?_, rfl⟩ <;> repeat' (first | exact trivial | (refine ⟨rfl, ?_⟩) | fail))
    · refine vs.go rfl ?_
      repeat' (first | exact Bool.noConfusion ‹(!true) = true› | exact Bool.noConfusion ‹(!false) = false› | (intro h; exact h) | (intro h; rw [h]; rfl) | (intro h1 h2; rw [h1, h2]; rfl) | (intro _; assumption) | (intro _; exact rfl) | (intro h; exact Bool.noConfusion (h.symm.trans ‹_ = false›)) | refine ⟨fun _ => ?_, fun _ => ?_⟩ | refine ⟨?_⟩ | refine ⟨?_, ?_⟩ | fail)
      all_goals first | exact trivial | (refine (?_ : (_ : Int) ≠ _); decide) | exact rfl | skip
      all_goals try dsimp only at *
      all_goals first | exact trivial | exact rfl | skip
      rotate_right 3
      · exact hb
      all_goals first | (have hil : (i + 1) = L.length := Nat.le_antisymm hi (Nat.not_lt.1 fun h => of_decide_eq_false ‹decide (Int.ofNat ((i + 1)) < _) = false› (Int.ofNat_lt.2 h))
                         rw [hil, ← hL] at hq
                         obtain ⟨e1, e2⟩ := cells_done hq
                         first | (rw [e1]; exact chk_s rfl) | (rw [e2]; refine chk_b ?_; rw [e3, Bool.eq_iff_iff]; simp only [beq_iff_eq, decide_eq_true_eq]; omega)) | skip
      all_goals
        have hlt : (i + 1) < L.length := Int.ofNat_lt.1 (of_decide_eq_true ‹decide (Int.ofNat ((i + 1)) < _) = true›)
        have hmem : L.getD ((i + 1)) ByteArray.empty ∈ L := getD_mem hlt
        have hpz : (L.getD ((i + 1)) ByteArray.empty).size ≤ s.size := by
          rw [← hL] at hmem ⊢
          exact pieces_short (List.mem_reverse.1 hmem)
      · exact Int.ofNat_lt.2 hlt
      · exact ⟨by show (L.getD ((i + 1)) ByteArray.empty).size ≤ _; omega, trivial, trivial⟩
      · have hr : rankOk (bytesL (L.getD ((i + 1)) ByteArray.empty)) = false := (Bool.not_eq_true' _).mp (‹(!rankOk _) = true› : (!rankOk (bytesL (L.getD ((i + 1)) ByteArray.empty))) = true)
        subst hL
        rw [(cells_bad hlt hq hr).1]; exact chk_s rfl
      · have hr : rankOk (bytesL (L.getD ((i + 1)) ByteArray.empty)) = false := (Bool.not_eq_true' _).mp (‹(!rankOk _) = true› : (!rankOk (bytesL (L.getD ((i + 1)) ByteArray.empty))) = true)
        subst hL
        rw [(cells_bad hlt hq hr).2]; exact chk_b rfl
      · have hr : rankOk (bytesL (L.getD ((i + 1)) ByteArray.empty)) = true := (Bool.not_eq_false' _).mp (‹(!rankOk _) = false› : (!rankOk (bytesL (L.getD ((i + 1)) ByteArray.empty))) = false)
        have h9 := ((rank_two _).1 hr).2
        have hrb := rank_by (b := bytesL (L.getD ((i + 1)) ByteArray.empty)) (fun x hx => bytesL_bound _ x hx)
        repeat' (first | exact Bool.noConfusion ‹(!true) = true› | exact Bool.noConfusion ‹(!false) = false› | (intro h; exact h) | (intro h; rw [h]; rfl) | (intro h1 h2; rw [h1, h2]; rfl) | (intro _; assumption) | (intro _; exact rfl) | (intro h; exact Bool.noConfusion (h.symm.trans ‹_ = false›)) | refine ⟨fun _ => ?_, fun _ => ?_⟩ | refine ⟨?_⟩ | refine ⟨?_, ?_⟩ | fail)
        refine trOps_none rfl (inl_one false hS.seat.tt rfl rfl Tryz.func40 rfl rfl ?_)
        intro cI hkI hrI
        refine (vs.kin hkI).go rfl ?_
        repeat' (first | exact Bool.noConfusion ‹(!true) = true› | exact Bool.noConfusion ‹(!false) = false› | (intro h; exact h) | (intro h; rw [h]; rfl) | (intro h1 h2; rw [h1, h2]; rfl) | (intro _; assumption) | (intro _; exact rfl) | (intro h; exact Bool.noConfusion (h.symm.trans ‹_ = false›)) | refine ⟨fun _ => ?_, fun _ => ?_⟩ | refine ⟨?_⟩ | refine ⟨?_, ?_⟩ | fail)
        refine trOps_none rfl (tr_copyCheck cc_law rfl Tryz.func66 rfl rfl rfl rfl (by first | exact .inl rfl | exact .inr rfl) ?_)
        refine (vs.kin hkI).on ?_
        repeat' (first | exact Bool.noConfusion ‹(!true) = true› | exact Bool.noConfusion ‹(!false) = false› | (intro h; exact h) | (intro h; rw [h]; rfl) | (intro h1 h2; rw [h1, h2]; rfl) | (intro _; assumption) | (intro _; exact rfl) | (intro h; exact Bool.noConfusion (h.symm.trans ‹_ = false›)) | refine ⟨fun _ => ?_, fun _ => ?_⟩ | refine ⟨?_⟩ | refine ⟨?_, ?_⟩ | fail)
        · show acc.length + (bytesOf (rankT (bytesL (L.getD ((i + 1)) ByteArray.empty)))).size ≤ 4000000000
          rw [size_bytesOf, h9]; omega
        refine vs.on ?_
        repeat' (first | exact Bool.noConfusion ‹(!true) = true› | exact Bool.noConfusion ‹(!false) = false› | (intro h; exact h) | (intro h; rw [h]; rfl) | (intro h1 h2; rw [h1, h2]; rfl) | (intro _; assumption) | (intro _; exact rfl) | (intro h; exact Bool.noConfusion (h.symm.trans ‹_ = false›)) | refine ⟨fun _ => ?_, fun _ => ?_⟩ | refine ⟨?_⟩ | refine ⟨?_, ?_⟩ | fail)
        refine Again.mk ((i + 1) + 1, acc ++ rankT (bytesL (L.getD ((i + 1)) ByteArray.empty))) ⟨hlt, cells_next hlt hq hr, by show (acc ++ _).length = _; rw [List.length_append, h9]; omega, hb.app hrb⟩ (by show L.length - ((i + 1) + 1) < L.length - ((i + 1)); omega) ?_
        have hbl : bytesL (bytesOf (rankT (bytesL (L.getD (Int.ofNat ((i + 1))).toNat EK.str.dflt)))) = rankT (bytesL (L.getD ((i + 1)) ByteArray.empty)) := bytesL_of hrb.b
        rw [hbl, wrapN (by omega)]
        (refine ⟨?_, rfl, ?_, ?_, ?_, rfl⟩ <;> repeat' (first | exact trivial | (refine ⟨rfl, ?_⟩) | fail))
  · cases hcr
end
end Go.X

namespace Go.X
open Go Go.Proofs Go.Extern Go.RowKit Go.Sort

structure ATO (s : ByteArray) (b : Bool) : Prop where
  le : s.size ≤ 4000000
  ok : atoiOk s = b
  v : True
def cAtoiOk : Con
  | [.a (.s s)] => some ⟨[ATO s true], .a (.tup [.i .i64 (atoiV s), .nili]), [], []⟩
  | _ => none
def cAtoiBad : Con
  | [.a (.s s)] => some ⟨[ATO s false], .a (.tup [.i .i64 (atoiV s), .ifc 113 .any]), [], []⟩
  | _ => none
structure I64 (n : Int) : Prop where
  lo : -9223372036854775808 ≤ n
  hi : n ≤ 9223372036854775807
  v : True
def cItoaS : Con
  | [.a (.i .i64 n)] => some ⟨[I64 n], .a (.s (itoaB n)), [], []⟩
  | _ => none
def cNumPOk : Con
  | [.a (.s s)] => some ⟨[ATO s true], .tup [.a (.i .i64 (atoiV s)), .a (.b (numOk s))], [], []⟩
  | _ => none
def cNumPBad : Con
  | [.a (.s s)] => some ⟨[ATO s false], .tup [.a (.i .i64 (atoiV s)), .a (.b (numOk s))], [], []⟩
  | _ => none
def cNumP : Con
  | [.a (.s s)] => some ⟨[TZ4 s], .tup [.a (.i .i64 (atoiV s)), .a (.b (numOk s))], [], []⟩
  | _ => none
section
variable {G : Nat → World → Prop}
theorem okAtoiOk (hS : Hyp G) : ConOK Tryz.prog G 27 cAtoiOk := by
  refine con_extR Tryz.func27 rfl rfl ?_
  intro rvs cr hcr hpre
  unfold cAtoiOk at hcr
  split at hcr
  · rename_i s
    cases hcr
    have hp := hpre _ (List.mem_singleton.2 rfl)
    have hz := hp.le
    have ho := hp.ok
    unfold atoiOk at ho
    split at ho
    · rename_i v hv
      have hval : atoiV s = v := by unfold atoiV; rw [hv]
      refine ⟨_, _, rfl, rfl, fun g0 w _ _ => (Tryz.strconv_Atoi_ok s (by omega) v hv w).mono ?_⟩
      rintro e w' ⟨rfl, h⟩
      refine ⟨⟨_, rfl, fun st e => ?_⟩, ?_⟩
      · rw [hval]; exact ⟨[_, _], rfl, _, _, rfl, rfl, _, _, rfl, rfl, rfl⟩
      · rcases h with rfl | ⟨t, rfl⟩
        · exact Below.refl _ _
        · exact Lib.bytesWorld_below _ _ _
    · cases ho
  · cases hcr
theorem okAtoiBad (hS : Hyp G) : ConOK Tryz.prog G 27 cAtoiBad := by
  refine con_extR Tryz.func27 rfl rfl ?_
  intro rvs cr hcr hpre
  unfold cAtoiBad at hcr
  split at hcr
  · rename_i s
    cases hcr
    have hp := hpre _ (List.mem_singleton.2 rfl)
    have hz := hp.le
    have ho := hp.ok
    refine ⟨_, _, rfl, rfl, fun g0 w _ hG => ?_⟩
    have hgl := hS.glob g0 w hG
    unfold atoiOk at ho
    cases hv : Lib.atoiAll s.data.toList with
    | ok v => rw [hv] at ho; cases ho
    | range =>
      have hval : atoiV s = Lib.atoiSat s.data.toList := by unfold atoiV; rw [hv]
      obtain ⟨tp, p, hs⟩ := hgl.rng
      refine (Tryz.strconv_Atoi_range_var s (by omega) hv tp p w hs).mono ?_
      rintro e w' ⟨N, rfl, _, _, hb⟩
      refine ⟨⟨_, rfl, fun st e => ?_⟩, hb⟩
      rw [hval]; exact ⟨[_, _], rfl, _, _, rfl, rfl, _, _, rfl, ⟨_, rfl, trivial⟩, rfl⟩
    | _ =>
      have hval : atoiV s = 0 := by unfold atoiV; rw [hv]
      obtain ⟨tp, p, hs⟩ := hgl.syn
      refine (Tryz.strconv_Atoi_syntax_var s (by omega) hv tp p w hs).mono ?_
      rintro e w' ⟨N, rfl, _, _, hb⟩
      refine ⟨⟨_, rfl, fun st e => ?_⟩, hb⟩
      rw [hval]; exact ⟨[_, _], rfl, _, _, rfl, rfl, _, _, rfl, ⟨_, rfl, trivial⟩, rfl⟩
  · cases hcr
theorem okItoaS (hS : Hyp G) : ConOK Tryz.prog G 18 cItoaS := by
  refine con_ext Tryz.func18 rfl rfl ?_
  intro rvs cr hcr hpre
  unfold cItoaS at hcr
  split at hcr
  · rename_i n
    cases hcr
    have hp := hpre _ (List.mem_singleton.2 rfl)
    refine ⟨_, .string (itoaB n), _, rfl, rfl, fun _ _ => rfl, fun g0 w _ hG => (Tryz.strconv_Itoa n hp.lo hp.hi w (hS.glob g0 w hG).pow).mono ?_⟩
    rintro e w' ⟨rfl, k, os, rfl⟩
    refine ⟨rfl, ⟨rfl, rfl, rfl, by simp [grow], fun i hi => ?_⟩⟩
    show ((w.drewN k).heap ++ os)[i]? = _
    rw [Array.getElem?_append_left (by show i < w.heap.size; omega)]; rfl
  · cases hcr
set_option maxHeartbeats 4000000 in
set_option maxRecDepth 20000 in
theorem okNumPOk (hS : Hyp G) : ConOK Tryz.prog G 126 cNumPOk := by
  refine seat_con hS.seat [(27, cAtoiOk), (18, cItoaS)] [] ⟨okAtoiOk hS, okItoaS hS, trivial⟩ Tryz.func126 rfl rfl rfl ?_
  intro rvs cr hcr hpre
  unfold cNumPOk at hcr
  split at hcr
  · rename_i s
    cases hcr
    simp only [List.mem_cons, List.not_mem_nil, or_false, forall_eq_or_imp, forall_eq] at hpre
    refine ⟨⟨rfl, rfl, rfl⟩, fun c hc vs => ?_⟩
    have hsz := hpre.le
    have hok := hpre.ok
    have hbd := atoiV_bounds s
    repeat' (first | exact Bool.noConfusion ‹(!true) = true› | exact Bool.noConfusion ‹(!false) = false› | (intro h; exact h) | (intro h; rw [h]; rfl) | (intro h1 h2; rw [h1, h2]; rfl) | (intro _; assumption) | (intro _; exact rfl) | (intro h; exact Bool.noConfusion (h.symm.trans ‹_ = false›)) | refine ⟨fun _ => ?_, fun _ => ?_⟩ | refine ⟨?_⟩ | refine ⟨?_, ?_⟩ | fail)
    all_goals first | exact trivial | (refine (?_ : (_ : Int) ≠ _); decide) | exact rfl | skip
    all_goals try dsimp only at *
    all_goals first | exact rfl | exact trivial | exact hpre | exact fun _ => ⟨hbd.1, hbd.2, trivial⟩ | skip
    all_goals (refine chk_b ?_; unfold numOk; rw [hok])
  · cases hcr
set_option maxHeartbeats 4000000 in
set_option maxRecDepth 20000 in
theorem okNumPBad (hS : Hyp G) : ConOK Tryz.prog G 126 cNumPBad := by
  refine seat_con hS.seat [(27, cAtoiBad), (18, cItoaS)] [] ⟨okAtoiBad hS, okItoaS hS, trivial⟩ Tryz.func126 rfl rfl rfl ?_
  intro rvs cr hcr hpre
  unfold cNumPBad at hcr
  split at hcr
  · rename_i s
    cases hcr
    simp only [List.mem_cons, List.not_mem_nil, or_false, forall_eq_or_imp, forall_eq] at hpre
    refine ⟨⟨rfl, rfl, rfl⟩, fun c hc vs => ?_⟩
    have hsz := hpre.le
    have hok := hpre.ok
    have hbd := atoiV_bounds s
    repeat' (first | exact Bool.noConfusion ‹(!true) = true› | exact Bool.noConfusion ‹(!false) = false› | (intro h; exact h) | (intro h; rw [h]; rfl) | (intro h1 h2; rw [h1, h2]; rfl) | (intro _; assumption) | (intro _; exact rfl) | (intro h; exact Bool.noConfusion (h.symm.trans ‹_ = false›)) | refine ⟨fun _ => ?_, fun _ => ?_⟩ | refine ⟨?_⟩ | refine ⟨?_, ?_⟩ | fail)
    all_goals first | exact trivial | (refine (?_ : (_ : Int) ≠ _); decide) | exact rfl | skip
    all_goals try dsimp only at *
    all_goals first | exact rfl | exact trivial | exact hpre | exact fun _ => ⟨hbd.1, hbd.2, trivial⟩ | skip
    all_goals (refine chk_b ?_; unfold numOk; rw [hok])
  · cases hcr
theorem okNumP (hS : Hyp G) : ConOK Tryz.prog G 126 cNumP := by
  refine con_cases (okNumPOk hS) (okNumPBad hS) ?_
  intro rvs cr hcr hpre
  unfold cNumP at hcr
  split at hcr
  · rename_i s
    cases hcr
    have hp := hpre _ (List.mem_singleton.2 rfl)
    cases h : atoiOk s with
    | true => exact .inl ⟨_, rfl, fun p hp' => by rw [List.mem_singleton.1 hp']; exact ⟨hp.le, h, trivial⟩, rfl, rfl, rfl⟩
    | false => exact .inr ⟨_, rfl, fun p hp' => by rw [List.mem_singleton.1 hp']; exact ⟨hp.le, h, trivial⟩, rfl, rfl, rfl⟩
  · cases hcr
end
end Go.X

namespace Go.X
open Go Go.Proofs Go.RowKit Go.Extern.Stop Go.Stop Go.Extern

theorem asValueOfP (t : Addr) (w : World) : (ReflectliteValue.unpack (.iface 125 (.pointer (some t)))).run Tryz.prog w
    = .ok (.agg #[.pointer (some ⟨9, 125, none⟩), .pointer (some ⟨w.heap.size, 0, none⟩), .int .u64 150]) (w.alloc (.cells #[.pointer (some t)] 125)) := by kernel_rfl
theorem asTypeP (a : Addr) (w : World) : (ReflectliteValue.methodAny (ReflectliteValue.valueError "reflectlite.Value.Type" 0) (fun t _ _ _ => ReflectliteType.toType t) #[.agg #[.pointer (some ⟨9, 125, none⟩), .pointer (some a), .int .u64 150]]).run Tryz.prog w
    = .ok (.iface 189 (.agg #[.pointer (some ⟨9, 125, none⟩)])) w := by kernel_rfl
theorem asMethodKind (h : Value) (w : World) : (Go.method 345 189 (.agg #[h]) "Kind").run Tryz.prog w = .ok (178, h) w := by kernel_rfl
theorem asKindP (w : World) : ((ReflectliteType.abiMethod fun t => (fun a : Nat => Value.int IntKind.u8 (a : Int)) <$> Rtype.kind t) #[.pointer (some ⟨9, 125, none⟩)]).run Tryz.prog w = .ok (.int .u8 22) w := by kernel_rfl
theorem asKindR (w : World) : ((ReflectliteType.abiMethod fun t => (fun a : Nat => Value.int IntKind.u8 (a : Int)) <$> Rtype.kind t) #[.pointer (some ⟨9, 123, none⟩)]).run Tryz.prog w = .ok (.int .u8 2) w := by kernel_rfl
theorem as_rlm (z : Sem Value) (f : TypeId → Addr → Nat → Nat → Sem Value) (v : Value) :
    ReflectliteValue.method z f #[v] = (do match ← ReflectliteValue.parts v with | none => z | some (t, a, fl) => f t a fl (fl % 32)) := rfl
theorem asPartsP (a : Addr) (w : World) : (ReflectliteValue.parts (.agg #[.pointer (some ⟨9, 125, none⟩), .pointer (some a), .int .u64 150])).run Tryz.prog w = .ok (some (125, a, 150)) w := by kernel_rfl
theorem asIsNilP (a p : Addr) (W : World) (ha : W.cell? a = some (.pointer (some p))) :
    (ReflectliteValue.method (ReflectliteValue.valueError "reflectlite.Value.IsNil" 0) ReflectliteValue.isNil #[.agg #[.pointer (some ⟨9, 125, none⟩), .pointer (some a), .int .u64 150]]).run Tryz.prog W = .ok (.bool false) W := by
  rw [as_rlm]
  simp only [Sem.run_bind, asPartsP, Result.andThen]
  simp [ReflectliteValue.isNil, loadVar, isAgg, underlying, Tryz.underlying125, ha, Result.andThen]
theorem asMethodElem (h : Value) (w : World) : (Go.method 345 189 (.agg #[h]) "Elem").run Tryz.prog w = .ok (198, .agg #[h]) w := by kernel_rfl
theorem asMethodImplements (h : Value) (w : World) : (Go.method 345 189 (.agg #[h]) "Implements").run Tryz.prog w = .ok (199, .agg #[h]) w := by kernel_rfl
theorem asMethodAssignableTo (h : Value) (w : World) : (Go.method 345 189 (.agg #[h]) "AssignableTo").run Tryz.prog w = .ok (196, .agg #[h]) w := by kernel_rfl
theorem asElemP (w : World) : (ReflectliteType.method ReflectliteType.elem #[.agg #[.pointer (some ⟨9, 125, none⟩)]]).run Tryz.prog w = .ok (.iface 189 (.agg #[.pointer (some ⟨9, 123, none⟩)])) w := by kernel_rfl
theorem asImplementsR (w : World) : (ReflectliteType.relation "Implements" ReflectliteType.implements_ #[.agg #[.pointer (some ⟨9, 123, none⟩)], .iface 189 (.agg #[.pointer (some ⟨9, 55, none⟩)])]).run Tryz.prog w = .ok (.bool true) w := by kernel_rfl
theorem asTypeOfR (v : Value) (w : World) : (ReflectliteType.typeOf #[.iface 123 v]).run Tryz.prog w = .ok (.iface 189 (.agg #[.pointer (some ⟨9, 123, none⟩)])) w := by kernel_rfl
theorem asTypeOfW (v : Value) (w : World) : (ReflectliteType.typeOf #[.iface 167 v]).run Tryz.prog w = .ok (.iface 189 (.agg #[.pointer (some ⟨9, 167, none⟩)])) w := by kernel_rfl
theorem asAssignableR (w : World) : (ReflectliteType.relation "AssignableTo" ReflectliteType.assignableTo #[.agg #[.pointer (some ⟨9, 123, none⟩)], .iface 189 (.agg #[.pointer (some ⟨9, 123, none⟩)])]).run Tryz.prog w = .ok (.bool true) w := by kernel_rfl
theorem asAssignableW (w : World) : (ReflectliteType.relation "AssignableTo" ReflectliteType.assignableTo #[.agg #[.pointer (some ⟨9, 167, none⟩)], .iface 189 (.agg #[.pointer (some ⟨9, 123, none⟩)])]).run Tryz.prog w = .ok (.bool false) w := by kernel_rfl
theorem asValueOfR (n : Int) (w : World) : (ReflectliteValue.unpack (.iface 123 (.int .i64 n))).run Tryz.prog w
    = .ok (.agg #[.pointer (some ⟨9, 123, none⟩), .pointer (some ⟨w.heap.size, 0, none⟩), .int .u64 130]) (w.alloc (.cells #[.int .i64 n] 123)) := by kernel_rfl
theorem asElemOfP (w : World) : (Rtype.elem? 125).run Tryz.prog w = .ok (some 123) w := by kernel_rfl
theorem asMkR (p : Addr) (w : World) : (ReflectliteValue.mk 123 p ReflectliteValue.flagAddr).run Tryz.prog w = .ok (.agg #[.pointer (some ⟨9, 123, none⟩), .pointer (some p), .int .u64 386]) w := by kernel_rfl
theorem asElemVP (a p : Addr) (W : World) (ha : W.cell? a = some (.pointer (some p))) :
    (ReflectliteValue.method (ReflectliteValue.valueError "reflectlite.Value.Elem" 0) ReflectliteValue.elem #[.agg #[.pointer (some ⟨9, 125, none⟩), .pointer (some a), .int .u64 150]]).run Tryz.prog W
      = .ok (.agg #[.pointer (some ⟨9, 123, none⟩), .pointer (some p), .int .u64 386]) W := by
  rw [as_rlm]
  simp only [Sem.run_bind, asPartsP, Result.andThen]
  simp [ReflectliteValue.elem, loadVar, isAgg, underlying, Tryz.underlying125, ha, Result.andThen, asElemOfP, asMkR]
theorem as_rls (v x : Value) : ReflectliteValue.set #[v, x] = (do
    let (some (dst, a, fl), some (src, b, _)) := (← ReflectliteValue.parts v, ← ReflectliteValue.parts x)
      | unsupported (.noEntry "extern/(internal/reflectlite.Value).Set.zeroValue")
    if fl / ReflectliteValue.flagAddr % 2 == 0 then unsupported (.noEntry "extern/(internal/reflectlite.Value).Set.unaddressable")
    let val ← loadVar src b
    if ← Rtype.directlyAssignable dst src then storeVar dst a val
    else if ← Rtype.implements dst src then
      if (← Rtype.kind src) == 20 then
        match val with
        | .nilIface => unsupported (.noEntry "extern/reflectlite: a nil value of one interface type handed on as a value of another")
        | _ => storeVar dst a val
      else storeVar dst a (.iface src val)
    else panicString ("reflectlite.Set: value of type " ++ (← Rtype.spelt src) ++ " is not assignable to type " ++ (← Rtype.spelt dst))
    pure (.tuple #[])) := rfl
theorem asPartsRa (a : Addr) (w : World) : (ReflectliteValue.parts (.agg #[.pointer (some ⟨9, 123, none⟩), .pointer (some a), .int .u64 386])).run Tryz.prog w = .ok (some (123, a, 386)) w := by kernel_rfl
theorem asPartsR (a : Addr) (w : World) : (ReflectliteValue.parts (.agg #[.pointer (some ⟨9, 123, none⟩), .pointer (some a), .int .u64 130])).run Tryz.prog w = .ok (some (123, a, 130)) w := by kernel_rfl
theorem asDirectR (w : World) : (Rtype.directlyAssignable 123 123).run Tryz.prog w = .ok true w := by kernel_rfl
theorem asSetR (ta b : Addr) (n : Int) (old : Value) (W : World) (hb : W.cell? b = some (.int .i64 n)) (ht : W.cell? ta = some old) (hf : W.frozen? ta = false) :
    (ReflectliteValue.set #[.agg #[.pointer (some ⟨9, 123, none⟩), .pointer (some ta), .int .u64 386], .agg #[.pointer (some ⟨9, 123, none⟩), .pointer (some b), .int .u64 130]]).run Tryz.prog W
      = .ok (.tuple #[]) (W.setCell ta (.int .i64 n)) := by
  rw [as_rls]
  simp only [Sem.run_bind, asPartsRa, asPartsR, Result.andThen]
  simp [ReflectliteValue.flagAddr, loadVar, isAgg, underlying, Tryz.underlying123, hb, Result.andThen, asDirectR, storeVar, Value.cells, storeCells, Addr.add]
  rw [run_store Tryz.prog W ta _ _ (by rfl)]
  simp [ht, hf]
theorem asNoAsW (v : Value) (xT : TypeId) (w : World) : (Instr.typeAssert (.iface 167 v) xT 201 true).run Tryz.prog w = .ok (.tuple #[.nilIface, .bool false]) w := run_typeAssert_lacksB Tryz.underlying201 (by kernel_rfl) (by kernel_rfl) v xT w
theorem asHasUnwrapW (v : Value) (xT : TypeId) (w : World) : (Instr.typeAssert (.iface 167 v) xT 194 true).run Tryz.prog w = .ok (.tuple #[.iface 167 v, .bool true]) w := run_typeAssert_hasB Tryz.underlying194 (by kernel_rfl) v xT w
theorem asMethodUnwrap (v : Value) (w : World) : (Go.method 345 167 v "Unwrap").run Tryz.prog w = .ok (190, v) w := by kernel_rfl
theorem as_none : AsNil Tryz.prog 87 := by
  intro t w
  go_enter Tryz.func87, Tryz.ntmps87
  go_wp2
  go_ret
  exact ⟨rfl, rfl⟩
end Go.X

namespace Go.X
open Go Go.Proofs Go.RowKit Go.Extern.Stop Go.Stop Go.Extern

set_option maxHeartbeats 8000000 in
set_option maxRecDepth 20000 in
theorem as_hitR (n : Int) ( t : Addr) (old : Value) (w : World) (hg : w.cell? ⟨2, 0, none⟩ = some (.iface 189 (.agg #[.pointer (some ⟨9, 55, none⟩)]))) (ht0 : w.cell? t = some old) (hf0 : w.frozen? t = false) :
    Calls Tryz.prog 87 #[.iface 123 (.int .i64 n), .iface 125 (.pointer (some t))] w fun ev w' => ev = .returned (.bool true) ∧ w' = ((((w.alloc (.cells #[.pointer (some t)] 125)).alloc (.cells #[.pointer (some ⟨9, 125, none⟩), .pointer (some ⟨w.heap.size, 0, none⟩), .int .u64 150] 171)).alloc (.cells #[.pointer (some ⟨9, 125, none⟩), .pointer (some ⟨w.heap.size, 0, none⟩), .int .u64 150] 171)).alloc (.cells #[.int .i64 n] 123)).setCell t (.int .i64 n) := by
  have h6 := @run_callFunc_extern Tryz.prog 129 _ (fun args => ReflectliteValue.unpack (args.getD 0 (.tuple #[]))) Tryz.func129 (by kernel_rfl) (by kernel_rfl) (by kernel_rfl) (by kernel_rfl)
  have h7 := @run_callFunc_extern Tryz.prog 130 _ (ReflectliteValue.methodAny (ReflectliteValue.valueError "reflectlite.Value.Type" 0) (fun t _ _ _ => ReflectliteType.toType t)) Tryz.func130 (by kernel_rfl) (by kernel_rfl) (by kernel_rfl) (by kernel_rfl)
  have h8 := @run_callFunc_extern Tryz.prog 131 _ (ReflectliteValue.method (ReflectliteValue.valueError "reflectlite.Value.IsNil" 0) ReflectliteValue.isNil) Tryz.func131 (by kernel_rfl) (by kernel_rfl) (by kernel_rfl) (by kernel_rfl)
  have h27 := @run_callFunc_extern Tryz.prog 178 _ (ReflectliteType.abiMethod fun t => do pure (.int .u8 (← Rtype.kind t))) Tryz.func178 (by kernel_rfl) (by kernel_rfl) (by kernel_rfl) (by kernel_rfl)
  have h37 := @run_callFunc_extern Tryz.prog 198 _ (ReflectliteType.method ReflectliteType.elem) Tryz.func198 (by kernel_rfl) (by kernel_rfl) (by kernel_rfl) (by kernel_rfl)
  have h38 := @run_callFunc_extern Tryz.prog 199 _ (ReflectliteType.relation "Implements" ReflectliteType.implements_) Tryz.func199 (by kernel_rfl) (by kernel_rfl) (by kernel_rfl) (by kernel_rfl)
  have h10 := @run_callFunc_extern Tryz.prog 124 _ ReflectliteType.typeOf Tryz.func124 (by kernel_rfl) (by kernel_rfl) (by kernel_rfl) (by kernel_rfl)
  have h35 := @run_callFunc_extern Tryz.prog 196 _ (ReflectliteType.relation "AssignableTo" ReflectliteType.assignableTo) Tryz.func196 (by kernel_rfl) (by kernel_rfl) (by kernel_rfl) (by kernel_rfl)
  have h11 := @run_callFunc_extern Tryz.prog 150 _ (ReflectliteValue.method (ReflectliteValue.valueError "reflectlite.Value.Elem" 0) ReflectliteValue.elem) Tryz.func150 (by kernel_rfl) (by kernel_rfl) (by kernel_rfl) (by kernel_rfl)
  have h12 := @run_callFunc_extern Tryz.prog 151 _ ReflectliteValue.set Tryz.func151 (by kernel_rfl) (by kernel_rfl) (by kernel_rfl) (by kernel_rfl)
  have tO := asTypeOfR
  have tW := asTypeOfW
  have mA := asMethodAssignableTo
  have a25 := asAssignableR
  have aW := asAssignableW
  have v25 := asValueOfR
  have f6 := asValueOfP
  have f7 := asTypeP
  have mK := asMethodKind
  have mE := asMethodElem
  have mI := asMethodImplements
  have k27 := asKindP
  have k25 := asKindR
  have e27 := asElemP
  have i25 := asImplementsR
  have nA := asNoAsW
  have uW := asHasUnwrapW
  have mU := asMethodUnwrap
  have n8 := asIsNilP ⟨w.heap.size, 0, none⟩ t ((w.alloc (.cells #[.pointer (some t)] 125)).alloc (.cells #[.pointer (some ⟨9, 125, none⟩), .pointer (some ⟨w.heap.size, 0, none⟩), .int .u64 150] 171)) (by simp)
  have hlt : 2 < w.heap.size := by
    rcases Nat.lt_or_ge 2 w.heap.size with h | h
    · exact h
    · simp [World.cell?, Array.getElem?_eq_none h] at hg
  have hg2 : ((w.alloc (.cells #[.pointer (some t)] 125)).alloc (.cells #[.pointer (some ⟨9, 125, none⟩), .pointer (some ⟨w.heap.size, 0, none⟩), .int .u64 150] 171)).cell? ⟨2, 0, none⟩ = some (.iface 189 (.agg #[.pointer (some ⟨9, 55, none⟩)])) := by
    rw [World.cell?_alloc_lt _ _ ⟨2, 0, none⟩ (by simp <;> omega), World.cell?_alloc_lt _ _ ⟨2, 0, none⟩ hlt]; exact hg
  have htl : t.block < w.heap.size := by
    rcases Nat.lt_or_ge t.block w.heap.size with h | h
    · exact h
    · simp [World.cell?, Array.getElem?_eq_none h] at ht0
  have el := asElemVP ⟨w.heap.size, 0, none⟩ t (((w.alloc (.cells #[.pointer (some t)] 125)).alloc (.cells #[.pointer (some ⟨9, 125, none⟩), .pointer (some ⟨w.heap.size, 0, none⟩), .int .u64 150] 171)).alloc (.cells #[.pointer (some ⟨9, 125, none⟩), .pointer (some ⟨w.heap.size, 0, none⟩), .int .u64 150] 171)) (by rw [World.cell?_alloc_lt _ _ ⟨w.heap.size, 0, none⟩ (by simp <;> omega)]; simp)
  have st := asSetR t ⟨w.heap.size + 1 + 1 + 1, 0, none⟩ n old ((((w.alloc (.cells #[.pointer (some t)] 125)).alloc (.cells #[.pointer (some ⟨9, 125, none⟩), .pointer (some ⟨w.heap.size, 0, none⟩), .int .u64 150] 171)).alloc (.cells #[.pointer (some ⟨9, 125, none⟩), .pointer (some ⟨w.heap.size, 0, none⟩), .int .u64 150] 171)).alloc (.cells #[.int .i64 n] 123))
    (by rw [World.cell?_alloc_at _ _ _ _ (by simp)]; rfl)
    (by rw [World.cell?_alloc_lt _ _ t (by simp <;> omega), World.cell?_alloc_lt _ _ t (by simp <;> omega), World.cell?_alloc_lt _ _ t (by simp <;> omega), World.cell?_alloc_lt _ _ t htl]; exact ht0)
    (by rw [World.frozen?_alloc_old _ _ t (by simp <;> omega), World.frozen?_alloc_old _ _ t (by simp <;> omega), World.frozen?_alloc_old _ _ t (by simp <;> omega), World.frozen?_alloc_old _ _ t (Nat.ne_of_lt htl)]; exact hf0)
  go_enter Tryz.func87, Tryz.ntmps87
  go_wp2
  refine wp_loop_rounds 1 ?_
  rw [rounds_succ]
  go_wp2
  go_ret
  exact ⟨rfl, rfl⟩
set_option maxHeartbeats 8000000 in
set_option maxRecDepth 20000 in
theorem as_hitW (f n : Int) ( t : Addr) (old : Value) (w : World) (hg : w.cell? ⟨2, 0, none⟩ = some (.iface 189 (.agg #[.pointer (some ⟨9, 55, none⟩)]))) (ht0 : w.cell? t = some old) (hf0 : w.frozen? t = false) :
    Calls Tryz.prog 87 #[.iface 167 (.agg #[.int .i64 f, .iface 123 (.int .i64 n)]), .iface 125 (.pointer (some t))] w fun ev w' => ev = .returned (.bool true) ∧ w' = (((((w.alloc (.cells #[.pointer (some t)] 125)).alloc (.cells #[.pointer (some ⟨9, 125, none⟩), .pointer (some ⟨w.heap.size, 0, none⟩), .int .u64 150] 171)).alloc (.cells #[.pointer (some ⟨9, 125, none⟩), .pointer (some ⟨w.heap.size, 0, none⟩), .int .u64 150] 171)).alloc (.cells #[.int .i64 f, .iface 123 (.int .i64 n)] 167)).alloc (.cells #[.int .i64 n] 123)).setCell t (.int .i64 n) := by
  have h6 := @run_callFunc_extern Tryz.prog 129 _ (fun args => ReflectliteValue.unpack (args.getD 0 (.tuple #[]))) Tryz.func129 (by kernel_rfl) (by kernel_rfl) (by kernel_rfl) (by kernel_rfl)
  have h7 := @run_callFunc_extern Tryz.prog 130 _ (ReflectliteValue.methodAny (ReflectliteValue.valueError "reflectlite.Value.Type" 0) (fun t _ _ _ => ReflectliteType.toType t)) Tryz.func130 (by kernel_rfl) (by kernel_rfl) (by kernel_rfl) (by kernel_rfl)
  have h8 := @run_callFunc_extern Tryz.prog 131 _ (ReflectliteValue.method (ReflectliteValue.valueError "reflectlite.Value.IsNil" 0) ReflectliteValue.isNil) Tryz.func131 (by kernel_rfl) (by kernel_rfl) (by kernel_rfl) (by kernel_rfl)
  have h27 := @run_callFunc_extern Tryz.prog 178 _ (ReflectliteType.abiMethod fun t => do pure (.int .u8 (← Rtype.kind t))) Tryz.func178 (by kernel_rfl) (by kernel_rfl) (by kernel_rfl) (by kernel_rfl)
  have h37 := @run_callFunc_extern Tryz.prog 198 _ (ReflectliteType.method ReflectliteType.elem) Tryz.func198 (by kernel_rfl) (by kernel_rfl) (by kernel_rfl) (by kernel_rfl)
  have h38 := @run_callFunc_extern Tryz.prog 199 _ (ReflectliteType.relation "Implements" ReflectliteType.implements_) Tryz.func199 (by kernel_rfl) (by kernel_rfl) (by kernel_rfl) (by kernel_rfl)
  have h10 := @run_callFunc_extern Tryz.prog 124 _ ReflectliteType.typeOf Tryz.func124 (by kernel_rfl) (by kernel_rfl) (by kernel_rfl) (by kernel_rfl)
  have h35 := @run_callFunc_extern Tryz.prog 196 _ (ReflectliteType.relation "AssignableTo" ReflectliteType.assignableTo) Tryz.func196 (by kernel_rfl) (by kernel_rfl) (by kernel_rfl) (by kernel_rfl)
  have h11 := @run_callFunc_extern Tryz.prog 150 _ (ReflectliteValue.method (ReflectliteValue.valueError "reflectlite.Value.Elem" 0) ReflectliteValue.elem) Tryz.func150 (by kernel_rfl) (by kernel_rfl) (by kernel_rfl) (by kernel_rfl)
  have h12 := @run_callFunc_extern Tryz.prog 151 _ ReflectliteValue.set Tryz.func151 (by kernel_rfl) (by kernel_rfl) (by kernel_rfl) (by kernel_rfl)
  have tO := asTypeOfR
  have tW := asTypeOfW
  have mA := asMethodAssignableTo
  have a25 := asAssignableR
  have aW := asAssignableW
  have v25 := asValueOfR
  have f6 := asValueOfP
  have f7 := asTypeP
  have mK := asMethodKind
  have mE := asMethodElem
  have mI := asMethodImplements
  have k27 := asKindP
  have k25 := asKindR
  have e27 := asElemP
  have i25 := asImplementsR
  have nA := asNoAsW
  have uW := asHasUnwrapW
  have mU := asMethodUnwrap
  have n8 := asIsNilP ⟨w.heap.size, 0, none⟩ t ((w.alloc (.cells #[.pointer (some t)] 125)).alloc (.cells #[.pointer (some ⟨9, 125, none⟩), .pointer (some ⟨w.heap.size, 0, none⟩), .int .u64 150] 171)) (by simp)
  have hlt : 2 < w.heap.size := by
    rcases Nat.lt_or_ge 2 w.heap.size with h | h
    · exact h
    · simp [World.cell?, Array.getElem?_eq_none h] at hg
  have hg2 : ((w.alloc (.cells #[.pointer (some t)] 125)).alloc (.cells #[.pointer (some ⟨9, 125, none⟩), .pointer (some ⟨w.heap.size, 0, none⟩), .int .u64 150] 171)).cell? ⟨2, 0, none⟩ = some (.iface 189 (.agg #[.pointer (some ⟨9, 55, none⟩)])) := by
    rw [World.cell?_alloc_lt _ _ ⟨2, 0, none⟩ (by simp <;> omega), World.cell?_alloc_lt _ _ ⟨2, 0, none⟩ hlt]; exact hg
  have htl : t.block < w.heap.size := by
    rcases Nat.lt_or_ge t.block w.heap.size with h | h
    · exact h
    · simp [World.cell?, Array.getElem?_eq_none h] at ht0
  have el := asElemVP ⟨w.heap.size, 0, none⟩ t ((((w.alloc (.cells #[.pointer (some t)] 125)).alloc (.cells #[.pointer (some ⟨9, 125, none⟩), .pointer (some ⟨w.heap.size, 0, none⟩), .int .u64 150] 171)).alloc (.cells #[.pointer (some ⟨9, 125, none⟩), .pointer (some ⟨w.heap.size, 0, none⟩), .int .u64 150] 171)).alloc (.cells #[.int .i64 f, .iface 123 (.int .i64 n)] 167)) (by rw [World.cell?_alloc_lt _ _ ⟨w.heap.size, 0, none⟩ (by simp <;> omega), World.cell?_alloc_lt _ _ ⟨w.heap.size, 0, none⟩ (by simp <;> omega)]; simp)
  have st := asSetR t ⟨w.heap.size + 1 + 1 + 1 + 1, 0, none⟩ n old (((((w.alloc (.cells #[.pointer (some t)] 125)).alloc (.cells #[.pointer (some ⟨9, 125, none⟩), .pointer (some ⟨w.heap.size, 0, none⟩), .int .u64 150] 171)).alloc (.cells #[.pointer (some ⟨9, 125, none⟩), .pointer (some ⟨w.heap.size, 0, none⟩), .int .u64 150] 171)).alloc (.cells #[.int .i64 f, .iface 123 (.int .i64 n)] 167)).alloc (.cells #[.int .i64 n] 123))
    (by rw [World.cell?_alloc_at _ _ _ _ (by simp)]; rfl)
    (by rw [World.cell?_alloc_lt _ _ t (by simp <;> omega), World.cell?_alloc_lt _ _ t (by simp <;> omega), World.cell?_alloc_lt _ _ t (by simp <;> omega), World.cell?_alloc_lt _ _ t (by simp <;> omega), World.cell?_alloc_lt _ _ t htl]; exact ht0)
    (by rw [World.frozen?_alloc_old _ _ t (by simp <;> omega), World.frozen?_alloc_old _ _ t (by simp <;> omega), World.frozen?_alloc_old _ _ t (by simp <;> omega), World.frozen?_alloc_old _ _ t (by simp <;> omega), World.frozen?_alloc_old _ _ t (Nat.ne_of_lt htl)]; exact hf0)
  go_enter Tryz.func87, Tryz.ntmps87
  go_wp2
  refine wp_loop_rounds 2 ?_
  rw [rounds_succ]
  go_wp2
  rw [rounds_succ]
  go_wp2
  go_ret
  exact ⟨rfl, rfl⟩
end Go.X

namespace Go.X
open Go Go.Proofs

def cSeen : Con
  | [.a (.i .i64 n), .a (.i .i64 side)] => some ⟨[], .tup [.agg [.a (.i .i64 (spSF n side)), .a (.i .i64 (spSR n side))], .a (.b (spOk n side))], [], []⟩
  | _ => none
def cPal : Con
  | [.agg [.a (.i .i64 f), .a (.i .i64 r)]] => some ⟨[], .a (.b (spPal f r)), [], []⟩
  | _ => none
def cOvr : Con
  | [.agg [.a (.i .i64 _), .a (.i .i64 r)]] => some ⟨[], .a (.b (spOvr r)), [], []⟩
  | _ => none
def cAdv : Con
  | [.agg [.a (.i .i64 f), .a (.i .i64 r)]] => some ⟨[], .a (.b (spAdv f r)), [], []⟩
  | _ => none
def cEle : Con
  | [.agg [.a (.i .i64 f), .a (.i .i64 r)]] => some ⟨[], .a (.b (spEle f r)), [], []⟩
  | _ => none
def cPwn : Con
  | [.agg [.a (.i .i64 f), .a (.i .i64 r)]] => some ⟨[], .a (.b (spPwn f r)), [], []⟩
  | _ => none
def cMay : Con
  | [.a (.i .u8 c), .a (.i .i64 n)] => some ⟨[], .a (.b (spMay c n)), [], []⟩
  | _ => none
section
variable {G : Nat → World → Prop}
set_option maxHeartbeats 4000000 in
set_option maxRecDepth 20000 in
theorem okSeen (hS : Hyp G) : ConOK Tryz.prog G 101 cSeen := by
  refine seat_con hS.seat [] [] trivial Tryz.func101 rfl rfl rfl ?_
  intro rvs cr hcr hpre
  unfold cSeen at hcr
  split at hcr
  · rename_i n side
    cases hcr
    refine ⟨⟨rfl, rfl, rfl⟩, fun c hc vs => ?_⟩
    repeat' (first | exact Bool.noConfusion ‹(!true) = true› | exact Bool.noConfusion ‹(!false) = false› | (intro h; exact h) | (intro h; rw [h]; rfl) | (intro h1 h2; rw [h1, h2]; rfl) | (intro _; assumption) | (intro _; exact rfl) | (intro h; exact Bool.noConfusion (h.symm.trans ‹_ = false›)) | refine ⟨fun _ => ?_, fun _ => ?_⟩ | refine ⟨?_⟩ | refine ⟨?_, ?_⟩ | fail)
    all_goals first | exact trivial | (refine (?_ : (_ : Int) ≠ _); decide) | exact rfl | skip
    · refine chk_i ?_; rw [spSF, if_neg]; rw [ok_bad ‹_›]; simp
    · refine chk_i ?_; rw [spSR, if_neg]; rw [ok_bad ‹_›]; simp
    · refine chk_b ?_; rw [ok_bad ‹_›]
    all_goals
      rename_i h hs
      have hok := ok_good h
      have hb : 0 ≤ n ∧ n < 90 := by simp [spOk] at hok; omega
      simp only [beq_iff_eq, beq_eq_false_iff_ne] at hs
    · refine chk_i ?_; rw [spSF, if_pos hok, spTurned, if_pos hs, wrap64 (by omega) (by omega), tmod9 (by omega)]
    · refine chk_i ?_; rw [spSR, if_pos hok, spTurned, if_pos hs, wrap64 (x := 89 - n) (by omega) (by omega), tdiv9 (by omega), wrap64 (by omega) (by omega)]
    · exact chk_b hok.symm
    · refine chk_i ?_; rw [spSF, if_pos hok, spTurned, if_neg hs, tmod9 (by omega)]
    · refine chk_i ?_; rw [spSR, if_pos hok, spTurned, if_neg hs, tdiv9 (by omega), wrap64 (by omega) (by omega)]
    · exact chk_b hok.symm
  · cases hcr
set_option maxHeartbeats 4000000 in
set_option maxRecDepth 20000 in
theorem okPal (hS : Hyp G) : ConOK Tryz.prog G 103 cPal := by
  refine seat_con hS.seat [] [] trivial Tryz.func103 rfl rfl rfl ?_
  intro rvs cr hcr hpre
  unfold cPal at hcr
  split at hcr
  · cases hcr
    refine ⟨⟨rfl, rfl, rfl⟩, fun c hc vs => ?_⟩
    repeat' (first | exact Bool.noConfusion ‹(!true) = true› | exact Bool.noConfusion ‹(!false) = false› | (intro h; exact h) | (intro h; rw [h]; rfl) | (intro h1 h2; rw [h1, h2]; rfl) | (intro _; assumption) | (intro _; exact rfl) | (intro h; exact Bool.noConfusion (h.symm.trans ‹_ = false›)) | refine ⟨fun _ => ?_, fun _ => ?_⟩ | refine ⟨?_⟩ | refine ⟨?_, ?_⟩ | fail)
    all_goals first | exact rfl | (refine chk_i ?_; simp_all [spPal]; done) | (refine chk_i ?_; simp only [spPal, decide_eq_true_eq, decide_eq_false_iff_not, Bool.not_eq_true', Bool.not_eq_false', Bool.or_eq_true, Bool.or_eq_false_iff, Bool.and_eq_true, Bool.and_eq_false_iff] at *; (repeat' split) <;> first | rfl | omega | (simp_all; done) | (simp_all; omega)) | (refine chk_b ?_; simp_all [spPal]; done) | (refine chk_b ?_; simp only [spPal, decide_eq_true_eq, decide_eq_false_iff_not, Bool.not_eq_true', Bool.not_eq_false', Bool.or_eq_true, Bool.or_eq_false_iff, Bool.and_eq_true, Bool.and_eq_false_iff] at *; (repeat' split) <;> first | rfl | omega | (simp_all; done) | (simp_all; omega)) | (refine chk_s ?_; simp_all [spPal]; done) | (refine chk_s ?_; simp only [spPal, decide_eq_true_eq, decide_eq_false_iff_not, Bool.not_eq_true', Bool.not_eq_false', Bool.or_eq_true, Bool.or_eq_false_iff, Bool.and_eq_true, Bool.and_eq_false_iff] at *; (repeat' split) <;> first | rfl | omega | (simp_all; done) | (simp_all; omega)) | (simp_all [spPal]; done) | (simp_all [spPal]; omega) | skip
  · cases hcr
set_option maxHeartbeats 4000000 in
set_option maxRecDepth 20000 in
theorem okOvr (hS : Hyp G) : ConOK Tryz.prog G 143 cOvr := by
  refine seat_con hS.seat [] [] trivial Tryz.func143 rfl rfl rfl ?_
  intro rvs cr hcr hpre
  unfold cOvr at hcr
  split at hcr
  · cases hcr
    refine ⟨⟨rfl, rfl, rfl⟩, fun c hc vs => ?_⟩
    repeat' (first | exact Bool.noConfusion ‹(!true) = true› | exact Bool.noConfusion ‹(!false) = false› | (intro h; exact h) | (intro h; rw [h]; rfl) | (intro h1 h2; rw [h1, h2]; rfl) | (intro _; assumption) | (intro _; exact rfl) | (intro h; exact Bool.noConfusion (h.symm.trans ‹_ = false›)) | refine ⟨fun _ => ?_, fun _ => ?_⟩ | refine ⟨?_⟩ | refine ⟨?_, ?_⟩ | fail)
    all_goals first | exact rfl | (refine chk_i ?_; simp_all [spOvr]; done) | (refine chk_i ?_; simp only [spOvr, decide_eq_true_eq, decide_eq_false_iff_not, Bool.not_eq_true', Bool.not_eq_false', Bool.or_eq_true, Bool.or_eq_false_iff, Bool.and_eq_true, Bool.and_eq_false_iff] at *; (repeat' split) <;> first | rfl | omega | (simp_all; done) | (simp_all; omega)) | (refine chk_b ?_; simp_all [spOvr]; done) | (refine chk_b ?_; simp only [spOvr, decide_eq_true_eq, decide_eq_false_iff_not, Bool.not_eq_true', Bool.not_eq_false', Bool.or_eq_true, Bool.or_eq_false_iff, Bool.and_eq_true, Bool.and_eq_false_iff] at *; (repeat' split) <;> first | rfl | omega | (simp_all; done) | (simp_all; omega)) | (refine chk_s ?_; simp_all [spOvr]; done) | (refine chk_s ?_; simp only [spOvr, decide_eq_true_eq, decide_eq_false_iff_not, Bool.not_eq_true', Bool.not_eq_false', Bool.or_eq_true, Bool.or_eq_false_iff, Bool.and_eq_true, Bool.and_eq_false_iff] at *; (repeat' split) <;> first | rfl | omega | (simp_all; done) | (simp_all; omega)) | (simp_all [spOvr]; done) | (simp_all [spOvr]; omega) | skip
  · cases hcr
set_option maxHeartbeats 4000000 in
set_option maxRecDepth 20000 in
theorem okAdv (hS : Hyp G) : ConOK Tryz.prog G 104 cAdv := by
  refine seat_con hS.seat [(103, cPal)] [] ⟨okPal hS, trivial⟩ Tryz.func104 rfl rfl rfl ?_
  intro rvs cr hcr hpre
  unfold cAdv at hcr
  split at hcr
  · cases hcr
    refine ⟨⟨rfl, rfl, rfl⟩, fun c hc vs => ?_⟩
    repeat' (first | exact Bool.noConfusion ‹(!true) = true› | exact Bool.noConfusion ‹(!false) = false› | (intro h; exact h) | (intro h; rw [h]; rfl) | (intro h1 h2; rw [h1, h2]; rfl) | (intro _; assumption) | (intro _; exact rfl) | (intro h; exact Bool.noConfusion (h.symm.trans ‹_ = false›)) | refine ⟨fun _ => ?_, fun _ => ?_⟩ | refine ⟨?_⟩ | refine ⟨?_, ?_⟩ | fail)
    all_goals first | exact rfl | (refine chk_i ?_; simp_all [spAdv]; done) | (refine chk_i ?_; simp only [spAdv, decide_eq_true_eq, decide_eq_false_iff_not, Bool.not_eq_true', Bool.not_eq_false', Bool.or_eq_true, Bool.or_eq_false_iff, Bool.and_eq_true, Bool.and_eq_false_iff] at *; (repeat' split) <;> first | rfl | omega | (simp_all; done) | (simp_all; omega)) | (refine chk_b ?_; simp_all [spAdv]; done) | (refine chk_b ?_; simp only [spAdv, decide_eq_true_eq, decide_eq_false_iff_not, Bool.not_eq_true', Bool.not_eq_false', Bool.or_eq_true, Bool.or_eq_false_iff, Bool.and_eq_true, Bool.and_eq_false_iff] at *; (repeat' split) <;> first | rfl | omega | (simp_all; done) | (simp_all; omega)) | (refine chk_s ?_; simp_all [spAdv]; done) | (refine chk_s ?_; simp only [spAdv, decide_eq_true_eq, decide_eq_false_iff_not, Bool.not_eq_true', Bool.not_eq_false', Bool.or_eq_true, Bool.or_eq_false_iff, Bool.and_eq_true, Bool.and_eq_false_iff] at *; (repeat' split) <;> first | rfl | omega | (simp_all; done) | (simp_all; omega)) | (simp_all [spAdv]; done) | (simp_all [spAdv]; omega) | skip
  · cases hcr
set_option maxHeartbeats 4000000 in
set_option maxRecDepth 20000 in
theorem okEle (hS : Hyp G) : ConOK Tryz.prog G 105 cEle := by
  refine seat_con hS.seat [] [] trivial Tryz.func105 rfl rfl rfl ?_
  intro rvs cr hcr hpre
  unfold cEle at hcr
  split at hcr
  · cases hcr
    refine ⟨⟨rfl, rfl, rfl⟩, fun c hc vs => ?_⟩
    repeat' (first | exact Bool.noConfusion ‹(!true) = true› | exact Bool.noConfusion ‹(!false) = false› | (intro h; exact h) | (intro h; rw [h]; rfl) | (intro h1 h2; rw [h1, h2]; rfl) | (intro _; assumption) | (intro _; exact rfl) | (intro h; exact Bool.noConfusion (h.symm.trans ‹_ = false›)) | refine ⟨fun _ => ?_, fun _ => ?_⟩ | refine ⟨?_⟩ | refine ⟨?_, ?_⟩ | fail)
    all_goals first | exact rfl | (refine chk_i ?_; simp_all [spEle]; done) | (refine chk_i ?_; simp only [spEle, decide_eq_true_eq, decide_eq_false_iff_not, Bool.not_eq_true', Bool.not_eq_false', Bool.or_eq_true, Bool.or_eq_false_iff, Bool.and_eq_true, Bool.and_eq_false_iff] at *; (repeat' split) <;> first | rfl | omega | (simp_all; done) | (simp_all; omega)) | (refine chk_b ?_; simp_all [spEle]; done) | (refine chk_b ?_; simp only [spEle, decide_eq_true_eq, decide_eq_false_iff_not, Bool.not_eq_true', Bool.not_eq_false', Bool.or_eq_true, Bool.or_eq_false_iff, Bool.and_eq_true, Bool.and_eq_false_iff] at *; (repeat' split) <;> first | rfl | omega | (simp_all; done) | (simp_all; omega)) | (refine chk_s ?_; simp_all [spEle]; done) | (refine chk_s ?_; simp only [spEle, decide_eq_true_eq, decide_eq_false_iff_not, Bool.not_eq_true', Bool.not_eq_false', Bool.or_eq_true, Bool.or_eq_false_iff, Bool.and_eq_true, Bool.and_eq_false_iff] at *; (repeat' split) <;> first | rfl | omega | (simp_all; done) | (simp_all; omega)) | (simp_all [spEle]; done) | (simp_all [spEle]; omega) | skip
  · cases hcr
set_option maxHeartbeats 4000000 in
set_option maxRecDepth 20000 in
theorem okPwn (hS : Hyp G) : ConOK Tryz.prog G 106 cPwn := by
  refine seat_con hS.seat [(143, cOvr)] [] ⟨okOvr hS, trivial⟩ Tryz.func106 rfl rfl rfl ?_
  intro rvs cr hcr hpre
  unfold cPwn at hcr
  split at hcr
  · cases hcr
    refine ⟨⟨rfl, rfl, rfl⟩, fun c hc vs => ?_⟩
    repeat' (first | exact Bool.noConfusion ‹(!true) = true› | exact Bool.noConfusion ‹(!false) = false› | (intro h; exact h) | (intro h; rw [h]; rfl) | (intro h1 h2; rw [h1, h2]; rfl) | (intro _; assumption) | (intro _; exact rfl) | (intro h; exact Bool.noConfusion (h.symm.trans ‹_ = false›)) | refine ⟨fun _ => ?_, fun _ => ?_⟩ | refine ⟨?_⟩ | refine ⟨?_, ?_⟩ | fail)
    all_goals first | exact rfl | (refine chk_i ?_; simp_all [spPwn]; done) | (refine chk_i ?_; simp only [spPwn, decide_eq_true_eq, decide_eq_false_iff_not, Bool.not_eq_true', Bool.not_eq_false', Bool.or_eq_true, Bool.or_eq_false_iff, Bool.and_eq_true, Bool.and_eq_false_iff] at *; (repeat' split) <;> first | rfl | omega | (simp_all; done) | (simp_all; omega)) | (refine chk_b ?_; simp_all [spPwn]; done) | (refine chk_b ?_; simp only [spPwn, decide_eq_true_eq, decide_eq_false_iff_not, Bool.not_eq_true', Bool.not_eq_false', Bool.or_eq_true, Bool.or_eq_false_iff, Bool.and_eq_true, Bool.and_eq_false_iff] at *; (repeat' split) <;> first | rfl | omega | (simp_all; done) | (simp_all; omega)) | (refine chk_s ?_; simp_all [spPwn]; done) | (refine chk_s ?_; simp only [spPwn, decide_eq_true_eq, decide_eq_false_iff_not, Bool.not_eq_true', Bool.not_eq_false', Bool.or_eq_true, Bool.or_eq_false_iff, Bool.and_eq_true, Bool.and_eq_false_iff] at *; (repeat' split) <;> first | rfl | omega | (simp_all; done) | (simp_all; omega)) | (simp_all [spPwn]; done) | (simp_all [spPwn]; omega) | skip
  · cases hcr
set_option maxHeartbeats 4000000 in
set_option maxRecDepth 20000 in
theorem okMay (hS : Hyp G) : ConOK Tryz.prog G 62 cMay := by
  refine seat_con hS.seat [(102, cSide), (64, cKind), (101, cSeen), (103, cPal), (104, cAdv), (105, cEle), (106, cPwn)] [] ⟨okSide hS, okKind hS, okSeen hS, okPal hS, okAdv hS, okEle hS, okPwn hS, trivial⟩ Tryz.func62 rfl rfl rfl ?_
  intro rvs cr hcr hpre
  unfold cMay at hcr
  split at hcr
  · cases hcr
    refine ⟨⟨rfl, rfl, rfl⟩, fun c hc vs => ?_⟩
    repeat' (first | exact Bool.noConfusion ‹(!true) = true› | exact Bool.noConfusion ‹(!false) = false› | (intro h; exact h) | (intro h; rw [h]; rfl) | (intro h1 h2; rw [h1, h2]; rfl) | (intro _; assumption) | (intro _; exact rfl) | (intro h; exact Bool.noConfusion (h.symm.trans ‹_ = false›)) | refine ⟨fun _ => ?_, fun _ => ?_⟩ | refine ⟨?_⟩ | refine ⟨?_, ?_⟩ | fail)
    all_goals first | exact rfl | (refine chk_i ?_; simp_all [spMay]; done) | (refine chk_i ?_; simp only [spMay, decide_eq_true_eq, decide_eq_false_iff_not, Bool.not_eq_true', Bool.not_eq_false', Bool.or_eq_true, Bool.or_eq_false_iff, Bool.and_eq_true, Bool.and_eq_false_iff] at *; (repeat' split) <;> first | rfl | omega | (simp_all; done) | (simp_all; omega)) | (refine chk_b ?_; simp_all [spMay]; done) | (refine chk_b ?_; simp only [spMay, decide_eq_true_eq, decide_eq_false_iff_not, Bool.not_eq_true', Bool.not_eq_false', Bool.or_eq_true, Bool.or_eq_false_iff, Bool.and_eq_true, Bool.and_eq_false_iff] at *; (repeat' split) <;> first | rfl | omega | (simp_all; done) | (simp_all; omega)) | (refine chk_s ?_; simp_all [spMay]; done) | (refine chk_s ?_; simp only [spMay, decide_eq_true_eq, decide_eq_false_iff_not, Bool.not_eq_true', Bool.not_eq_false', Bool.or_eq_true, Bool.or_eq_false_iff, Bool.and_eq_true, Bool.and_eq_false_iff] at *; (repeat' split) <;> first | rfl | omega | (simp_all; done) | (simp_all; omega)) | (simp_all [spMay]; done) | (simp_all [spMay]; omega) | skip
  · cases hcr
end
end Go.X

namespace Go.X
open Go Go.Proofs

def cPMost : Con
  | [.a (.i .u8 c)] => some ⟨[BY c], .a (.i .i64 (dMost c)), [], []⟩
  | _ => none
def cPCheck : Con
  | [.agg [.a (.s p), .a (.i .i64 side), .a (.i .i64 clock), .a (.i .i64 full)]] => some ⟨[], .a (.i .i64 (rCheck p side clock full)), [], []⟩
  | _ => none
section
variable {G : Nat → World → Prop}
set_option maxHeartbeats 4000000 in
set_option maxRecDepth 20000 in
theorem okPMost (hS : Hyp G) : ConOK Tryz.prog G 63 cPMost := by
  refine seat_con hS.seat [(64, cKind)] [] ⟨okKind hS, trivial⟩ Tryz.func63 rfl rfl rfl ?_
  intro rvs cr hcr hpre
  unfold cPMost at hcr
  split at hcr
  · rename_i c0
    cases hcr
    simp only [List.mem_cons, List.not_mem_nil, or_false, forall_eq_or_imp, forall_eq] at hpre
    refine ⟨⟨rfl, rfl, rfl⟩, fun c hc vs => ?_⟩
    repeat' (first | exact Bool.noConfusion ‹(!true) = true› | exact Bool.noConfusion ‹(!false) = false› | (intro h; exact h) | (intro h; rw [h]; rfl) | (intro h1 h2; rw [h1, h2]; rfl) | (intro _; assumption) | (intro _; exact rfl) | (intro h; exact Bool.noConfusion (h.symm.trans ‹_ = false›)) | refine ⟨fun _ => ?_, fun _ => ?_⟩ | refine ⟨?_⟩ | refine ⟨?_, ?_⟩ | fail)
    all_goals first | exact hpre | exact rfl | skip
    · exact chk_i (by rw [dMost, if_pos (beqT ‹_›)])
    · rename_i h1 h2; exact chk_i (by rw [dMost, if_neg (beqF h1), if_pos (beqT h2)])
    · rename_i h1 h2 h3; exact chk_i (by rw [dMost, if_neg (beqF h1), if_neg (beqF h2), if_pos (beqT h3)])
    · rename_i h1 h2 h3; exact chk_i (by rw [dMost, if_neg (beqF h1), if_neg (beqF h2), if_neg (beqF h3)])
  · cases hcr
set_option maxHeartbeats 4000000 in
set_option maxRecDepth 20000 in
theorem okPCheck (hS : Hyp G) : ConOK Tryz.prog G 36 cPCheck := by
  refine seat_con hS.seat [(61, cIs), (62, cMay), (63, cPMost), (64, cKind)] [] ⟨okIs hS, okMay hS, okPMost hS, okKind hS, trivial⟩ Tryz.func36 rfl rfl rfl ?_
  intro rvs cr hcr hpre
  unfold cPCheck at hcr
  split at hcr
  · rename_i p side clock full
    cases hcr
    refine ⟨⟨rfl, rfl, rfl⟩, fun c hc vs => ?_⟩
    repeat' (first | exact Bool.noConfusion ‹(!true) = true› | exact Bool.noConfusion ‹(!false) = false› | (intro h; exact h) | (intro h; rw [h]; rfl) | (intro h1 h2; rw [h1, h2]; rfl) | (intro _; assumption) | (intro _; exact rfl) | (intro h; exact Bool.noConfusion (h.symm.trans ‹_ = false›)) | refine ⟨fun _ => ?_, fun _ => ?_⟩ | refine ⟨?_⟩ | refine ⟨?_, ?_⟩ | fail)
    all_goals first | exact rfl | skip
    · rename_i h; exact chk_i (by rw [rCheck, if_pos (pArg_t h)])
    · rename_i h
      have ha := pArg_f h
      have hp := (rArg_f ha).1
      have hb := bl_bytes hp
      have h90 := spIs_size hp
      refine Tr_loopH (α := Nat) (fun i => [(4, .b (rightTo (bytesL p) i)), (43, .i .i64 (.ofNat i))]) (fun _ => []) (fun i => [(0, some ⟨96, .int .i64, cntT (bytesL p) i, true⟩)]) (fun i => i ≤ 90) (fun i => 90 - i) 0 (Nat.zero_le _) (by ((refine ⟨?_, rfl, ?_, ?_, ?_, rfl⟩ <;> repeat' (first | exact trivial | (refine ⟨rfl, ?_⟩) | (refine ⟨?_, ?_⟩) | fail)); all_goals first | rfl | (simp (config := { failIfUnchanged := false }) only [cntT_zero, rightTo_zero]; done) | (simp [cntT_zero, rightTo_zero]; done) | (simp_all [cntT_zero, rightTo_zero]; done) | skip)) ?_
      intro i hi
      have hby := BY.at p (Int.ofNat i).toNat
      have hcl := cntT_len (bytesL p) i
      refine vs.go rfl ?_
      repeat' (first | exact Bool.noConfusion ‹(!true) = true› | exact Bool.noConfusion ‹(!false) = false› | (intro h; exact h) | (intro h; rw [h]; rfl) | (intro h1 h2; rw [h1, h2]; rfl) | (intro _; assumption) | (intro _; exact rfl) | (intro h; exact Bool.noConfusion (h.symm.trans ‹_ = false›)) | refine ⟨fun _ => ?_, fun _ => ?_⟩ | refine ⟨?_⟩ | refine ⟨?_, ?_⟩ | fail)
      all_goals first | exact trivial | (refine (?_ : (_ : Int) ≠ _); decide) | exact rfl | skip
      all_goals try dsimp only at *
      all_goals first | (rename_i h; have h := lt90 h; show (i : Int) < (p.size : Int); omega) | exact hby.lo | (show byteAt p _ < ((cntT (bytesL p) i).length : Int); rw [hcl]; exact hby.hi) | exact hcl | skip
      · rename_i h1
        have hi90 := lt90 h1
        have hil : i < (bytesL p).length := by rw [hb.len]; exact hi90
        have hbi : (bytesL p).getD i 0 = byteAt p (Int.ofNat i).toNat := bytesL_getD p i
        have hbd := cntT_bd (bytesL p) i hb.len hby
        refine Again.mk (i + 1) (by omega) (by omega) ?_
        rw [cntT_next hil (by rw [hbi]; exact hby), hbi, rightTo_next, bAt_bytes, wrapN (by omega)]
        have hw : IntKind.i64.wrap ((cntT (bytesL p) i).getD (byteAt p (Int.ofNat i).toNat).toNat (EK.int .i64).dflt + 1) = (cntT (bytesL p) i).getD (byteAt p (Int.ofNat i).toNat).toNat 0 + 1 := wrap64 (x := (cntT (bytesL p) i).getD (byteAt p (Int.ofNat i).toNat).toNat 0 + 1) (by omega) (by omega)
        rw [hw]
        (refine ⟨?_, rfl, ?_, ?_, ?_, rfl⟩ <;> repeat' (first | exact trivial | (refine ⟨rfl, ?_⟩) | fail))
      · rename_i h1
        have hi90 : i = 90 := by have := ge90 h1; omega
        subst hi90
        refine Tr_loopH (α := Nat) (fun i => [(69, .i .i64 (.ofNat i))]) (fun _ => []) (fun _ => []) (fun i => i ≤ 14 ∧ ∀ k, k < i → dBadN (bytesL p) (letL.getD k 0) = false) (fun i => 14 - i) 0 ⟨by omega, fun k hk => by omega⟩ (by (refine ⟨?_, rfl, ?_, ?_, ?_, rfl⟩ <;> repeat' (first | exact trivial | (refine ⟨rfl, ?_⟩) | fail))) ?_
        rintro i ⟨hi, hq⟩
        obtain ⟨c1, hc1⟩ : ∃ c1, ([75, 65, 66, 78, 82, 67, 80, 107, 97, 98, 110, 114, 99, 112] : List EK.byte.ty).getD (Int.ofNat i).toNat EK.byte.dflt = c1 := ⟨_, rfl⟩
        have hc2 : c1 = letL.getD i 0 := hc1.symm
        have hlt : decide (Int.ofNat i < ((([75, 65, 66, 78, 82, 67, 80, 107, 97, 98, 110, 114, 99, 112] : List EK.byte.ty).length : Nat) : Int)) = true → i < 14 := fun h => ltN h
        have hge : decide (Int.ofNat i < ((([75, 65, 66, 78, 82, 67, 80, 107, 97, 98, 110, 114, 99, 112] : List EK.byte.ty).length : Nat) : Int)) = false → 14 ≤ i := fun h => geN h
        have hby1 : i < 14 → BY c1 := fun h => by rw [hc2]; exact letL_by i h
        have hcn : i < 14 → (cntT (bytesL p) 90).getD c1.toNat (EK.int .i64).dflt = dCnt (bytesL p) c1 := fun h => cntT_all hb.len (hby1 h)
        refine vs.go rfl ?_
        repeat' (first | exact Bool.noConfusion ‹(!true) = true› | exact Bool.noConfusion ‹(!false) = false› | (intro h; exact h) | (intro h; rw [h]; rfl) | (intro h1 h2; rw [h1, h2]; rfl) | (intro _; assumption) | (intro _; exact rfl) | (intro h; exact Bool.noConfusion (h.symm.trans ‹_ = false›)) | refine ⟨fun _ => ?_, fun _ => ?_⟩ | refine ⟨?_⟩ | refine ⟨?_, ?_⟩ | fail)
        all_goals first | exact trivial | (refine (?_ : (_ : Int) ≠ _); decide) | exact rfl | skip
        all_goals try dsimp only at *
        all_goals simp only [hc1] at *
        all_goals first | (rename_i h; exact Int.ofNat_lt.2 (hlt h)) | (rename_i h; exact (hby1 (hlt h)).lo) | (rename_i h; exact hby1 (hlt h)) | (rename_i h; show c1 < (((cntT (bytesL p) 90).length : Nat) : Int); rw [hcl]; exact (hby1 (hlt h)).hi) | (rename_i h; intro _; exact ⟨(hby1 (hlt h)).lo, by show c1 < (((cntT (bytesL p) 90).length : Nat) : Int); rw [hcl]; exact (hby1 (hlt h)).hi, hcl⟩) | skip
        · rename_i h3 h4
          rw [hcn (hlt h3)] at h4
          exact chk_i (by rw [rCheck, if_neg (by simp [ha]), dCheck, if_pos (any_t (d := 0) (hlt h3) (by rw [← hc2]; exact h4))])
        · rename_i h3 h4
          rw [hcn (hlt h3)] at h4
          have := hlt h3
          refine Again.mk (i + 1) ⟨by omega, till hq (by rw [← hc2]; exact h4)⟩ (by omega) ?_
          rw [wrapN (by omega)]
          (refine ⟨?_, rfl, ?_, ?_, ?_, rfl⟩ <;> repeat' (first | exact trivial | (refine ⟨rfl, ?_⟩) | fail))
        · rename_i h3 h4
          have := hge h3
          have hN : letL.any (dBadN (bytesL p)) = false := any_f (d := 0) fun k hk => hq k (by have : letL.length = 14 := rfl; omega)
          rw [rightTo_all, Bool.not_not] at h4
          exact chk_i (by rw [rCheck, if_neg (by simp [ha]), dCheck, if_neg (by rw [hN]; exact Bool.noConfusion), if_pos h4])
        · rename_i h3 h4
          have := hge h3
          have hN : letL.any (dBadN (bytesL p)) = false := any_f (d := 0) fun k hk => hq k (by have : letL.length = 14 := rfl; omega)
          rw [rightTo_all, Bool.not_not] at h4
          exact chk_i (by rw [rCheck, if_neg (by simp [ha]), dCheck, if_neg (by rw [hN]; exact Bool.noConfusion), if_neg (by rw [h4]; exact Bool.noConfusion)])
  · cases hcr
end
end Go.X

namespace Go.X
open Go Go.Proofs Go.RowKit

theorem as_run {b : Nat} {n : Int} {old : Value} {w : World} (ht : w.cell? ⟨b, 0, none⟩ = some old) (hf : w.frozen? ⟨b, 0, none⟩ = false) : (storeCells ⟨b, 0, none⟩ [.int .i64 n]).run Tryz.prog w = .ok () (w.setCell ⟨b, 0, none⟩ (.int .i64 n)) := by
  simp only [storeCells, Sem.run_bind, Addr.add]
  rw [run_store Tryz.prog w _ _ _ (by rfl)]
  simp [ht, hf, Result.andThen]
theorem as_lawR (n : Int) : AsLaw Tryz.prog 87 125 123 Globs (.iface 123 (.int .i64 n)) n := by
  intro b old w hG hb
  have hlt : b < w.heap.size := (Array.getElem?_eq_some_iff.1 hb).1
  have ht0 : w.cell? ⟨b, 0, none⟩ = some old := by unfold World.cell?; simp [hb]
  have hf0 : w.frozen? ⟨b, 0, none⟩ = false := by unfold World.frozen?; simp [hb]
  refine (as_hitR n ⟨b, 0, none⟩ old w hG.ety ht0 hf0).mono ?_
  rintro en w' ⟨rfl, rfl⟩
  refine ⟨rfl, _, ?_, as_run (old := old) ?_ ?_⟩
  · exact ((((Below.refl _ _).alloc (Nat.le_refl _) _).alloc (by simp) _).alloc (by simp <;> omega) _).alloc (by simp <;> omega) _
  · rw [World.cell?_alloc_lt _ _ _ (by simp <;> omega), World.cell?_alloc_lt _ _ _ (by simp <;> omega), World.cell?_alloc_lt _ _ _ (by simp <;> omega), World.cell?_alloc_lt _ _ _ hlt]; exact ht0
  · rw [World.frozen?_alloc_old _ _ _ (by simp <;> omega), World.frozen?_alloc_old _ _ _ (by simp <;> omega), World.frozen?_alloc_old _ _ _ (by simp <;> omega), World.frozen?_alloc_old _ _ _ (Nat.ne_of_lt hlt)]; exact hf0
theorem as_lawW (f n : Int) : AsLaw Tryz.prog 87 125 123 Globs (.iface 167 (.agg #[.int .i64 f, .iface 123 (.int .i64 n)])) n := by
  intro b old w hG hb
  have hlt : b < w.heap.size := (Array.getElem?_eq_some_iff.1 hb).1
  have ht0 : w.cell? ⟨b, 0, none⟩ = some old := by unfold World.cell?; simp [hb]
  have hf0 : w.frozen? ⟨b, 0, none⟩ = false := by unfold World.frozen?; simp [hb]
  refine (as_hitW f n ⟨b, 0, none⟩ old w hG.ety ht0 hf0).mono ?_
  rintro en w' ⟨rfl, rfl⟩
  refine ⟨rfl, _, ?_, as_run (old := old) ?_ ?_⟩
  · exact (((((Below.refl _ _).alloc (Nat.le_refl _) _).alloc (by simp) _).alloc (by simp <;> omega) _).alloc (by simp <;> omega) _).alloc (by simp <;> omega) _
  · rw [World.cell?_alloc_lt _ _ _ (by simp <;> omega), World.cell?_alloc_lt _ _ _ (by simp <;> omega), World.cell?_alloc_lt _ _ _ (by simp <;> omega), World.cell?_alloc_lt _ _ _ (by simp <;> omega), World.cell?_alloc_lt _ _ _ hlt]; exact ht0
  · rw [World.frozen?_alloc_old _ _ _ (by simp <;> omega), World.frozen?_alloc_old _ _ _ (by simp <;> omega), World.frozen?_alloc_old _ _ _ (by simp <;> omega), World.frozen?_alloc_old _ _ _ (by simp <;> omega), World.frozen?_alloc_old _ _ _ (Nat.ne_of_lt hlt)]; exact hf0

structure SHT (s : ByteArray) : Prop where
  le : s.size ≤ 4000000
  u : True
  v : True
def cIdxS : Con
  | [.a (.s s), .a (.s t)] => some ⟨[SHT s], .a (.i .i64 (Lib.index s.data.toList t.data.toList)), [], []⟩
  | _ => none
def cConS : Con
  | [.a (.s s), .a (.s t)] => some ⟨[SHT s], .a (.b (Lib.contains s.data.toList t.data.toList)), [], []⟩
  | _ => none
section
variable {G : Nat → World → Prop}
theorem okIdxS (hS : Hyp G) : ConOK Tryz.prog G 91 cIdxS := by
  refine con_ext Tryz.func91 rfl rfl ?_
  intro rvs cr hcr hpre
  unfold cIdxS at hcr
  split at hcr
  · rename_i s t
    cases hcr
    have hp := (hpre _ (List.mem_singleton.2 rfl)).le
    refine ⟨_, .int .i64 (Lib.index s.data.toList t.data.toList), _, rfl, rfl, fun _ _ => rfl, fun g0 w _ hG => ?_⟩
    obtain ⟨m, hm⟩ := (hS.glob g0 w hG).mlen
    refine (Tryz.strings_Index s t m w (by omega) hm).mono ?_
    rintro e w' ⟨rfl, rfl⟩
    exact ⟨rfl, Below.refl _ _⟩
  · cases hcr
theorem okConS (hS : Hyp G) : ConOK Tryz.prog G 128 cConS := by
  refine con_ext Tryz.func128 rfl rfl ?_
  intro rvs cr hcr hpre
  unfold cConS at hcr
  split at hcr
  · rename_i s t
    cases hcr
    have hp := (hpre _ (List.mem_singleton.2 rfl)).le
    refine ⟨_, .bool (Lib.contains s.data.toList t.data.toList), _, rfl, rfl, fun _ _ => rfl, fun g0 w _ hG => ?_⟩
    obtain ⟨m, hm⟩ := (hS.glob g0 w hG).mlen
    refine (Tryz.strings_Contains s t m w (by omega) hm).mono ?_
    rintro e w' ⟨rfl, rfl⟩
    exact ⟨rfl, Below.refl _ _⟩
  · cases hcr
end
end Go.X

namespace Go.X
open Go Go.Proofs Go.RowKit

def aggP (p : Pos4) : RT := .agg [.a (.s p.1), .a (.i .i64 p.2.1), .a (.i .i64 p.2.2.1), .a (.i .i64 p.2.2.2)]
def cParse4 : Con
  | [.a (.s s)] => some ⟨[TZ4 s], .tup [aggP (parseP s).1, .a (.i .i64 (parseP s).2)], [], []⟩
  | _ => none
/- The parts, veiled. -/
noncomputable def cSplitV : Con := cSplitF 9 (fun s sep => veil (splitL s sep)) SPL
noncomputable def cNumV : Con
  | [.a (.s s)] => some ⟨[TZ4 s], .tup [.a (.i .i64 (veil (atoiV s))), .a (.b (veil (numOk s)))], [], []⟩
  | _ => none
noncomputable def cIdxV : Con
  | [.a (.s s), .a (.s t)] => some ⟨[SHT s], .a (.i .i64 (veil (Lib.index s.data.toList t.data.toList))), [], []⟩
  | _ => none
noncomputable def cConV : Con
  | [.a (.s s), .a (.s t)] => some ⟨[SHT s], .a (.b (veil (Lib.contains s.data.toList t.data.toList))), [], []⟩
  | _ => none
noncomputable def cCellsV : Con
  | [.a (.s s)] => some ⟨[TZ4 s], .tup [.a (.s (veil (bytesOf (cellsT (bytesL s))))), .a (.b (veil (cellsOk (bytesL s))))], [], []⟩
  | _ => none
noncomputable def cCheckV : Con
  | [.agg [.a (.s p), .a (.i .i64 side), .a (.i .i64 clock), .a (.i .i64 full)]] => some ⟨[], .a (.i .i64 (veil (rCheck p side clock full))), [], []⟩
  | _ => none
theorem splitV : cSplitV = cSplitS := by unfold cSplitV; congr 1; funext s sep; exact veil_eq _
theorem numV : cNumV = cNumP := by
  funext l; unfold cNumV cNumP; split <;> simp only [veil_eq]
theorem idxV : cIdxV = cIdxS := by
  funext l; unfold cIdxV cIdxS; split <;> simp only [veil_eq]
theorem conV : cConV = cConS := by
  funext l; unfold cConV cConS; split <;> simp only [veil_eq]
theorem cellsV : cCellsV = cCellsP := by
  funext l; unfold cCellsV cCellsP; split <;> simp only [veil_eq]
theorem checkV : cCheckV = cPCheck := by
  funext l; unfold cCheckV cPCheck; split <;> simp only [veil_eq]
section
variable {G : Nat → World → Prop}
theorem okSplitV (hS : Hyp G) : ConOK Tryz.prog G 32 cSplitV := by rw [splitV]; exact okSplitS hS
theorem okNumV (hS : Hyp G) : ConOK Tryz.prog G 126 cNumV := by rw [numV]; exact okNumP hS
theorem okIdxV (hS : Hyp G) : ConOK Tryz.prog G 91 cIdxV := by rw [idxV]; exact okIdxS hS
theorem okConV (hS : Hyp G) : ConOK Tryz.prog G 128 cConV := by rw [conV]; exact okConS hS
theorem okCellsV (hS : Hyp G) : ConOK Tryz.prog G 127 cCellsV := by rw [cellsV]; exact okCellsP hS
theorem okCheckV (hS : Hyp G) : ConOK Tryz.prog G 36 cCheckV := by rw [checkV]; exact okPCheck hS
set_option maxHeartbeats 40000000 in
set_option maxRecDepth 20000 in
theorem okParse4 (hS : Hyp G) : ConOK Tryz.prog G 53 cParse4 := by
  refine seat_conG hS.seat [(32, cSplitV), (126, cNumV), (91, cIdxV), (127, cCellsV), (128, cConV), (36, cCheckV)] [] ⟨okSplitV hS, okNumV hS, okIdxV hS, okCellsV hS, okConV hS, okCheckV hS, trivial⟩ Tryz.func53 rfl rfl rfl ?_
  intro rvs cr hcr hpre
  unfold cParse4 at hcr
  split at hcr
  · rename_i s
    cases hcr
    simp only [List.mem_cons, List.not_mem_nil, or_false, forall_eq_or_imp, forall_eq] at hpre
    refine ⟨⟨rfl, rfl, rfl⟩, fun c hc hgood vs => ?_⟩
    have hsz := hpre.le
    repeat' (first | exact Bool.noConfusion ‹(!true) = true› | exact Bool.noConfusion ‹(!false) = false› | (intro h; exact h) | (intro h; rw [h]; rfl) | (intro h1 h2; rw [h1, h2]; rfl) | (intro _; assumption) | (intro _; exact rfl) | (intro h; exact Bool.noConfusion (h.symm.trans ‹_ = false›)) | refine ⟨fun _ => ?_, fun _ => ?_⟩ | refine ⟨?_⟩ | refine ⟨?_, ?_⟩ | fail)
    refine trOps_none rfl (inl_one false hS.seat.tt rfl rfl Tryz.func86 rfl rfl ?_)
    intro cI hkI hrI
    refine (vs.kin hkI).go rfl ?_
    repeat' (first | exact Bool.noConfusion ‹(!true) = true› | exact Bool.noConfusion ‹(!false) = false› | (intro h; exact h) | (intro h; rw [h]; rfl) | (intro h1 h2; rw [h1, h2]; rfl) | (intro _; assumption) | (intro _; exact rfl) | (intro h; exact Bool.noConfusion (h.symm.trans ‹_ = false›)) | refine ⟨fun _ => ?_, fun _ => ?_⟩ | refine ⟨?_⟩ | refine ⟨?_, ?_⟩ | fail)
    all_goals try simp only [veil_eq] at *
    all_goals first | exact rfl | exact trivial | skip
    all_goals first | (have hL6 : (pieces 32 s).length = 6 := len_is6 ‹(Int.ofNat (pieces 32 s).length == 6) = true›) | (have hL2 : (pieces 32 s).length = 2 := len_is2 ‹(Int.ofNat (pieces 32 s).length == 2) = true›) | skip
    all_goals first | exact ⟨hsz, rfl, trivial⟩ | exact ⟨fld_tz hsz _, trivial, trivial⟩ | exact ⟨by decide, trivial, trivial⟩ | (refine (?_ : (2 : Int) ≠ 0); decide) | (refine (?_ : (_ : Int) < Int.ofNat (pieces 32 s).length); first | (rw [hL6]; decide) | (rw [hL2]; decide)) | (refine (fun _ => (?_ : (0 : Int) ≤ _ ∧ (_ : Int) < Int.ofNat (pieces 32 s).length)); first | (rw [hL6]; exact ⟨by decide, by decide⟩) | (rw [hL2]; exact ⟨by decide, by decide⟩)) | exact fun _ => ⟨by decide, trivial, trivial⟩ | skip
    · have hpp := parse_bad (rd_bad hL6 (‹(!numOk (fld s 4) || !numOk (fld s 5) || !strEq (fld s 2) ⟨#[45]⟩ || !strEq (fld s 3) ⟨#[45]⟩) = true›))
      refine vs.on ?_
      repeat' (first | exact Bool.noConfusion ‹(!true) = true› | exact Bool.noConfusion ‹(!false) = false› | (intro h; exact h) | (intro h; rw [h]; rfl) | (intro h1 h2; rw [h1, h2]; rfl) | (intro _; assumption) | (intro _; exact rfl) | (intro h; exact Bool.noConfusion (h.symm.trans ‹_ = false›)) | refine ⟨fun _ => ?_, fun _ => ?_⟩ | refine ⟨?_⟩ | refine ⟨?_, ?_⟩ | fail)
      refine trOps_none rfl (tr_as (as_lawW _ _) (fun w hw => hS.glob _ _ (hgood w hw)) rfl Tryz.func87 rfl rfl rfl rfl rfl rfl ?_)
      refine vs.on ?_
      repeat' (first | exact Bool.noConfusion ‹(!true) = true› | exact Bool.noConfusion ‹(!false) = false› | (intro h; exact h) | (intro h; rw [h]; rfl) | (intro h1 h2; rw [h1, h2]; rfl) | (intro _; assumption) | (intro _; exact rfl) | (intro h; exact Bool.noConfusion (h.symm.trans ‹_ = false›)) | refine ⟨fun _ => ?_, fun _ => ?_⟩ | refine ⟨?_⟩ | refine ⟨?_, ?_⟩ | fail)
      all_goals first | exact rfl | exact trivial | (rw [hpp]; exact rfl)
    · have hpp := parse_bad ((rd_six hL6 (‹(!numOk (fld s 4) || !numOk (fld s 5) || !strEq (fld s 2) ⟨#[45]⟩ || !strEq (fld s 3) ⟨#[45]⟩) = false›)).trans (body_bad0 (‹(!cellsOk (bytesL (fld s 0))) = true›)))
      refine vs.on ?_
      repeat' (first | exact Bool.noConfusion ‹(!true) = true› | exact Bool.noConfusion ‹(!false) = false› | (intro h; exact h) | (intro h; rw [h]; rfl) | (intro h1 h2; rw [h1, h2]; rfl) | (intro _; assumption) | (intro _; exact rfl) | (intro h; exact Bool.noConfusion (h.symm.trans ‹_ = false›)) | refine ⟨fun _ => ?_, fun _ => ?_⟩ | refine ⟨?_⟩ | refine ⟨?_, ?_⟩ | fail)
      refine trOps_none rfl (tr_as (as_lawW _ _) (fun w hw => hS.glob _ _ (hgood w hw)) rfl Tryz.func87 rfl rfl rfl rfl rfl rfl ?_)
      refine vs.on ?_
      repeat' (first | exact Bool.noConfusion ‹(!true) = true› | exact Bool.noConfusion ‹(!false) = false› | (intro h; exact h) | (intro h; rw [h]; rfl) | (intro h1 h2; rw [h1, h2]; rfl) | (intro _; assumption) | (intro _; exact rfl) | (intro h; exact Bool.noConfusion (h.symm.trans ‹_ = false›)) | refine ⟨fun _ => ?_, fun _ => ?_⟩ | refine ⟨?_⟩ | refine ⟨?_, ?_⟩ | fail)
      all_goals first | exact rfl | exact trivial | (rw [hpp]; exact rfl)
    · have hpp := parse_bad ((rd_six hL6 (‹(!numOk (fld s 4) || !numOk (fld s 5) || !strEq (fld s 2) ⟨#[45]⟩ || !strEq (fld s 3) ⟨#[45]⟩) = false›)).trans (body_bad1 (‹(Int.ofNat (fld s 1).size != 1 || !Lib.contains wrb.data.toList (fld s 1).data.toList) = true›)))
      refine vs.on ?_
      repeat' (first | exact Bool.noConfusion ‹(!true) = true› | exact Bool.noConfusion ‹(!false) = false› | (intro h; exact h) | (intro h; rw [h]; rfl) | (intro h1 h2; rw [h1, h2]; rfl) | (intro _; assumption) | (intro _; exact rfl) | (intro h; exact Bool.noConfusion (h.symm.trans ‹_ = false›)) | refine ⟨fun _ => ?_, fun _ => ?_⟩ | refine ⟨?_⟩ | refine ⟨?_, ?_⟩ | fail)
      refine trOps_none rfl (tr_as (as_lawW _ _) (fun w hw => hS.glob _ _ (hgood w hw)) rfl Tryz.func87 rfl rfl rfl rfl rfl rfl ?_)
      refine vs.on ?_
      repeat' (first | exact Bool.noConfusion ‹(!true) = true› | exact Bool.noConfusion ‹(!false) = false› | (intro h; exact h) | (intro h; rw [h]; rfl) | (intro h1 h2; rw [h1, h2]; rfl) | (intro _; assumption) | (intro _; exact rfl) | (intro h; exact Bool.noConfusion (h.symm.trans ‹_ = false›)) | refine ⟨fun _ => ?_, fun _ => ?_⟩ | refine ⟨?_⟩ | refine ⟨?_, ?_⟩ | fail)
      all_goals first | exact rfl | exact trivial | (rw [hpp]; exact rfl)
    · have hpp := parse_chk ((rd_six hL6 (‹(!numOk (fld s 4) || !numOk (fld s 5) || !strEq (fld s 2) ⟨#[45]⟩ || !strEq (fld s 3) ⟨#[45]⟩) = false›)).trans (body_ok (‹(!cellsOk (bytesL (fld s 0))) = false›) (‹(Int.ofNat (fld s 1).size != 1 || !Lib.contains wrb.data.toList (fld s 1).data.toList) = false›))) (‹(rCheck (bytesOf (cellsT (bytesL (fld s 0)))) (sideP (fld s 1)) (atoiV (fld s 4)) (atoiV (fld s 5)) != 0) = true›)
      refine vs.on ?_
      repeat' (first | exact Bool.noConfusion ‹(!true) = true› | exact Bool.noConfusion ‹(!false) = false› | (intro h; exact h) | (intro h; rw [h]; rfl) | (intro h1 h2; rw [h1, h2]; rfl) | (intro _; assumption) | (intro _; exact rfl) | (intro h; exact Bool.noConfusion (h.symm.trans ‹_ = false›)) | refine ⟨fun _ => ?_, fun _ => ?_⟩ | refine ⟨?_⟩ | refine ⟨?_, ?_⟩ | fail)
      refine trOps_none rfl (tr_as (as_lawW _ _) (fun w hw => hS.glob _ _ (hgood w hw)) rfl Tryz.func87 rfl rfl rfl rfl rfl rfl ?_)
      refine vs.on ?_
      repeat' (first | exact Bool.noConfusion ‹(!true) = true› | exact Bool.noConfusion ‹(!false) = false› | (intro h; exact h) | (intro h; rw [h]; rfl) | (intro h1 h2; rw [h1, h2]; rfl) | (intro _; assumption) | (intro _; exact rfl) | (intro h; exact Bool.noConfusion (h.symm.trans ‹_ = false›)) | refine ⟨fun _ => ?_, fun _ => ?_⟩ | refine ⟨?_⟩ | refine ⟨?_, ?_⟩ | fail)
      all_goals first | exact rfl | exact trivial | (rw [hpp]; exact rfl)
    · have hpp := parse_ok ((rd_six hL6 (‹(!numOk (fld s 4) || !numOk (fld s 5) || !strEq (fld s 2) ⟨#[45]⟩ || !strEq (fld s 3) ⟨#[45]⟩) = false›)).trans (body_ok (‹(!cellsOk (bytesL (fld s 0))) = false›) (‹(Int.ofNat (fld s 1).size != 1 || !Lib.contains wrb.data.toList (fld s 1).data.toList) = false›))) (‹(rCheck (bytesOf (cellsT (bytesL (fld s 0)))) (sideP (fld s 1)) (atoiV (fld s 4)) (atoiV (fld s 5)) != 0) = false›)
      refine vs.on ?_
      repeat' (first | exact Bool.noConfusion ‹(!true) = true› | exact Bool.noConfusion ‹(!false) = false› | (intro h; exact h) | (intro h; rw [h]; rfl) | (intro h1 h2; rw [h1, h2]; rfl) | (intro _; assumption) | (intro _; exact rfl) | (intro h; exact Bool.noConfusion (h.symm.trans ‹_ = false›)) | refine ⟨fun _ => ?_, fun _ => ?_⟩ | refine ⟨?_⟩ | refine ⟨?_, ?_⟩ | fail)
      refine trOps_none rfl (tr_asNil as_none rfl Tryz.func87 rfl rfl rfl ?_)
      refine vs.on ?_
      repeat' (first | exact Bool.noConfusion ‹(!true) = true› | exact Bool.noConfusion ‹(!false) = false› | (intro h; exact h) | (intro h; rw [h]; rfl) | (intro h1 h2; rw [h1, h2]; rfl) | (intro _; assumption) | (intro _; exact rfl) | (intro h; exact Bool.noConfusion (h.symm.trans ‹_ = false›)) | refine ⟨fun _ => ?_, fun _ => ?_⟩ | refine ⟨?_⟩ | refine ⟨?_, ?_⟩ | fail)
      all_goals first | exact rfl | exact trivial | (rw [hpp]; exact rfl)
    · have hpp := parse_bad ((rd_two hL2).trans (body_bad0 (‹(!cellsOk (bytesL (fld s 0))) = true›)))
      refine vs.on ?_
      repeat' (first | exact Bool.noConfusion ‹(!true) = true› | exact Bool.noConfusion ‹(!false) = false› | (intro h; exact h) | (intro h; rw [h]; rfl) | (intro h1 h2; rw [h1, h2]; rfl) | (intro _; assumption) | (intro _; exact rfl) | (intro h; exact Bool.noConfusion (h.symm.trans ‹_ = false›)) | refine ⟨fun _ => ?_, fun _ => ?_⟩ | refine ⟨?_⟩ | refine ⟨?_, ?_⟩ | fail)
      refine trOps_none rfl (tr_as (as_lawW _ _) (fun w hw => hS.glob _ _ (hgood w hw)) rfl Tryz.func87 rfl rfl rfl rfl rfl rfl ?_)
      refine vs.on ?_
      repeat' (first | exact Bool.noConfusion ‹(!true) = true› | exact Bool.noConfusion ‹(!false) = false› | (intro h; exact h) | (intro h; rw [h]; rfl) | (intro h1 h2; rw [h1, h2]; rfl) | (intro _; assumption) | (intro _; exact rfl) | (intro h; exact Bool.noConfusion (h.symm.trans ‹_ = false›)) | refine ⟨fun _ => ?_, fun _ => ?_⟩ | refine ⟨?_⟩ | refine ⟨?_, ?_⟩ | fail)
      all_goals first | exact rfl | exact trivial | (rw [hpp]; exact rfl)
    · have hpp := parse_bad ((rd_two hL2).trans (body_bad1 (‹(Int.ofNat (fld s 1).size != 1 || !Lib.contains wrb.data.toList (fld s 1).data.toList) = true›)))
      refine vs.on ?_
      repeat' (first | exact Bool.noConfusion ‹(!true) = true› | exact Bool.noConfusion ‹(!false) = false› | (intro h; exact h) | (intro h; rw [h]; rfl) | (intro h1 h2; rw [h1, h2]; rfl) | (intro _; assumption) | (intro _; exact rfl) | (intro h; exact Bool.noConfusion (h.symm.trans ‹_ = false›)) | refine ⟨fun _ => ?_, fun _ => ?_⟩ | refine ⟨?_⟩ | refine ⟨?_, ?_⟩ | fail)
      refine trOps_none rfl (tr_as (as_lawW _ _) (fun w hw => hS.glob _ _ (hgood w hw)) rfl Tryz.func87 rfl rfl rfl rfl rfl rfl ?_)
      refine vs.on ?_
      repeat' (first | exact Bool.noConfusion ‹(!true) = true› | exact Bool.noConfusion ‹(!false) = false› | (intro h; exact h) | (intro h; rw [h]; rfl) | (intro h1 h2; rw [h1, h2]; rfl) | (intro _; assumption) | (intro _; exact rfl) | (intro h; exact Bool.noConfusion (h.symm.trans ‹_ = false›)) | refine ⟨fun _ => ?_, fun _ => ?_⟩ | refine ⟨?_⟩ | refine ⟨?_, ?_⟩ | fail)
      all_goals first | exact rfl | exact trivial | (rw [hpp]; exact rfl)
    · have hpp := parse_chk ((rd_two hL2).trans (body_ok (‹(!cellsOk (bytesL (fld s 0))) = false›) (‹(Int.ofNat (fld s 1).size != 1 || !Lib.contains wrb.data.toList (fld s 1).data.toList) = false›))) (‹(rCheck (bytesOf (cellsT (bytesL (fld s 0)))) (sideP (fld s 1)) 0 1 != 0) = true›)
      refine vs.on ?_
      repeat' (first | exact Bool.noConfusion ‹(!true) = true› | exact Bool.noConfusion ‹(!false) = false› | (intro h; exact h) | (intro h; rw [h]; rfl) | (intro h1 h2; rw [h1, h2]; rfl) | (intro _; assumption) | (intro _; exact rfl) | (intro h; exact Bool.noConfusion (h.symm.trans ‹_ = false›)) | refine ⟨fun _ => ?_, fun _ => ?_⟩ | refine ⟨?_⟩ | refine ⟨?_, ?_⟩ | fail)
      refine trOps_none rfl (tr_as (as_lawW _ _) (fun w hw => hS.glob _ _ (hgood w hw)) rfl Tryz.func87 rfl rfl rfl rfl rfl rfl ?_)
      refine vs.on ?_
      repeat' (first | exact Bool.noConfusion ‹(!true) = true› | exact Bool.noConfusion ‹(!false) = false› | (intro h; exact h) | (intro h; rw [h]; rfl) | (intro h1 h2; rw [h1, h2]; rfl) | (intro _; assumption) | (intro _; exact rfl) | (intro h; exact Bool.noConfusion (h.symm.trans ‹_ = false›)) | refine ⟨fun _ => ?_, fun _ => ?_⟩ | refine ⟨?_⟩ | refine ⟨?_, ?_⟩ | fail)
      all_goals first | exact rfl | exact trivial | (rw [hpp]; exact rfl)
    · have hpp := parse_ok ((rd_two hL2).trans (body_ok (‹(!cellsOk (bytesL (fld s 0))) = false›) (‹(Int.ofNat (fld s 1).size != 1 || !Lib.contains wrb.data.toList (fld s 1).data.toList) = false›))) (‹(rCheck (bytesOf (cellsT (bytesL (fld s 0)))) (sideP (fld s 1)) 0 1 != 0) = false›)
      refine vs.on ?_
      repeat' (first | exact Bool.noConfusion ‹(!true) = true› | exact Bool.noConfusion ‹(!false) = false› | (intro h; exact h) | (intro h; rw [h]; rfl) | (intro h1 h2; rw [h1, h2]; rfl) | (intro _; assumption) | (intro _; exact rfl) | (intro h; exact Bool.noConfusion (h.symm.trans ‹_ = false›)) | refine ⟨fun _ => ?_, fun _ => ?_⟩ | refine ⟨?_⟩ | refine ⟨?_, ?_⟩ | fail)
      refine trOps_none rfl (tr_asNil as_none rfl Tryz.func87 rfl rfl rfl ?_)
      refine vs.on ?_
      repeat' (first | exact Bool.noConfusion ‹(!true) = true› | exact Bool.noConfusion ‹(!false) = false› | (intro h; exact h) | (intro h; rw [h]; rfl) | (intro h1 h2; rw [h1, h2]; rfl) | (intro _; assumption) | (intro _; exact rfl) | (intro h; exact Bool.noConfusion (h.symm.trans ‹_ = false›)) | refine ⟨fun _ => ?_, fun _ => ?_⟩ | refine ⟨?_⟩ | refine ⟨?_, ?_⟩ | fail)
      all_goals first | exact rfl | exact trivial | (rw [hpp]; exact rfl)
    · have hpp := parse_bad (rd_no (len_not6 (‹(Int.ofNat (pieces 32 s).length == 6) = false›)) (len_not2 (‹(Int.ofNat (pieces 32 s).length == 2) = false›)))
      refine vs.on ?_
      repeat' (first | exact Bool.noConfusion ‹(!true) = true› | exact Bool.noConfusion ‹(!false) = false› | (intro h; exact h) | (intro h; rw [h]; rfl) | (intro h1 h2; rw [h1, h2]; rfl) | (intro _; assumption) | (intro _; exact rfl) | (intro h; exact Bool.noConfusion (h.symm.trans ‹_ = false›)) | refine ⟨fun _ => ?_, fun _ => ?_⟩ | refine ⟨?_⟩ | refine ⟨?_, ?_⟩ | fail)
      refine trOps_none rfl (tr_as (as_lawR _) (fun w hw => hS.glob _ _ (hgood w hw)) rfl Tryz.func87 rfl rfl rfl rfl rfl rfl ?_)
      refine vs.on ?_
      repeat' (first | exact Bool.noConfusion ‹(!true) = true› | exact Bool.noConfusion ‹(!false) = false› | (intro h; exact h) | (intro h; rw [h]; rfl) | (intro h1 h2; rw [h1, h2]; rfl) | (intro _; assumption) | (intro _; exact rfl) | (intro h; exact Bool.noConfusion (h.symm.trans ‹_ = false›)) | refine ⟨fun _ => ?_, fun _ => ?_⟩ | refine ⟨?_⟩ | refine ⟨?_, ?_⟩ | fail)
      all_goals first | exact rfl | exact trivial | (rw [hpp]; exact rfl)
  · cases hcr
end
end Go.X

namespace Go.X
open Go Go.Proofs Go.RowKit

structure SW (l : List ByteArray) : Prop where
  len : l.length ≤ 1000000
  sz : ∀ n, (joinS ((l.drop 1).take (n - 1)) ⟨#[32]⟩).size ≤ 1000000
  v : True
def aggC (c : Cmd) : RT := .agg [.a (.i .i64 c.1), .a (.s c.2.1.1), .a (.i .i64 c.2.1.2.1), .a (.i .i64 c.2.1.2.2.1), .a (.i .i64 c.2.1.2.2.2), .row ⟨66, .pair (.int .i64) (.int .i64), c.2.2.1, true⟩, .a (.i .i64 c.2.2.2)]
def cStart : Con
  | [] => some ⟨[], aggP startC, [], []⟩
  | _ => none
noncomputable def cPlaceV : Con
  | [.row _ ⟨9, .str, l, _⟩] => some ⟨[LB l], .a (.i .i64 (veil (placeN l))), [], []⟩
  | _ => none
noncomputable def cMovesV : Con
  | [.view _ lo hi _ ⟨9, .str, l, _⟩] => some ⟨[LB (cutL lo hi l)], .tup [.row ⟨66, .pair (.int .i64) (.int .i64), (veil (mvL (cutL lo hi l))).1, true⟩, .a (.i .i64 (veil (mvL (cutL lo hi l))).2)], [], []⟩
  | _ => none
noncomputable def cParseV : Con
  | [.a (.s s)] => some ⟨[TZ4 s], .tup [aggP (veil (parseP s)).1, .a (.i .i64 (veil (parseP s)).2)], [], []⟩
  | _ => none
def cSet : Con
  | [.view _ lo hi _ ⟨9, .str, l, _⟩] => some ⟨[SW (cutL lo hi l)], .tup [aggC (setC (cutL lo hi l)).1, .a (.i .i64 (setC (cutL lo hi l)).2)], [], []⟩
  | _ => none
theorem placeV : cPlaceV = cPlace := by
  funext l; unfold cPlaceV cPlace; split <;> simp only [veil_eq]
theorem movesV : cMovesV = cMoves := by
  funext l; unfold cMovesV cMoves; split <;> simp only [veil_eq]
theorem parseV : cParseV = cParse4 := by
  funext l; unfold cParseV cParse4; split <;> simp only [veil_eq]
section
variable {G : Nat → World → Prop}
theorem okPlaceV (hS : Hyp G) : ConOK Tryz.prog G 52 cPlaceV := by rw [placeV]; exact okPlace hS
theorem okMovesV (hS : Hyp G) : ConOK Tryz.prog G 28 cMovesV := by rw [movesV]; exact okMoves hS
theorem okParseV (hS : Hyp G) : ConOK Tryz.prog G 53 cParseV := by rw [parseV]; exact okParse4 hS
theorem okJoinV (_ : Hyp G) : ConOK Tryz.prog G 22 cJoinV := con_joinV Tryz.func22 rfl rfl (fun bk o c xs sep w h1 h2 h3 h4 h5 => Tryz.strings_Join bk o c xs sep w h1 h2 h3 h4 h5) (fun p cap sep w => Tryz.strings_Join_none p cap sep w)
set_option maxHeartbeats 4000000 in
set_option maxRecDepth 20000 in
theorem okStart (hS : Hyp G) : ConOK Tryz.prog G 20 cStart := by
  refine seat_con hS.seat [] [] trivial Tryz.func20 rfl rfl rfl ?_
  intro rvs cr hcr hpre
  unfold cStart at hcr
  split at hcr
  · cases hcr
    refine ⟨⟨rfl, rfl, rfl⟩, fun c hc vs => ?_⟩
    repeat' (first | exact Bool.noConfusion ‹(!true) = true› | exact Bool.noConfusion ‹(!false) = false› | (intro h; exact h) | (intro h; rw [h]; rfl) | (intro h1 h2; rw [h1, h2]; rfl) | (intro _; assumption) | (intro _; exact rfl) | (intro h; exact Bool.noConfusion (h.symm.trans ‹_ = false›)) | refine ⟨fun _ => ?_, fun _ => ?_⟩ | refine ⟨?_⟩ | refine ⟨?_, ?_⟩ | fail)
    all_goals first | exact trivial | exact rfl | skip
  · cases hcr
set_option maxHeartbeats 4000000 in
set_option maxRecDepth 20000 in
theorem okSet (hS : Hyp G) : ConOK Tryz.prog G 29 cSet := by
  refine seat_con hS.seat [(20, cStart), (52, cPlaceV), (22, cJoinV), (53, cParseV), (28, cMovesV)] [] ⟨okStart hS, okPlaceV hS, okJoinV hS, okParseV hS, okMovesV hS, trivial⟩ Tryz.func29 rfl rfl rfl ?_
  intro rvs cr hcr hpre
  unfold cSet at hcr
  split at hcr
  · rename_i id lo hi ex l0 ow
    cases hcr
    simp only [List.mem_cons, List.not_mem_nil, or_false, forall_eq_or_imp, forall_eq] at hpre
    refine ⟨⟨rfl, rfl, rfl⟩, fun c hc vs => ?_⟩
    simp only [normL, impL, imp] at hpre ⊢
    generalize cutL lo hi l0 = l at hpre ⊢
    have hl := hpre.len
    obtain ⟨S, hS'⟩ : ∃ x, setC l = x := ⟨_, rfl⟩
    rw [hS']
    obtain ⟨n, hn⟩ : ∃ x, placeN l = x := ⟨_, rfl⟩
    obtain ⟨hn1, hn2⟩ : n ≤ l.length ∧ (n = 0 ∨ n = 1 ∨ n = 3 ∨ n = 7) := hn ▸ place_le l
    have hw : IntKind.i64.wrap ((n : Int) + 1) = ((n + 1 : Nat) : Int) := wrapN (by omega)
    have hz : (joinS (cutL 1 n l) ⟨#[32]⟩).size ≤ 1000000 := hpre.sz n
    obtain ⟨J, hJ⟩ : ∃ x, joinS (cutL 1 n l) ⟨#[32]⟩ = x := ⟨_, rfl⟩
    obtain ⟨p, hp⟩ : ∃ x, parseP J = x := ⟨_, rfl⟩
    obtain ⟨m, hm⟩ : ∃ x, mvL (l.drop (n + 1)) = x := ⟨_, rfl⟩
    have hpos : n = 3 ∨ n = 7 → posE l n = p := fun h => by
      unfold posE
      rw [if_neg (by omega), ← hp, ← hJ]; rfl
    have hpos1 : n = 1 → posE l n = (startC, 0) := fun h => by
      unfold posE
      rw [if_pos h]
    have h3 : ((n : Int) == 3) = true → n = 3 := fun h => by have := beqT h; omega
    have h7 : ((n : Int) == 7) = true → n = 7 := fun h => by have := beqT h; omega
    have h0 : ((n : Int) == 0) = false → n ≠ 0 := fun h => by have := beqF h; omega
    have hA : ((n : Int) == 0) = true → S = (cmd0, 9) := fun h => hS'.symm.trans (setC_0 (by rw [hn]; have := beqT h; omega))
    have hB := fun (a : ((n : Int) == 0) = false) (b : n = 3 ∨ n = 7) => setC_of hn (h0 a) (hpos b) hm hS'
    have hC := fun (a : ((n : Int) == 0) = false) (b : n = 1) => setC_of hn (h0 a) (hpos1 b) hm hS'
    have hlj : LJ (cutL 1 n l) ⟨#[32]⟩ := ⟨by unfold cutL; rw [List.length_take, List.length_drop]; omega, Nat.le_trans hz (by decide), trivial⟩
    have hlt : ∀ b, (b && decide ((l.length : Int) > (n : Int))) = true → n + 1 ≤ l.length := fun b h => by
      have := of_decide_eq_true (Bool.and_eq_true _ _ ▸ h).2
      omega
    clear hpos hpos1 h0
    repeat' (first | exact Bool.noConfusion ‹(!true) = true› | exact Bool.noConfusion ‹(!false) = false› | (intro h; exact h) | (intro h; rw [h]; rfl) | (intro h1 h2; rw [h1, h2]; rfl) | (intro _; assumption) | (intro _; exact rfl) | (intro h; exact Bool.noConfusion (h.symm.trans ‹_ = false›)) | refine ⟨fun _ => ?_, fun _ => ?_⟩ | refine ⟨?_⟩ | refine ⟨?_, ?_⟩ | fail)
    all_goals try simp only [veil_eq, hn, hw, Int.toNat_natCast, cut_all, show Int.toNat 1 = 1 from rfl, hJ, hp, hm] at *
    all_goals first | exact trivial | exact rfl | exact hl | exact Nat.le_trans hl (by decide) | skip
    all_goals first
      | exact hlj
      | exact ⟨Nat.le_trans hz (by decide), trivial, trivial⟩
      | (have e := hA ‹_›
         subst e
         first | exact rfl | exact chk_i rfl | exact chk_s rfl)
      | exact Bool.noConfusion ((‹((n : Int) == 3) = true›).symm.trans ‹((n : Int) == 3) = false›)
      | exact Bool.noConfusion ((‹((n : Int) == 7) = true›).symm.trans ‹((n : Int) == 7) = false›)
      | exact Int.ofNat_le.2 (hlt _ ‹_›)
      | (show _ ≤ _; rw [List.length_drop]; omega)
      | (have hk : n = 3 ∨ n = 7 := by first | exact .inl (h3 ‹_›) | exact .inr (h7 ‹_›)
         first
         | omega
         | exact ⟨by omega, by omega⟩
         | (have k := hB ‹_› hk
            obtain ⟨k1, k2, k3, k4⟩ := k
            first | (have e := k1 ‹_› ‹_›; subst e) | (have e := k2 ‹_› ‹_›; subst e) | (have e := k3 ‹_› ‹_›; subst e) | (have e := k4 ‹_› ‹_›; subst e)
            first | exact rfl | exact chk_i rfl | exact chk_s rfl))
      | (have hk : n = 1 := by
           have a1 := beqF ‹((n : Int) == 0) = false›
           have a3 := beqF ‹((n : Int) == 3) = false›
           have a7 := beqF ‹((n : Int) == 7) = false›
           omega
         first
         | omega
         | exact ⟨by omega, by omega⟩
         | (have k := hC ‹_› hk
            obtain ⟨k1, k2, k3, k4⟩ := k
            first | (have e := k1 ‹_› ‹_›; subst e) | (have e := k2 ‹_› ‹_›; subst e) | (have e := k3 ‹_› ‹_›; subst e) | (have e := k4 ‹_› ‹_›; subst e)
            first | exact rfl | exact chk_i rfl | exact chk_s rfl))
      | skip
  · cases hcr
end
end Go.X

namespace Go.X
open Go Go.Proofs Go.RowKit

structure PZC (s : ByteArray) (b : Bool) : Prop where
  sz : s.size ≤ 1000000
  ok : atoiOk (wd (wB s) 2) = b
  v : True
noncomputable def cWordsV : Con
  | [.a (.s s)] => some ⟨[WZ s], .row ⟨9, .str, veil (wB s), true⟩, [], []⟩
  | _ => none
noncomputable def cCAnyV : Con
  | [.a (.s s), .a (.s t)] => some ⟨[CNL s t], .a (.b (veil (nlB s))), [], []⟩
  | _ => none
noncomputable def cSetV : Con
  | [.view _ lo hi _ ⟨9, .str, l, _⟩] => some ⟨[SW (cutL lo hi l)], .tup [aggC (veil (setC (cutL lo hi l))).1, .a (.i .i64 (veil (setC (cutL lo hi l))).2)], [], []⟩
  | _ => none
noncomputable def cAtoiOkV : Con
  | [.a (.s s)] => some ⟨[ATO s true], .a (.tup [.i .i64 (veil (atoiV s)), .nili]), [], []⟩
  | _ => none
noncomputable def cAtoiBadV : Con
  | [.a (.s s)] => some ⟨[ATO s false], .a (.tup [.i .i64 (veil (atoiV s)), .ifc 113 .any]), [], []⟩
  | _ => none
noncomputable def cItoaV : Con
  | [.a (.i .i64 n)] => some ⟨[I64 n], .a (.s (veil (itoaB n))), [], []⟩
  | _ => none
theorem wordsV : cWordsV = cWords := by
  funext l; unfold cWordsV cWords; split <;> simp only [veil_eq]
theorem canyV : cCAnyV = cCAny := by
  funext l; unfold cCAnyV cCAny; split <;> simp only [veil_eq]
theorem setV : cSetV = cSet := by
  funext l; unfold cSetV cSet; split <;> simp only [veil_eq]
theorem atoiOkV : cAtoiOkV = cAtoiOk := by
  funext l; unfold cAtoiOkV cAtoiOk; split <;> simp only [veil_eq]
theorem atoiBadV : cAtoiBadV = cAtoiBad := by
  funext l; unfold cAtoiBadV cAtoiBad; split <;> simp only [veil_eq]
theorem itoaV : cItoaV = cItoaS := by
  funext l; unfold cItoaV cItoaS; split <;> simp only [veil_eq]
def cParseB (b : Bool) : Con
  | [.a (.s s)] => some ⟨[PZC s b], .tup [aggC (parseC s).1, .a (.i .i64 (parseC s).2)], [], []⟩
  | _ => none
section
variable {G : Nat → World → Prop}
theorem okWordsV (hS : Hyp G) : ConOK Tryz.prog G 15 cWordsV := by rw [wordsV]; exact okWords hS
theorem okCAnyV (hS : Hyp G) : ConOK Tryz.prog G 26 cCAnyV := by rw [canyV]; exact okCAny hS
theorem okSetV (hS : Hyp G) : ConOK Tryz.prog G 29 cSetV := by rw [setV]; exact okSet hS
theorem okAtoiOkV (hS : Hyp G) : ConOK Tryz.prog G 27 cAtoiOkV := by rw [atoiOkV]; exact okAtoiOk hS
theorem okAtoiBadV (hS : Hyp G) : ConOK Tryz.prog G 27 cAtoiBadV := by rw [atoiBadV]; exact okAtoiBad hS
theorem okItoaV (hS : Hyp G) : ConOK Tryz.prog G 18 cItoaV := by rw [itoaV]; exact okItoaS hS
end
end Go.X

namespace Go.X
open Go Go.Proofs Go.RowKit
abbrev cParseG : Con := cParseB true
section
variable {G : Nat → World → Prop}
set_option maxHeartbeats 4000000 in
set_option maxRecDepth 20000 in
theorem okParseG (hS : Hyp G) : ConOK Tryz.prog G 12 cParseG := by
  refine seat_conT hS.seat [(15, cWordsV), (26, cCAnyV), (27, cAtoiOkV), (18, cItoaV), (28, cMovesV), (29, cSetV)] [] ⟨okWordsV hS, okCAnyV hS, okAtoiOkV hS, okItoaV hS, okMovesV hS, okSetV hS, trivial⟩ Tryz.func12 rfl rfl ?_
  intro rvs cr hcr hpre
  unfold cParseG at hcr
  unfold cParseB at hcr
  split at hcr
  · rename_i s
    cases hcr
    simp only [List.mem_cons, List.not_mem_nil, or_false, forall_eq_or_imp, forall_eq] at hpre
    refine ⟨⟨rfl, rfl, rfl⟩, fun c hc vs => ?_⟩
    have hz := hpre.sz
    obtain ⟨S, hS'⟩ : ∃ x, parseC s = x := ⟨_, rfl⟩
    obtain ⟨L, hL⟩ : ∃ x, wB s = x := ⟨_, rfl⟩
    obtain ⟨nl, hnl⟩ : ∃ x, nlB s = x := ⟨_, rfl⟩
    obtain ⟨m, hm⟩ : ∃ x, mvL (L.drop 1) = x := ⟨_, rfl⟩
    obtain ⟨q, hq⟩ : ∃ x, setC (L.drop 1) = x := ⟨_, rfl⟩
    obtain ⟨v, hv⟩ : ∃ x, atoiV (wd L 2) = x := ⟨_, rfl⟩
    obtain ⟨t, ht⟩ : ∃ x, itoaB v = x := ⟨_, rfl⟩
    rw [hS']
    have hok : atoiOk (wd L 2) = true := hL ▸ hpre.ok
    have hLn : L.length ≤ 1000001 := by have := words_count s; rw [hL] at this; omega
    have hsw : SW (L.drop 1) := ⟨by rw [List.length_drop]; omega, fun n => by have := joined_small (s := s) 1 1 (n - 1); rw [hL] at this; omega, trivial⟩
    have hlb : LB (L.drop 1) := by show _ ≤ _; rw [List.length_drop]; omega
    have hbd := atoiV_bounds (wd L 2)
    rw [hv] at hbd
    have hR : ReadC L nl (plainK (wd L 0)) m q S := readC_of rfl hm hq (by rw [← hL, ← hnl]; exact hS')
    have hv2 : atoiV (L.getD 2 EK.str.dflt) = v := hv
    have hR3 : ((L.length : Int) == 0 || nl) = false → ((plainK (wd L 0) != 0) && ((L.length : Int) == 1)) = false → strEq (wd L 0) tGo = true → (((L.length : Int) != 3 || !strEq (wd L 1) tDepth) || decide (((wd L 2).size : Int) > 2)) = false → goOk (wd L 2) = true → S = ((5, pos0, [], v), 0) := fun a b c d e => hv ▸ hR.g3 a b c d e
    have hg : goOk (wd L 2) = (((true && decide (v ≥ 1)) && decide (v ≤ 64)) && strEq t (wd L 2)) := by unfold goOk; rw [hok, hv, ht]
    have hG1 : (((true && decide (v ≥ 1)) && decide (v ≤ 64)) && strEq t (wd L 2)) = true → goOk (wd L 2) = true := fun h => hg.trans h
    have hG0 : (((true && decide (v ≥ 1)) && decide (v ≤ 64)) && strEq t (wd L 2)) = false → goOk (wd L 2) = false := fun h => hg.trans h
    have h3 : (((L.length : Int) != 3 || !strEq (wd L 1) tDepth) || decide (((wd L 2).size : Int) > 2)) = false → L.length = 3 ∧ (wd L 2).size ≤ 2 := fun h => ⟨(goC_3 h).1, (goC_3 h).2.2⟩
    have h3a : (!((L.length : Int) != 3)) = true → L.length = 3 := fun h => by have := bneF ((Bool.not_eq_true' _).mp h); omega
    have h3b : ∀ b, (!((L.length : Int) != 3 || b)) = true → L.length = 3 := fun b h => by
      have := (Bool.not_eq_true' _).mp h
      rw [Bool.or_eq_false_iff] at this
      have := bneF this.1
      omega
    have h1 : ((L.length : Int) == 0 || nl) = false → 0 < L.length := fun h => Nat.pos_of_ne_zero fun h2 => cC_2 h (.inl h2)
    clear hg hS'
    refine tr_ghost plainEs 5 rfl ?_
    have vs := vs.kin (ghCtx_kin c plainEs 5)
    refine Tr_seq (vs.go rfl ?_)
    repeat' (first | exact Bool.noConfusion ‹(!true) = true› | exact Bool.noConfusion ‹(!false) = false› | (intro h; exact h) | (intro h; rw [h]; rfl) | (intro h1 h2; rw [h1, h2]; rfl) | (intro _; assumption) | (intro _; exact rfl) | (intro h; exact Bool.noConfusion (h.symm.trans ‹_ = false›)) | refine ⟨fun _ => ?_, fun _ => ?_⟩ | refine ⟨?_⟩ | refine ⟨?_, ?_⟩ | fail)
    refine Tr_seq (vs.go rfl ?_)
    repeat' (first | exact Bool.noConfusion ‹(!true) = true› | exact Bool.noConfusion ‹(!false) = false› | (intro h; exact h) | (intro h; rw [h]; rfl) | (intro h1 h2; rw [h1, h2]; rfl) | (intro _; assumption) | (intro _; exact rfl) | (intro h; exact Bool.noConfusion (h.symm.trans ‹_ = false›)) | refine ⟨fun _ => ?_, fun _ => ?_⟩ | refine ⟨?_⟩ | refine ⟨?_, ?_⟩ | fail)
    · exact ⟨by omega, trivial, trivial⟩
    refine Tr_seq (vs.go rfl ?_)
    repeat' (first | exact Bool.noConfusion ‹(!true) = true› | exact Bool.noConfusion ‹(!false) = false› | (intro h; exact h) | (intro h; rw [h]; rfl) | (intro h1 h2; rw [h1, h2]; rfl) | (intro _; assumption) | (intro _; exact rfl) | (intro h; exact Bool.noConfusion (h.symm.trans ‹_ = false›)) | refine ⟨fun _ => ?_, fun _ => ?_⟩ | refine ⟨?_⟩ | refine ⟨?_, ?_⟩ | fail)
    · exact fun _ => ⟨by omega, rfl, trivial⟩
    rotate_right
    have hlen : 0 < (veil (wB s)).length := by
      have h := ‹(((veil (wB s)).length : Int) == 0 || veil (nlB s)) = false›
      rw [veil_eq, veil_eq, hL, hnl] at h
      rw [veil_eq, hL]; exact h1 h
    refine Tr_seq (Tr_seq ?_)
    refine trAny_region hS.seat.mixed ?_
    refine trAny_key (fun b => [(22, .mp b), (23, .row 0), (24, .elt 0 0 0), (25, .s (wd (veil (wB s)) 0)), (26, .tup [.i .i64 (plainK (wd (veil (wB s)) 0)), .b ((plainK (wd (veil (wB s)) 0)) != 0)]), (21, .tup [.i .i64 (plainK (wd (veil (wB s)) 0)), .b ((plainK (wd (veil (wB s)) 0)) != 0)]), (27, .i .i64 (plainK (wd (veil (wB s)) 0))), (28, .b ((plainK (wd (veil (wB s)) 0)) != 0)), (5, .i .i64 (plainK (wd (veil (wB s)) 0))), (6, .b ((plainK (wd (veil (wB s)) 0)) != 0))]) ?_ (fun key => ?_)
    rotate_left
    · skip
      repeat' first
        | exact hlen
        | exact Int.le_refl _
        | exact Int.ofNat_lt.2 hlen
        | (refine Lf.mk ?_)
        | (refine tr_gmap plain_law rfl rfl Tryz.func21 rfl rfl (fun b => ?_))
        | (refine tr_glook (plain_look _) rfl rfl rfl ?_)
        | (refine trAny_2 0 1 (by decide +kernel) rfl rfl rfl rfl ?_ ?_)
        | (refine trAny_2 0 2 (by decide +kernel) rfl rfl rfl rfl ?_ ?_)
        | (refine trAny_2 0 3 (by decide +kernel) rfl rfl rfl rfl ?_ ?_)
        | (refine trAny_2 6 7 (by decide +kernel) rfl rfl rfl rfl ?_ ?_)
        | (refine trAny_2 7 8 (by decide +kernel) rfl rfl rfl rfl ?_ ?_)
        | (refine trAny_1 0 (by decide +kernel) rfl rfl ?_)
        | (refine trAny_1 1 (by decide +kernel) rfl rfl ?_)
        | (refine trAny_1 2 (by decide +kernel) rfl rfl ?_)
        | (refine trAny_1 3 (by decide +kernel) rfl rfl ?_)
        | (refine trAny_1 4 (by decide +kernel) rfl rfl ?_)
        | (refine trAny_1 5 (by decide +kernel) rfl rfl ?_)
        | (refine trAny_1 6 (by decide +kernel) rfl rfl ?_)
        | (refine trAny_1 7 (by decide +kernel) rfl rfl ?_)
        | (refine trAny_1 8 (by decide +kernel) rfl rfl ?_)
        | (refine trAny_1 9 (by decide +kernel) rfl rfl ?_)
        | (refine trAny_end (by decide +kernel) (key _))
        | (refine one_pure hS.seat.tt #[] rfl ?_; refine ⟨⟨?_, ?_⟩, Lf.mk ?_⟩)
        | (refine one_pure hS.seat.tt #[] rfl ?_; refine Lf.mk ?_)
      all_goals done
    rotate_right
    intro b
    refine Lf.mk ?_
    clear hlen
    refine vs.go rfl ?_
    repeat' (first | exact Bool.noConfusion ‹(!true) = true› | exact Bool.noConfusion ‹(!false) = false› | (intro h; exact h) | (intro h; rw [h]; rfl) | (intro h1 h2; rw [h1, h2]; rfl) | (intro _; assumption) | (intro _; exact rfl) | (intro h; exact Bool.noConfusion (h.symm.trans ‹_ = false›)) | refine ⟨fun _ => ?_, fun _ => ?_⟩ | refine ⟨?_⟩ | refine ⟨?_, ?_⟩ | fail)
    any_goals (refine vs.go rfl ?_)
    repeat' (first | exact Bool.noConfusion ‹(!true) = true› | exact Bool.noConfusion ‹(!false) = false› | (intro h; exact h) | (intro h; rw [h]; rfl) | (intro h1 h2; rw [h1, h2]; rfl) | (intro _; assumption) | (intro _; exact rfl) | (intro h; exact Bool.noConfusion (h.symm.trans ‹_ = false›)) | refine ⟨fun _ => ?_, fun _ => ?_⟩ | refine ⟨?_⟩ | refine ⟨?_, ?_⟩ | fail)
    all_goals (try dsimp only at *)
    all_goals (try simp only [veil_eq, hL, hnl, show Int.toNat 1 = 1 from rfl, show Int.toNat 2 = 2 from rfl, show Int.toNat 0 = 0 from rfl, cut_all, hm, hq, hv, hv2, ht] at *)
    all_goals first
      | exact trivial
      | exact rfl
      | exact hsw
      | exact hlb
      | exact Int.ofNat_lt.2 (h1 ‹_›)
      | (have := h1 ‹_›; show (1 : Int) ≤ (L.length : Int); omega)
      | (intro h; have := h3a h; exact ⟨by decide, by omega⟩)
      | (intro h; have := h3b _ h; exact ⟨by decide, by omega⟩)
      | (have := (h3 ‹_›).1; show (2 : Int) < (L.length : Int); omega)
      | (have := (h3 ‹_›).2; exact ⟨by show (wd L 2).size ≤ _; omega, hok, trivial⟩)
      | (intro _; exact ⟨hbd.1, hbd.2, trivial⟩)
      | (intro _; have := (h3 ‹_›).1; exact ⟨by decide, by omega⟩)
      | (first
          | (have e := hR.a ‹_›; subst e)
          | (have e := hR.b ‹_› ‹_›; subst e)
          | (have e := hR.g1 ‹_› ‹_› ‹_› ‹_›; subst e)
          | (have e := hR3 ‹_› ‹_› ‹_› ‹_› (hG1 ‹_›); subst e)
          | (have e := hR.g2 ‹_› ‹_› ‹_› (hG0 ‹_›); subst e)
          | (have e := hR.n1 ‹_› ‹_› ‹_› ‹_› ‹_›; subst e)
          | (have e := hR.n2 ‹_› ‹_› ‹_› ‹_› ‹_›; subst e)
          | (have e := hR.p ‹_› ‹_› ‹_› ‹_› ‹_›; subst e)
          | (have e := hR.z ‹_› ‹_› ‹_› ‹_› ‹_›; subst e)
         first | exact rfl | exact chk_i rfl | exact chk_s rfl)
      | skip
  · cases hcr
end
end Go.X

namespace Go.X
open Go Go.Proofs Go.RowKit
abbrev cParseH : Con := cParseB false
section
variable {G : Nat → World → Prop}
set_option maxHeartbeats 4000000 in
set_option maxRecDepth 20000 in
theorem okParseH (hS : Hyp G) : ConOK Tryz.prog G 12 cParseH := by
  refine seat_conT hS.seat [(15, cWordsV), (26, cCAnyV), (27, cAtoiBadV), (18, cItoaV), (28, cMovesV), (29, cSetV)] [] ⟨okWordsV hS, okCAnyV hS, okAtoiBadV hS, okItoaV hS, okMovesV hS, okSetV hS, trivial⟩ Tryz.func12 rfl rfl ?_
  intro rvs cr hcr hpre
  unfold cParseH at hcr
  unfold cParseB at hcr
  split at hcr
  · rename_i s
    cases hcr
    simp only [List.mem_cons, List.not_mem_nil, or_false, forall_eq_or_imp, forall_eq] at hpre
    refine ⟨⟨rfl, rfl, rfl⟩, fun c hc vs => ?_⟩
    have hz := hpre.sz
    obtain ⟨S, hS'⟩ : ∃ x, parseC s = x := ⟨_, rfl⟩
    obtain ⟨L, hL⟩ : ∃ x, wB s = x := ⟨_, rfl⟩
    obtain ⟨nl, hnl⟩ : ∃ x, nlB s = x := ⟨_, rfl⟩
    obtain ⟨m, hm⟩ : ∃ x, mvL (L.drop 1) = x := ⟨_, rfl⟩
    obtain ⟨q, hq⟩ : ∃ x, setC (L.drop 1) = x := ⟨_, rfl⟩
    obtain ⟨v, hv⟩ : ∃ x, atoiV (wd L 2) = x := ⟨_, rfl⟩
    obtain ⟨t, ht⟩ : ∃ x, itoaB v = x := ⟨_, rfl⟩
    rw [hS']
    have hok : atoiOk (wd L 2) = false := hL ▸ hpre.ok
    have hLn : L.length ≤ 1000001 := by have := words_count s; rw [hL] at this; omega
    have hsw : SW (L.drop 1) := ⟨by rw [List.length_drop]; omega, fun n => by have := joined_small (s := s) 1 1 (n - 1); rw [hL] at this; omega, trivial⟩
    have hlb : LB (L.drop 1) := by show _ ≤ _; rw [List.length_drop]; omega
    have hbd := atoiV_bounds (wd L 2)
    rw [hv] at hbd
    have hR : ReadC L nl (plainK (wd L 0)) m q S := readC_of rfl hm hq (by rw [← hL, ← hnl]; exact hS')
    have hv2 : atoiV (L.getD 2 EK.str.dflt) = v := hv
    have hR3 : ((L.length : Int) == 0 || nl) = false → ((plainK (wd L 0) != 0) && ((L.length : Int) == 1)) = false → strEq (wd L 0) tGo = true → (((L.length : Int) != 3 || !strEq (wd L 1) tDepth) || decide (((wd L 2).size : Int) > 2)) = false → goOk (wd L 2) = true → S = ((5, pos0, [], v), 0) := fun a b c d e => hv ▸ hR.g3 a b c d e
    have hg : goOk (wd L 2) = (((false && decide (v ≥ 1)) && decide (v ≤ 64)) && strEq t (wd L 2)) := by unfold goOk; rw [hok, hv, ht]
    have hG1 : (((false && decide (v ≥ 1)) && decide (v ≤ 64)) && strEq t (wd L 2)) = true → goOk (wd L 2) = true := fun h => hg.trans h
    have hG0 : (((false && decide (v ≥ 1)) && decide (v ≤ 64)) && strEq t (wd L 2)) = false → goOk (wd L 2) = false := fun h => hg.trans h
    have h3 : (((L.length : Int) != 3 || !strEq (wd L 1) tDepth) || decide (((wd L 2).size : Int) > 2)) = false → L.length = 3 ∧ (wd L 2).size ≤ 2 := fun h => ⟨(goC_3 h).1, (goC_3 h).2.2⟩
    have h3a : (!((L.length : Int) != 3)) = true → L.length = 3 := fun h => by have := bneF ((Bool.not_eq_true' _).mp h); omega
    have h3b : ∀ b, (!((L.length : Int) != 3 || b)) = true → L.length = 3 := fun b h => by
      have := (Bool.not_eq_true' _).mp h
      rw [Bool.or_eq_false_iff] at this
      have := bneF this.1
      omega
    have h1 : ((L.length : Int) == 0 || nl) = false → 0 < L.length := fun h => Nat.pos_of_ne_zero fun h2 => cC_2 h (.inl h2)
    clear hg hS'
    refine tr_ghost plainEs 5 rfl ?_
    have vs := vs.kin (ghCtx_kin c plainEs 5)
    refine Tr_seq (vs.go rfl ?_)
    repeat' (first | exact Bool.noConfusion ‹(!true) = true› | exact Bool.noConfusion ‹(!false) = false› | (intro h; exact h) | (intro h; rw [h]; rfl) | (intro h1 h2; rw [h1, h2]; rfl) | (intro _; assumption) | (intro _; exact rfl) | (intro h; exact Bool.noConfusion (h.symm.trans ‹_ = false›)) | refine ⟨fun _ => ?_, fun _ => ?_⟩ | refine ⟨?_⟩ | refine ⟨?_, ?_⟩ | fail)
    refine Tr_seq (vs.go rfl ?_)
    repeat' (first | exact Bool.noConfusion ‹(!true) = true› | exact Bool.noConfusion ‹(!false) = false› | (intro h; exact h) | (intro h; rw [h]; rfl) | (intro h1 h2; rw [h1, h2]; rfl) | (intro _; assumption) | (intro _; exact rfl) | (intro h; exact Bool.noConfusion (h.symm.trans ‹_ = false›)) | refine ⟨fun _ => ?_, fun _ => ?_⟩ | refine ⟨?_⟩ | refine ⟨?_, ?_⟩ | fail)
    · exact ⟨by omega, trivial, trivial⟩
    refine Tr_seq (vs.go rfl ?_)
    repeat' (first | exact Bool.noConfusion ‹(!true) = true› | exact Bool.noConfusion ‹(!false) = false› | (intro h; exact h) | (intro h; rw [h]; rfl) | (intro h1 h2; rw [h1, h2]; rfl) | (intro _; assumption) | (intro _; exact rfl) | (intro h; exact Bool.noConfusion (h.symm.trans ‹_ = false›)) | refine ⟨fun _ => ?_, fun _ => ?_⟩ | refine ⟨?_⟩ | refine ⟨?_, ?_⟩ | fail)
    · exact fun _ => ⟨by omega, rfl, trivial⟩
    rotate_right
    have hlen : 0 < (veil (wB s)).length := by
      have h := ‹(((veil (wB s)).length : Int) == 0 || veil (nlB s)) = false›
      rw [veil_eq, veil_eq, hL, hnl] at h
      rw [veil_eq, hL]; exact h1 h
    refine Tr_seq (Tr_seq ?_)
    refine trAny_region hS.seat.mixed ?_
    refine trAny_key (fun b => [(22, .mp b), (23, .row 0), (24, .elt 0 0 0), (25, .s (wd (veil (wB s)) 0)), (26, .tup [.i .i64 (plainK (wd (veil (wB s)) 0)), .b ((plainK (wd (veil (wB s)) 0)) != 0)]), (21, .tup [.i .i64 (plainK (wd (veil (wB s)) 0)), .b ((plainK (wd (veil (wB s)) 0)) != 0)]), (27, .i .i64 (plainK (wd (veil (wB s)) 0))), (28, .b ((plainK (wd (veil (wB s)) 0)) != 0)), (5, .i .i64 (plainK (wd (veil (wB s)) 0))), (6, .b ((plainK (wd (veil (wB s)) 0)) != 0))]) ?_ (fun key => ?_)
    rotate_left
    · skip
      repeat' first
        | exact hlen
        | exact Int.le_refl _
        | exact Int.ofNat_lt.2 hlen
        | (refine Lf.mk ?_)
        | (refine tr_gmap plain_law rfl rfl Tryz.func21 rfl rfl (fun b => ?_))
        | (refine tr_glook (plain_look _) rfl rfl rfl ?_)
        | (refine trAny_2 0 1 (by decide +kernel) rfl rfl rfl rfl ?_ ?_)
        | (refine trAny_2 0 2 (by decide +kernel) rfl rfl rfl rfl ?_ ?_)
        | (refine trAny_2 0 3 (by decide +kernel) rfl rfl rfl rfl ?_ ?_)
        | (refine trAny_2 6 7 (by decide +kernel) rfl rfl rfl rfl ?_ ?_)
        | (refine trAny_2 7 8 (by decide +kernel) rfl rfl rfl rfl ?_ ?_)
        | (refine trAny_1 0 (by decide +kernel) rfl rfl ?_)
        | (refine trAny_1 1 (by decide +kernel) rfl rfl ?_)
        | (refine trAny_1 2 (by decide +kernel) rfl rfl ?_)
        | (refine trAny_1 3 (by decide +kernel) rfl rfl ?_)
        | (refine trAny_1 4 (by decide +kernel) rfl rfl ?_)
        | (refine trAny_1 5 (by decide +kernel) rfl rfl ?_)
        | (refine trAny_1 6 (by decide +kernel) rfl rfl ?_)
        | (refine trAny_1 7 (by decide +kernel) rfl rfl ?_)
        | (refine trAny_1 8 (by decide +kernel) rfl rfl ?_)
        | (refine trAny_1 9 (by decide +kernel) rfl rfl ?_)
        | (refine trAny_end (by decide +kernel) (key _))
        | (refine one_pure hS.seat.tt #[] rfl ?_; refine ⟨⟨?_, ?_⟩, Lf.mk ?_⟩)
        | (refine one_pure hS.seat.tt #[] rfl ?_; refine Lf.mk ?_)
      all_goals done
    rotate_right
    intro b
    refine Lf.mk ?_
    clear hlen
    refine vs.go rfl ?_
    repeat' (first | exact Bool.noConfusion ‹(!true) = true› | exact Bool.noConfusion ‹(!false) = false› | (intro h; exact h) | (intro h; rw [h]; rfl) | (intro h1 h2; rw [h1, h2]; rfl) | (intro _; assumption) | (intro _; exact rfl) | (intro h; exact Bool.noConfusion (h.symm.trans ‹_ = false›)) | refine ⟨fun _ => ?_, fun _ => ?_⟩ | refine ⟨?_⟩ | refine ⟨?_, ?_⟩ | fail)
    any_goals (refine vs.go rfl ?_)
    repeat' (first | exact Bool.noConfusion ‹(!true) = true› | exact Bool.noConfusion ‹(!false) = false› | (intro h; exact h) | (intro h; rw [h]; rfl) | (intro h1 h2; rw [h1, h2]; rfl) | (intro _; assumption) | (intro _; exact rfl) | (intro h; exact Bool.noConfusion (h.symm.trans ‹_ = false›)) | refine ⟨fun _ => ?_, fun _ => ?_⟩ | refine ⟨?_⟩ | refine ⟨?_, ?_⟩ | fail)
    all_goals (try dsimp only at *)
    all_goals (try simp only [veil_eq, hL, hnl, show Int.toNat 1 = 1 from rfl, show Int.toNat 2 = 2 from rfl, show Int.toNat 0 = 0 from rfl, cut_all, hm, hq, hv, hv2, ht] at *)
    all_goals first
      | exact trivial
      | exact rfl
      | exact hsw
      | exact hlb
      | exact Int.ofNat_lt.2 (h1 ‹_›)
      | (have := h1 ‹_›; show (1 : Int) ≤ (L.length : Int); omega)
      | (intro h; have := h3a h; exact ⟨by decide, by omega⟩)
      | (intro h; have := h3b _ h; exact ⟨by decide, by omega⟩)
      | (have := (h3 ‹_›).1; show (2 : Int) < (L.length : Int); omega)
      | (have := (h3 ‹_›).2; exact ⟨by show (wd L 2).size ≤ _; omega, hok, trivial⟩)
      | (intro _; exact ⟨hbd.1, hbd.2, trivial⟩)
      | (intro _; have := (h3 ‹_›).1; exact ⟨by decide, by omega⟩)
      | (first
          | (have e := hR.a ‹_›; subst e)
          | (have e := hR.b ‹_› ‹_›; subst e)
          | (have e := hR.g1 ‹_› ‹_› ‹_› ‹_›; subst e)
          | (have e := hR3 ‹_› ‹_› ‹_› ‹_› (hG1 ‹_›); subst e)
          | (have e := hR.g2 ‹_› ‹_› ‹_› (hG0 ‹_›); subst e)
          | (have e := hR.n1 ‹_› ‹_› ‹_› ‹_› ‹_›; subst e)
          | (have e := hR.n2 ‹_› ‹_› ‹_› ‹_› ‹_›; subst e)
          | (have e := hR.p ‹_› ‹_› ‹_› ‹_› ‹_›; subst e)
          | (have e := hR.z ‹_› ‹_› ‹_› ‹_› ‹_›; subst e)
         first | exact rfl | exact chk_i rfl | exact chk_s rfl)
      | skip
  · cases hcr
end
end Go.X

namespace Go.X
open Go Go.Proofs Go.RowKit

structure PZ1 (s : ByteArray) : Prop where
  sz : s.size ≤ 1000000
  u : True
  v : True
def cParse23 : Con
  | [.a (.s s)] => some ⟨[PZ1 s], .tup [aggC (parseC s).1, .a (.i .i64 (parseC s).2)], [], []⟩
  | _ => none
section
variable {G : Nat → World → Prop}
theorem okParse23 (hS : Hyp G) : ConOK Tryz.prog G 12 cParse23 := by
  refine con_cases (okParseG hS) (okParseH hS) ?_
  intro rvs cr hcr hpre
  unfold cParse23 at hcr
  split at hcr
  · rename_i s
    cases hcr
    have hp := hpre _ (List.mem_singleton.2 rfl)
    cases h : atoiOk (wd (wB s) 2) with
    | true => exact .inl ⟨_, rfl, fun p hp' => by rw [List.mem_singleton.1 hp']; exact ⟨hp.sz, h, trivial⟩, rfl, rfl, rfl⟩
    | false => exact .inr ⟨_, rfl, fun p hp' => by rw [List.mem_singleton.1 hp']; exact ⟨hp.sz, h, trivial⟩, rfl, rfl, rfl⟩
  · cases hcr
end
end Go.X

namespace Go.X
open Go Go.Proofs

def cIdxDot : Con
  | [.view _ lo hi _ ⟨5, .byte, l, _⟩, .fn 39 []] => some ⟨[LB (cutL lo hi l)], .a (.i .i64 (spIdx nd (cutL lo hi l))), [], []⟩
  | _ => none
def cNd : Con
  | [.a (.i .u8 c)] => some ⟨[], .a (.b (nd c)), [], []⟩
  | _ => none
abbrev cJoinS : Con := cJoin
def cPrint4 : Con
  | [.agg [.a (.s p), .a (.i .i64 side), .a (.i .i64 clock), .a (.i .i64 full)]] => some ⟨[], .tup [.a (.s (printP (p, side, clock, full)).1), .a (.i .i64 (printP (p, side, clock, full)).2)], [], []⟩
  | _ => none
def fr4 : Nat → AV
  | 0 => .nilp
  | _ + 1 => .box 4 0
section
variable {G : Nat → World → Prop}
theorem okJoinS (_ : Hyp G) : ConOK Tryz.prog G 22 cJoin := con_join Tryz.func22 rfl rfl (fun bk o c xs sep w h1 h2 h3 h4 h5 => Tryz.strings_Join bk o c xs sep w h1 h2 h3 h4 h5) (fun p cap sep w => Tryz.strings_Join_none p cap sep w)
set_option maxHeartbeats 4000000 in
set_option maxRecDepth 20000 in
theorem okNd (hS : Hyp G) : ConOK Tryz.prog G 39 cNd := by
  refine seat_con hS.seat [] [] trivial Tryz.func39 rfl rfl rfl ?_
  intro rvs cr hcr hpre
  unfold cNd at hcr
  split at hcr
  · cases hcr
    refine ⟨⟨rfl, rfl, rfl⟩, fun c hc vs => ?_⟩
    repeat' (first | exact Bool.noConfusion ‹(!true) = true› | exact Bool.noConfusion ‹(!false) = false› | (intro h; exact h) | (intro h; rw [h]; rfl) | (intro h1 h2; rw [h1, h2]; rfl) | (intro _; assumption) | (intro _; exact rfl) | (intro h; exact Bool.noConfusion (h.symm.trans ‹_ = false›)) | refine ⟨fun _ => ?_, fun _ => ?_⟩ | refine ⟨?_⟩ | refine ⟨?_, ?_⟩ | fail)
    all_goals first | exact trivial | exact rfl
  · cases hcr
set_option maxHeartbeats 4000000 in
set_option maxRecDepth 20000 in
theorem okIdxDot (hS : Hyp G) : ConOK Tryz.prog G 38 cIdxDot := by
  refine seat_con hS.seat [(39, cNd)] [none] ⟨okNd hS, trivial⟩ Tryz.func38 rfl rfl rfl ?_
  intro rvs cr hcr hpre
  unfold cIdxDot at hcr
  split at hcr
  · rename_i x lo hi _ l0 _
    cases hcr
    simp only [List.mem_cons, List.not_mem_nil, or_false, forall_eq_or_imp, forall_eq] at hpre
    refine ⟨⟨rfl, rfl, rfl⟩, fun c hc vs => ?_⟩
    have hll : (cutL lo hi l0).length ≤ 2000000000 := hpre
    repeat' (first | exact Bool.noConfusion ‹(!true) = true› | exact Bool.noConfusion ‹(!false) = false› | (intro h; exact h) | (intro h; rw [h]; rfl) | (intro h1 h2; rw [h1, h2]; rfl) | (intro _; assumption) | (intro _; exact rfl) | (intro h; exact Bool.noConfusion (h.symm.trans ‹_ = false›)) | refine ⟨fun _ => ?_, fun _ => ?_⟩ | refine ⟨?_⟩ | refine ⟨?_, ?_⟩ | fail)
    all_goals first | exact trivial | (refine (?_ : (_ : Int) ≠ _); decide) | exact rfl | skip
    refine Tr_loopH (α := Nat) (fun i => [(8, .i .i64 (.ofNat i))]) (fun _ => []) (fun _ => [])
        (fun i => i ≤ (cutL lo hi l0).length ∧ ∀ x ∈ (cutL lo hi l0).take i, nd x = false) (fun i => (cutL lo hi l0).length - i) 0 ⟨by omega, by simp⟩ (by (refine ⟨?_, rfl, ?_, ?_, ?_, rfl⟩ <;> repeat' (first | exact trivial | (refine ⟨rfl, ?_⟩) | fail))) ?_
    rintro i ⟨hi', hq⟩
    refine vs.go rfl ?_
    repeat' (first | exact Bool.noConfusion ‹(!true) = true› | exact Bool.noConfusion ‹(!false) = false› | (intro h; exact h) | (intro h; rw [h]; rfl) | (intro h1 h2; rw [h1, h2]; rfl) | (intro _; assumption) | (intro _; exact rfl) | (intro h; exact Bool.noConfusion (h.symm.trans ‹_ = false›)) | refine ⟨fun _ => ?_, fun _ => ?_⟩ | refine ⟨?_⟩ | refine ⟨?_, ?_⟩ | fail)
    all_goals first | exact trivial | (refine (?_ : (_ : Int) ≠ _); decide) | exact rfl | skip
    all_goals first | exact trivial | exact rfl | skip
    · rename_i h; simpa using h
    · rename_i h hf; simp at h; exact chk_i (idx_some h hq hf).symm
    · rename_i h hf
      simp at h
      refine Again.mk (i + 1) ⟨by omega, take_next h hq hf⟩ (by omega) ?_
      rw [wrapN (by omega)]
      (refine ⟨?_, rfl, ?_, ?_, ?_, rfl⟩ <;> repeat' (first | exact trivial | (refine ⟨rfl, ?_⟩) | fail))
    · rename_i h
      simp at h
      have hi' : i = (cutL lo hi l0).length := by omega
      subst hi'
      exact chk_i (idx_none hq).symm
  · cases hcr
set_option maxHeartbeats 4000000 in
set_option maxRecDepth 20000 in
theorem okPrint4 (hS : Hyp G) : ConOK Tryz.prog G 19 cPrint4 := by
  refine seat_con hS.seat [(36, cPCheck), (38, cIdxDot), (18, cItoaS), (42, cBStrS), (1000042, cMark), (43, cRev), (1000043, cMark), (22, cJoinS)] [] ⟨okPCheck hS, okIdxDot hS, okItoaS hS, okBStrS hS, okMark, okRev hS, okMark, okJoinS hS, trivial⟩ Tryz.func19 rfl rfl rfl ?_
  intro rvs cr hcr hpre
  unfold cPrint4 at hcr
  split at hcr
  · rename_i p side clock full
    cases hcr
    refine ⟨⟨rfl, rfl, rfl⟩, fun c hc vs => ?_⟩
    obtain ⟨P4, hP⟩ : ∃ x, printP (p, side, clock, full) = x := ⟨_, rfl⟩
    obtain ⟨C, hC⟩ : ∃ x, rCheck p side clock full = x := ⟨_, rfl⟩
    have hk : ck (p, side, clock, full) = C := hC
    rw [hP]
    repeat' (first | exact Bool.noConfusion ‹(!true) = true› | exact Bool.noConfusion ‹(!false) = false› | (intro h; exact h) | (intro h; rw [h]; rfl) | (intro h1 h2; rw [h1, h2]; rfl) | (intro _; assumption) | (intro _; exact rfl) | (intro h; exact Bool.noConfusion (h.symm.trans ‹_ = false›)) | refine ⟨fun _ => ?_, fun _ => ?_⟩ | refine ⟨?_⟩ | refine ⟨?_, ?_⟩ | fail)
    all_goals simp only [hC] at *
    all_goals first | exact trivial | exact rfl | skip
    · rw [hP.symm.trans (print_chk (by rw [hk]; assumption))]; exact chk_s rfl
    · rw [hP.symm.trans (print_chk (by rw [hk]; assumption)), hk]; exact chk_i rfl
    all_goals
      have hc0 : (C != 0) = false := ‹(C != 0) = false›
      have hk0 : ck (p, side, clock, full) = 0 := by rw [hk]; exact bneF hc0
      have hok := pr_ok hk0
      have hcb : cellsB (bytesL p) := hok.c
      have hbl : (bytesL p).length = 90 := hok.l
      have hpz : p.size = 90 := by rw [← bL_len]; exact hbl
      have hPr : P4 = (prB (p, side, clock, full), 0) := hP.symm.trans (print_ok (by rw [hk]; exact hc0))
    · show p.size ≤ _; omega
    refine trOps_none rfl (inl_one false hS.seat.tt rfl rfl Tryz.func37 rfl rfl ?_)
    intro cI hkI hrI
    refine (vs.kin hkI).go rfl ?_
    repeat' (first | exact Bool.noConfusion ‹(!true) = true› | exact Bool.noConfusion ‹(!false) = false› | (intro h; exact h) | (intro h; rw [h]; rfl) | (intro h1 h2; rw [h1, h2]; rfl) | (intro _; assumption) | (intro _; exact rfl) | (intro h; exact Bool.noConfusion (h.symm.trans ‹_ = false›)) | refine ⟨fun _ => ?_, fun _ => ?_⟩ | refine ⟨?_⟩ | refine ⟨?_, ?_⟩ | fail)
    all_goals first | exact trivial | exact rfl | skip
    refine vs.on ?_
    repeat' (first | exact Bool.noConfusion ‹(!true) = true› | exact Bool.noConfusion ‹(!false) = false› | (intro h; exact h) | (intro h; rw [h]; rfl) | (intro h1 h2; rw [h1, h2]; rfl) | (intro _; assumption) | (intro _; exact rfl) | (intro h; exact Bool.noConfusion (h.symm.trans ‹_ = false›)) | refine ⟨fun _ => ?_, fun _ => ?_⟩ | refine ⟨?_⟩ | refine ⟨?_, ?_⟩ | fail)
    all_goals first | exact trivial | exact rfl | skip
    refine Tr_nilBox 9 .str 1 0 rfl rfl (by decide) ?_
    refine tr_range hc rfl Tryz.func65 rfl rfl rfl (fun c2 hk2 hr2 hI => ?_)
    refine (vs.kin hk2).go rfl ?_
    repeat' (first | exact Bool.noConfusion ‹(!true) = true› | exact Bool.noConfusion ‹(!false) = false› | (intro h; exact h) | (intro h; rw [h]; rfl) | (intro h1 h2; rw [h1, h2]; rfl) | (intro _; assumption) | (intro _; exact rfl) | (intro h; exact Bool.noConfusion (h.symm.trans ‹_ = false›)) | refine ⟨fun _ => ?_, fun _ => ?_⟩ | refine ⟨?_⟩ | refine ⟨?_, ?_⟩ | fail)
    all_goals first | exact trivial | exact rfl | skip
    refine Tr_loopH (α := Nat) (fun j => [(4, .i .i64 (9 * (j : Int)))]) (fun _ => []) (fun j => [(1, some ⟨9, .str, upL (bytesL p) j, true⟩)]) (fun j => j ≤ 10) (fun j => 10 - j) 0 (by decide) (by (refine ⟨?_, rfl, ?_, ?_, ?_, rfl⟩ <;> repeat' (first | exact trivial | (refine ⟨rfl, ?_⟩) | fail))) ?_
    intro j hj
    have hul := up_len (bytesL p) j
    have hmn : 9 * j < 90 → (if ((90 - 9 * j : Nat) : Int) < 9 then ((90 - 9 * j : Nat) : Int) else 9) = 9 := fun h => by split <;> omega
    have hw : j < 10 → IntKind.i64.wrap (9 * (j : Int) + 9) = 9 * (j : Int) + 9 := fun h => wrap64 (by omega) (by omega)
    have ht1 : (9 * (j : Int)).toNat = 9 * j := by omega
    have ht2 : (9 * (j : Int) + 9).toNat = 9 * j + 9 := by omega
    refine (vs.kin hk2).go rfl ?_
    repeat' (first | exact Bool.noConfusion ‹(!true) = true› | exact Bool.noConfusion ‹(!false) = false› | (intro h; exact h) | (intro h; rw [h]; rfl) | (intro h1 h2; rw [h1, h2]; rfl) | (intro _; assumption) | (intro _; exact rfl) | (intro h; exact Bool.noConfusion (h.symm.trans ‹_ = false›)) | refine ⟨fun _ => ?_, fun _ => ?_⟩ | refine ⟨?_⟩ | refine ⟨?_, ?_⟩ | fail)
    all_goals first | exact trivial | exact rfl | skip
    rotate_right 9
    · rw [hul]; show (_ : Nat) ≤ _; omega
    · have := hok.s; dsimp only at this; omega
    · have := hok.s; dsimp only at this; show side < 2; omega
    all_goals first | (have hlt : j < 10 := (by have h := of_decide_eq_true ‹decide (9 * (j : Int) < _) = true›; rw [show ({ T := 5, k := EK.byte, l := bytesL p, own := true } : Row).l = bytesL p from rfl, hbl] at h; omega); try rw [hbl]; try rw [ht1]; try rw [hmn (show 9 * j < 90 by omega)]; try rw [hw hlt]; try rw [ht2]) | (have hge : j = 10 := (by have h := of_decide_eq_false ‹decide (9 * (j : Int) < _) = false›; rw [show ({ T := 5, k := EK.byte, l := bytesL p, own := true } : Row).l = bytesL p from rfl, hbl] at h; omega); subst hge)
    · rw [up_rev]; exact board_lj hcb hbl
    · have := hok.k; dsimp only at this; exact ⟨by omega, by omega, trivial⟩
    · have := hok.f; dsimp only at this; exact ⟨by omega, by omega, trivial⟩
    · rw [up_rev, board_join hcb]
      have hsd : (([⟨#[119]⟩, ⟨#[98]⟩] : List ByteArray).getD side.toNat ByteArray.empty) = bytesOf (sdL side) := by rcases hok.s with h | h <;> (dsimp only at h; subst h; rfl)
      have := (print_join hok).2
      dsimp only at this ⊢
      rw [show ([⟨#[119]⟩, ⟨#[98]⟩] : List ByteArray).getD side.toNat EK.str.dflt = _ from hsd]; exact this
    · rw [up_rev, board_join hcb]
      have hsd : (([⟨#[119]⟩, ⟨#[98]⟩] : List ByteArray).getD side.toNat ByteArray.empty) = bytesOf (sdL side) := by rcases hok.s with h | h <;> (dsimp only at h; subst h; rfl)
      have := (print_join hok).1
      dsimp only at this ⊢
      rw [show ([⟨#[119]⟩, ⟨#[98]⟩] : List ByteArray).getD side.toNat EK.str.dflt = _ from hsd, this, hPr]; exact chk_s rfl
    · rw [hPr]; exact chk_i rfl
    · show (9 : Int) * j ≤ ((90 : Nat) : Int); omega
    · omega
    · show (9 : Int) * j + 9 ≤ ((90 : Nat) : Int); omega
    · omega
    · omega
    · refine trOps_none rfl (yield_one false hI rfl rfl rfl rfl ?_)
      intro c3 hk3
      refine ((vs.kin hk2).kin hk3).go rfl ?_
      repeat' (first | exact Bool.noConfusion ‹(!true) = true› | exact Bool.noConfusion ‹(!false) = false› | (intro h; exact h) | (intro h; rw [h]; rfl) | (intro h1 h2; rw [h1, h2]; rfl) | (intro _; assumption) | (intro _; exact rfl) | (intro h; exact Bool.noConfusion (h.symm.trans ‹_ = false›)) | refine ⟨fun _ => ?_, fun _ => ?_⟩ | refine ⟨?_⟩ | refine ⟨?_, ?_⟩ | fail)
      refine ((vs.kin hk2).kin hk3).go rfl ?_
      repeat' (first | exact Bool.noConfusion ‹(!true) = true› | exact Bool.noConfusion ‹(!false) = false› | (intro h; exact h) | (intro h; rw [h]; rfl) | (intro h1 h2; rw [h1, h2]; rfl) | (intro _; assumption) | (intro _; exact rfl) | (intro h; exact Bool.noConfusion (h.symm.trans ‹_ = false›)) | refine ⟨fun _ => ?_, fun _ => ?_⟩ | refine ⟨?_⟩ | refine ⟨?_, ?_⟩ | fail)
      all_goals first | exact trivial | exact rfl | skip
      refine Tr_nilBox 5 (.int .u8) 4 1 rfl rfl (by decide) ?_
      refine Tr_loopH (α := Nat × List Int) (fun x => [(6, .view 0 (9 * j + x.1) (9 * j + 9) false)]) (fun x => [(4, some ⟨75, [fr4 x.1, .row 2], true⟩)]) (fun x => [(2, some ⟨5, .int .u8, x.2, true⟩)])
        (fun x => FInv (bytesL p) j x.1 x.2) (fun x => 9 - x.1) (0, []) (FInv.start _ _) (by (refine ⟨?_, rfl, ?_, ?_, ?_, rfl⟩ <;> repeat' (first | exact trivial | (refine ⟨rfl, ?_⟩) | fail))) ?_
      rintro ⟨m, acc⟩ hf
      dsimp only at hf
      have hm9 := hf.hi; have hal := hf.len
      have hrl := rest_len hbl hlt hm9
      have hcl : cutL (9 * j + m) (9 * j + 9) (bytesL p) = rest (bytesL p) j m := rfl
      rcases m with _ | m
      · have vs3 := vs.kin hk2
        have vs := (vs.kin hk2).kin hk3
        dsimp only
        refine vs.go rfl ?_
        repeat' (first | exact Bool.noConfusion ‹(!true) = true› | exact Bool.noConfusion ‹(!false) = false› | (intro h; exact h) | (intro h; rw [h]; rfl) | (intro h1 h2; rw [h1, h2]; rfl) | (intro _; assumption) | (intro _; exact rfl) | (intro h; exact Bool.noConfusion (h.symm.trans ‹_ = false›)) | refine ⟨fun _ => ?_, fun _ => ?_⟩ | refine ⟨?_⟩ | refine ⟨?_, ?_⟩ | fail)
        all_goals first | exact trivial | exact rfl | exact hf.by_ | (show (upL (bytesL p) j).length + 1 ≤ _; rw [hul]; omega) | (show ((upL (bytesL p) j).length + 1) * 16 ≤ _; rw [hul]; omega) | skip
        · show (rest (bytesL p) j (0)).length ≤ 2000000000; rw [hrl]; omega
        · exact ⟨by omega, by omega, trivial⟩
        · skip
          refine trOps_none rfl (inl_one false hS.seat.tt rfl rfl Tryz.func40 rfl rfl ?_)
          intro cI hkI hrI
          refine (vs.kin hkI).go rfl ?_
          repeat' (first | exact Bool.noConfusion ‹(!true) = true› | exact Bool.noConfusion ‹(!false) = false› | (intro h; exact h) | (intro h; rw [h]; rfl) | (intro h1 h2; rw [h1, h2]; rfl) | (intro _; assumption) | (intro _; exact rfl) | (intro h; exact Bool.noConfusion (h.symm.trans ‹_ = false›)) | refine ⟨fun _ => ?_, fun _ => ?_⟩ | refine ⟨?_⟩ | refine ⟨?_, ?_⟩ | fail)
          refine trOps_none rfl (tr_copyCheck cc_law rfl Tryz.func66 rfl rfl rfl rfl (by first | exact .inl rfl | exact .inr rfl) ?_)
          refine (vs.kin hkI).on ?_
          repeat' (first | exact Bool.noConfusion ‹(!true) = true› | exact Bool.noConfusion ‹(!false) = false› | (intro h; exact h) | (intro h; rw [h]; rfl) | (intro h1 h2; rw [h1, h2]; rfl) | (intro _; assumption) | (intro _; exact rfl) | (intro h; exact Bool.noConfusion (h.symm.trans ‹_ = false›)) | refine ⟨fun _ => ?_, fun _ => ?_⟩ | refine ⟨?_⟩ | refine ⟨?_, ?_⟩ | fail)
          · rw [itoa_one (by omega) (by omega)]; omega
          have hv : spIdx nd (rest (bytesL p) j (0)) < 0 := of_decide_eq_true ‹decide (spIdx nd (cutL (9 * j + (0)) (9 * j + 9) (bytesL p)) < 0) = true›
          have hm0 : ((9 * j + 9 - (9 * j + (0)) : Nat) : Int) > 0 := of_decide_eq_true ‹decide (((9 * j + 9 - (9 * j + (0)) : Nat) : Int) > 0) = true›
          have hs := hf.neg hbl hlt (by omega) hv
          have e1 : 9 * j + 9 - (9 * j + (0)) = 9 - (0) := by omega
          refine vs.on ?_
          repeat' (first | exact Bool.noConfusion ‹(!true) = true› | exact Bool.noConfusion ‹(!false) = false› | (intro h; exact h) | (intro h; rw [h]; rfl) | (intro h1 h2; rw [h1, h2]; rfl) | (intro _; assumption) | (intro _; exact rfl) | (intro h; exact Bool.noConfusion (h.symm.trans ‹_ = false›)) | refine ⟨fun _ => ?_, fun _ => ?_⟩ | refine ⟨?_⟩ | refine ⟨?_, ?_⟩ | fail)
          all_goals first | exact trivial | exact rfl | skip
          · exact Int.le_refl _
          refine Again.mk (9, acc ++ digL ((9 - (0) : Nat) : Int)) hs (by show 9 - 9 < 9 - (0); omega) ?_
          rw [e1, itoa_list (by omega), Int.toNat_natCast, show 9 * j + (0) + (9 - (0)) = 9 * j + 9 by omega]
          (refine ⟨?_, rfl, ?_, ?_, ?_, rfl⟩ <;> repeat' (first | exact trivial | (refine ⟨rfl, ?_⟩) | fail))
        · have hv : ¬ spIdx nd (rest (bytesL p) j (0)) < 0 := of_decide_eq_false ‹decide (spIdx nd (cutL (9 * j + (0)) (9 * j + 9) (bytesL p)) < 0) = false›
          obtain ⟨k, hk1, hk2⟩ := idx_nat hv
          rw [hrl] at hk2
          show I64 (spIdx nd (rest (bytesL p) j (0)))
          rw [hk1]
          exact ⟨by show _ ≤ (k : Int); omega, by show (k : Int) ≤ _; omega, trivial⟩
        · skip
          have hv0 : ¬ spIdx nd (rest (bytesL p) j (0)) < 0 := of_decide_eq_false ‹decide (spIdx nd (cutL (9 * j + (0)) (9 * j + 9) (bytesL p)) < 0) = false›
          have hv1 : spIdx nd (rest (bytesL p) j (0)) > 0 := of_decide_eq_true ‹decide (spIdx nd (cutL (9 * j + (0)) (9 * j + 9) (bytesL p)) > 0) = true›
          have hm0 : ((9 * j + 9 - (9 * j + (0)) : Nat) : Int) > 0 := of_decide_eq_true ‹decide (((9 * j + 9 - (9 * j + (0)) : Nat) : Int) > 0) = true›
          obtain ⟨k, hk1, hk2⟩ := idx_nat hv0
          rw [hk1] at hv1
          have hkp : 0 < k := Int.ofNat_lt.1 hv1
          obtain ⟨k, rfl⟩ : ∃ k', k = k' + 1 := ⟨k - 1, by omega⟩
          obtain ⟨hk3, hs⟩ := hf.pos hbl hlt (by omega) hkp hk1
          have hkc : spIdx nd (cutL (9 * j + (0)) (9 * j + 9) (bytesL p)) = ((k + 1 : Nat) : Int) := hk1
          rw [hkc]
          refine trOps_none rfl (inl_one false hS.seat.tt rfl rfl Tryz.func40 rfl rfl ?_)
          intro cI hkI hrI
          refine (vs.kin hkI).go rfl ?_
          repeat' (first | exact Bool.noConfusion ‹(!true) = true› | exact Bool.noConfusion ‹(!false) = false› | (intro h; exact h) | (intro h; rw [h]; rfl) | (intro h1 h2; rw [h1, h2]; rfl) | (intro _; assumption) | (intro _; exact rfl) | (intro h; exact Bool.noConfusion (h.symm.trans ‹_ = false›)) | refine ⟨fun _ => ?_, fun _ => ?_⟩ | refine ⟨?_⟩ | refine ⟨?_, ?_⟩ | fail)
          refine trOps_none rfl (tr_copyCheck cc_law rfl Tryz.func66 rfl rfl rfl rfl (by first | exact .inl rfl | exact .inr rfl) ?_)
          refine (vs.kin hkI).on ?_
          repeat' (first | exact Bool.noConfusion ‹(!true) = true› | exact Bool.noConfusion ‹(!false) = false› | (intro h; exact h) | (intro h; rw [h]; rfl) | (intro h1 h2; rw [h1, h2]; rfl) | (intro _; assumption) | (intro _; exact rfl) | (intro h; exact Bool.noConfusion (h.symm.trans ‹_ = false›)) | refine ⟨fun _ => ?_, fun _ => ?_⟩ | refine ⟨?_⟩ | refine ⟨?_, ?_⟩ | fail)
          · rw [itoa_one (by omega) (by omega)]; omega
          refine vs.on ?_
          repeat' (first | exact Bool.noConfusion ‹(!true) = true› | exact Bool.noConfusion ‹(!false) = false› | (intro h; exact h) | (intro h; rw [h]; rfl) | (intro h1 h2; rw [h1, h2]; rfl) | (intro _; assumption) | (intro _; exact rfl) | (intro h; exact Bool.noConfusion (h.symm.trans ‹_ = false›)) | refine ⟨fun _ => ?_, fun _ => ?_⟩ | refine ⟨?_⟩ | refine ⟨?_, ?_⟩ | fail)
          all_goals first | exact trivial | exact rfl | skip
          · omega
          refine Again.mk ((0) + (k + 1), acc ++ digL ((k + 1 : Nat) : Int)) hs (by show 9 - ((0) + (k + 1)) < 9 - (0); omega) ?_
          rw [itoa_list (by omega), Int.toNat_natCast, show 9 * j + (0) + (k + 1) = 9 * j + ((0) + (k + 1)) by omega]
          (refine ⟨?_, rfl, ?_, ?_, ?_, rfl⟩ <;> repeat' (first | exact trivial | (refine ⟨rfl, ?_⟩) | fail))
        · have hm0 := of_decide_eq_true ‹decide (((9 * j + 9 - (9 * j + (0)) : Nat) : Int) > 0) = true›
          exact hm0
        · skip
          have hv0 : ¬ spIdx nd (rest (bytesL p) j (0)) < 0 := of_decide_eq_false ‹decide (spIdx nd (cutL (9 * j + (0)) (9 * j + 9) (bytesL p)) < 0) = false›
          have hv1 : ¬ spIdx nd (rest (bytesL p) j (0)) > 0 := of_decide_eq_false ‹decide (spIdx nd (cutL (9 * j + (0)) (9 * j + 9) (bytesL p)) > 0) = false›
          have hm0 : ((9 * j + 9 - (9 * j + (0)) : Nat) : Int) > 0 := of_decide_eq_true ‹decide (((9 * j + 9 - (9 * j + (0)) : Nat) : Int) > 0) = true›
          have hs := hf.zero hbl (fun x hx => bytesL_bound p x hx) hlt (by omega) (by omega)
          refine trOps_none rfl (inl_one false hS.seat.tt rfl rfl Tryz.func41 rfl rfl ?_)
          intro cI hkI hrI
          refine (vs.kin hkI).go rfl ?_
          repeat' (first | exact Bool.noConfusion ‹(!true) = true› | exact Bool.noConfusion ‹(!false) = false› | (intro h; exact h) | (intro h; rw [h]; rfl) | (intro h1 h2; rw [h1, h2]; rfl) | (intro _; assumption) | (intro _; exact rfl) | (intro h; exact Bool.noConfusion (h.symm.trans ‹_ = false›)) | refine ⟨fun _ => ?_, fun _ => ?_⟩ | refine ⟨?_⟩ | refine ⟨?_, ?_⟩ | fail)
          refine trOps_none rfl (tr_copyCheck cc_law rfl Tryz.func66 rfl rfl rfl rfl (by first | exact .inl rfl | exact .inr rfl) ?_)
          refine (vs.kin hkI).on ?_
          repeat' (first | exact Bool.noConfusion ‹(!true) = true› | exact Bool.noConfusion ‹(!false) = false› | (intro h; exact h) | (intro h; rw [h]; rfl) | (intro h1 h2; rw [h1, h2]; rfl) | (intro _; assumption) | (intro _; exact rfl) | (intro h; exact Bool.noConfusion (h.symm.trans ‹_ = false›)) | refine ⟨fun _ => ?_, fun _ => ?_⟩ | refine ⟨?_⟩ | refine ⟨?_, ?_⟩ | fail)
          · show acc.length + 1 ≤ _; omega
          · show (acc.length + 1) * 1 ≤ _; omega
          refine vs.on ?_
          repeat' (first | exact Bool.noConfusion ‹(!true) = true› | exact Bool.noConfusion ‹(!false) = false› | (intro h; exact h) | (intro h; rw [h]; rfl) | (intro h1 h2; rw [h1, h2]; rfl) | (intro _; assumption) | (intro _; exact rfl) | (intro h; exact Bool.noConfusion (h.symm.trans ‹_ = false›)) | refine ⟨fun _ => ?_, fun _ => ?_⟩ | refine ⟨?_⟩ | refine ⟨?_, ?_⟩ | fail)
          all_goals first | exact trivial | exact rfl | skip
          · exact hm0
          refine Again.mk ((0) + 1, acc ++ [(bytesL p).getD (9 * j + (0)) 0]) hs (by show 9 - ((0) + 1) < 9 - (0); omega) ?_
          (refine ⟨?_, rfl, ?_, ?_, ?_, rfl⟩ <;> repeat' (first | exact trivial | (refine ⟨rfl, ?_⟩) | fail))
        · have hm0 : ¬ ((9 * j + 9 - (9 * j + (0)) : Nat) : Int) > 0 := of_decide_eq_false ‹decide (((9 * j + 9 - (9 * j + (0)) : Nat) : Int) > 0) = false›
          have hm8 : 0 = 9 := by omega
          rw [hm8] at hf
          have hd := hf.done
          refine vs3.on ?_
          repeat' (first | exact Bool.noConfusion ‹(!true) = true› | exact Bool.noConfusion ‹(!false) = false› | (intro h; exact h) | (intro h; rw [h]; rfl) | (intro h1 h2; rw [h1, h2]; rfl) | (intro _; assumption) | (intro _; exact rfl) | (intro h; exact Bool.noConfusion (h.symm.trans ‹_ = false›)) | refine ⟨fun _ => ?_, fun _ => ?_⟩ | refine ⟨?_⟩ | refine ⟨?_, ?_⟩ | fail)
          refine Again.mk (j + 1) (by omega) (by omega) ?_
          rw [hd, hw hlt, ← up_next, show 9 * ((j + 1 : Nat) : Int) = 9 * (j : Int) + 9 by omega]
          (refine ⟨?_, rfl, ?_, ?_, ?_, rfl⟩ <;> repeat' (first | exact trivial | (refine ⟨rfl, ?_⟩) | fail))
      · have vs3 := vs.kin hk2
        have vs := (vs.kin hk2).kin hk3
        dsimp only
        refine vs.go rfl ?_
        repeat' (first | exact Bool.noConfusion ‹(!true) = true› | exact Bool.noConfusion ‹(!false) = false› | (intro h; exact h) | (intro h; rw [h]; rfl) | (intro h1 h2; rw [h1, h2]; rfl) | (intro _; assumption) | (intro _; exact rfl) | (intro h; exact Bool.noConfusion (h.symm.trans ‹_ = false›)) | refine ⟨fun _ => ?_, fun _ => ?_⟩ | refine ⟨?_⟩ | refine ⟨?_, ?_⟩ | fail)
        all_goals first | exact trivial | exact rfl | exact hf.by_ | (show (upL (bytesL p) j).length + 1 ≤ _; rw [hul]; omega) | (show ((upL (bytesL p) j).length + 1) * 16 ≤ _; rw [hul]; omega) | skip
        · show (rest (bytesL p) j ((m + 1))).length ≤ 2000000000; rw [hrl]; omega
        · exact ⟨by omega, by omega, trivial⟩
        · skip
          refine trOps_none rfl (inl_one false hS.seat.tt rfl rfl Tryz.func40 rfl rfl ?_)
          intro cI hkI hrI
          refine (vs.kin hkI).go rfl ?_
          repeat' (first | exact Bool.noConfusion ‹(!true) = true› | exact Bool.noConfusion ‹(!false) = false› | (intro h; exact h) | (intro h; rw [h]; rfl) | (intro h1 h2; rw [h1, h2]; rfl) | (intro _; assumption) | (intro _; exact rfl) | (intro h; exact Bool.noConfusion (h.symm.trans ‹_ = false›)) | refine ⟨fun _ => ?_, fun _ => ?_⟩ | refine ⟨?_⟩ | refine ⟨?_, ?_⟩ | fail)
          refine trOps_none rfl (tr_copyCheck cc_law rfl Tryz.func66 rfl rfl rfl rfl (by first | exact .inl rfl | exact .inr rfl) ?_)
          refine (vs.kin hkI).on ?_
          repeat' (first | exact Bool.noConfusion ‹(!true) = true› | exact Bool.noConfusion ‹(!false) = false› | (intro h; exact h) | (intro h; rw [h]; rfl) | (intro h1 h2; rw [h1, h2]; rfl) | (intro _; assumption) | (intro _; exact rfl) | (intro h; exact Bool.noConfusion (h.symm.trans ‹_ = false›)) | refine ⟨fun _ => ?_, fun _ => ?_⟩ | refine ⟨?_⟩ | refine ⟨?_, ?_⟩ | fail)
          · rw [itoa_one (by omega) (by omega)]; omega
          have hv : spIdx nd (rest (bytesL p) j ((m + 1))) < 0 := of_decide_eq_true ‹decide (spIdx nd (cutL (9 * j + ((m + 1))) (9 * j + 9) (bytesL p)) < 0) = true›
          have hm0 : ((9 * j + 9 - (9 * j + ((m + 1))) : Nat) : Int) > 0 := of_decide_eq_true ‹decide (((9 * j + 9 - (9 * j + ((m + 1))) : Nat) : Int) > 0) = true›
          have hs := hf.neg hbl hlt (by omega) hv
          have e1 : 9 * j + 9 - (9 * j + ((m + 1))) = 9 - ((m + 1)) := by omega
          refine vs.on ?_
          repeat' (first | exact Bool.noConfusion ‹(!true) = true› | exact Bool.noConfusion ‹(!false) = false› | (intro h; exact h) | (intro h; rw [h]; rfl) | (intro h1 h2; rw [h1, h2]; rfl) | (intro _; assumption) | (intro _; exact rfl) | (intro h; exact Bool.noConfusion (h.symm.trans ‹_ = false›)) | refine ⟨fun _ => ?_, fun _ => ?_⟩ | refine ⟨?_⟩ | refine ⟨?_, ?_⟩ | fail)
          all_goals first | exact trivial | exact rfl | skip
          · exact Int.le_refl _
          refine Again.mk (9, acc ++ digL ((9 - ((m + 1)) : Nat) : Int)) hs (by show 9 - 9 < 9 - ((m + 1)); omega) ?_
          rw [e1, itoa_list (by omega), Int.toNat_natCast, show 9 * j + ((m + 1)) + (9 - ((m + 1))) = 9 * j + 9 by omega]
          (refine ⟨?_, rfl, ?_, ?_, ?_, rfl⟩ <;> repeat' (first | exact trivial | (refine ⟨rfl, ?_⟩) | fail))
        · have hv : ¬ spIdx nd (rest (bytesL p) j ((m + 1))) < 0 := of_decide_eq_false ‹decide (spIdx nd (cutL (9 * j + ((m + 1))) (9 * j + 9) (bytesL p)) < 0) = false›
          obtain ⟨k, hk1, hk2⟩ := idx_nat hv
          rw [hrl] at hk2
          show I64 (spIdx nd (rest (bytesL p) j ((m + 1))))
          rw [hk1]
          exact ⟨by show _ ≤ (k : Int); omega, by show (k : Int) ≤ _; omega, trivial⟩
        · skip
          have hv0 : ¬ spIdx nd (rest (bytesL p) j ((m + 1))) < 0 := of_decide_eq_false ‹decide (spIdx nd (cutL (9 * j + ((m + 1))) (9 * j + 9) (bytesL p)) < 0) = false›
          have hv1 : spIdx nd (rest (bytesL p) j ((m + 1))) > 0 := of_decide_eq_true ‹decide (spIdx nd (cutL (9 * j + ((m + 1))) (9 * j + 9) (bytesL p)) > 0) = true›
          have hm0 : ((9 * j + 9 - (9 * j + ((m + 1))) : Nat) : Int) > 0 := of_decide_eq_true ‹decide (((9 * j + 9 - (9 * j + ((m + 1))) : Nat) : Int) > 0) = true›
          obtain ⟨k, hk1, hk2⟩ := idx_nat hv0
          rw [hk1] at hv1
          have hkp : 0 < k := Int.ofNat_lt.1 hv1
          obtain ⟨k, rfl⟩ : ∃ k', k = k' + 1 := ⟨k - 1, by omega⟩
          obtain ⟨hk3, hs⟩ := hf.pos hbl hlt (by omega) hkp hk1
          have hkc : spIdx nd (cutL (9 * j + ((m + 1))) (9 * j + 9) (bytesL p)) = ((k + 1 : Nat) : Int) := hk1
          rw [hkc]
          refine trOps_none rfl (inl_one false hS.seat.tt rfl rfl Tryz.func40 rfl rfl ?_)
          intro cI hkI hrI
          refine (vs.kin hkI).go rfl ?_
          repeat' (first | exact Bool.noConfusion ‹(!true) = true› | exact Bool.noConfusion ‹(!false) = false› | (intro h; exact h) | (intro h; rw [h]; rfl) | (intro h1 h2; rw [h1, h2]; rfl) | (intro _; assumption) | (intro _; exact rfl) | (intro h; exact Bool.noConfusion (h.symm.trans ‹_ = false›)) | refine ⟨fun _ => ?_, fun _ => ?_⟩ | refine ⟨?_⟩ | refine ⟨?_, ?_⟩ | fail)
          refine trOps_none rfl (tr_copyCheck cc_law rfl Tryz.func66 rfl rfl rfl rfl (by first | exact .inl rfl | exact .inr rfl) ?_)
          refine (vs.kin hkI).on ?_
          repeat' (first | exact Bool.noConfusion ‹(!true) = true› | exact Bool.noConfusion ‹(!false) = false› | (intro h; exact h) | (intro h; rw [h]; rfl) | (intro h1 h2; rw [h1, h2]; rfl) | (intro _; assumption) | (intro _; exact rfl) | (intro h; exact Bool.noConfusion (h.symm.trans ‹_ = false›)) | refine ⟨fun _ => ?_, fun _ => ?_⟩ | refine ⟨?_⟩ | refine ⟨?_, ?_⟩ | fail)
          · rw [itoa_one (by omega) (by omega)]; omega
          refine vs.on ?_
          repeat' (first | exact Bool.noConfusion ‹(!true) = true› | exact Bool.noConfusion ‹(!false) = false› | (intro h; exact h) | (intro h; rw [h]; rfl) | (intro h1 h2; rw [h1, h2]; rfl) | (intro _; assumption) | (intro _; exact rfl) | (intro h; exact Bool.noConfusion (h.symm.trans ‹_ = false›)) | refine ⟨fun _ => ?_, fun _ => ?_⟩ | refine ⟨?_⟩ | refine ⟨?_, ?_⟩ | fail)
          all_goals first | exact trivial | exact rfl | skip
          · omega
          refine Again.mk (((m + 1)) + (k + 1), acc ++ digL ((k + 1 : Nat) : Int)) hs (by show 9 - (((m + 1)) + (k + 1)) < 9 - ((m + 1)); omega) ?_
          rw [itoa_list (by omega), Int.toNat_natCast, show 9 * j + ((m + 1)) + (k + 1) = 9 * j + (((m + 1)) + (k + 1)) by omega]
          (refine ⟨?_, rfl, ?_, ?_, ?_, rfl⟩ <;> repeat' (first | exact trivial | (refine ⟨rfl, ?_⟩) | fail))
        · have hm0 := of_decide_eq_true ‹decide (((9 * j + 9 - (9 * j + ((m + 1))) : Nat) : Int) > 0) = true›
          exact hm0
        · skip
          have hv0 : ¬ spIdx nd (rest (bytesL p) j ((m + 1))) < 0 := of_decide_eq_false ‹decide (spIdx nd (cutL (9 * j + ((m + 1))) (9 * j + 9) (bytesL p)) < 0) = false›
          have hv1 : ¬ spIdx nd (rest (bytesL p) j ((m + 1))) > 0 := of_decide_eq_false ‹decide (spIdx nd (cutL (9 * j + ((m + 1))) (9 * j + 9) (bytesL p)) > 0) = false›
          have hm0 : ((9 * j + 9 - (9 * j + ((m + 1))) : Nat) : Int) > 0 := of_decide_eq_true ‹decide (((9 * j + 9 - (9 * j + ((m + 1))) : Nat) : Int) > 0) = true›
          have hs := hf.zero hbl (fun x hx => bytesL_bound p x hx) hlt (by omega) (by omega)
          refine trOps_none rfl (inl_one false hS.seat.tt rfl rfl Tryz.func41 rfl rfl ?_)
          intro cI hkI hrI
          refine (vs.kin hkI).go rfl ?_
          repeat' (first | exact Bool.noConfusion ‹(!true) = true› | exact Bool.noConfusion ‹(!false) = false› | (intro h; exact h) | (intro h; rw [h]; rfl) | (intro h1 h2; rw [h1, h2]; rfl) | (intro _; assumption) | (intro _; exact rfl) | (intro h; exact Bool.noConfusion (h.symm.trans ‹_ = false›)) | refine ⟨fun _ => ?_, fun _ => ?_⟩ | refine ⟨?_⟩ | refine ⟨?_, ?_⟩ | fail)
          refine trOps_none rfl (tr_copyCheck cc_law rfl Tryz.func66 rfl rfl rfl rfl (by first | exact .inl rfl | exact .inr rfl) ?_)
          refine (vs.kin hkI).on ?_
          repeat' (first | exact Bool.noConfusion ‹(!true) = true› | exact Bool.noConfusion ‹(!false) = false› | (intro h; exact h) | (intro h; rw [h]; rfl) | (intro h1 h2; rw [h1, h2]; rfl) | (intro _; assumption) | (intro _; exact rfl) | (intro h; exact Bool.noConfusion (h.symm.trans ‹_ = false›)) | refine ⟨fun _ => ?_, fun _ => ?_⟩ | refine ⟨?_⟩ | refine ⟨?_, ?_⟩ | fail)
          · show acc.length + 1 ≤ _; omega
          · show (acc.length + 1) * 1 ≤ _; omega
          refine vs.on ?_
          repeat' (first | exact Bool.noConfusion ‹(!true) = true› | exact Bool.noConfusion ‹(!false) = false› | (intro h; exact h) | (intro h; rw [h]; rfl) | (intro h1 h2; rw [h1, h2]; rfl) | (intro _; assumption) | (intro _; exact rfl) | (intro h; exact Bool.noConfusion (h.symm.trans ‹_ = false›)) | refine ⟨fun _ => ?_, fun _ => ?_⟩ | refine ⟨?_⟩ | refine ⟨?_, ?_⟩ | fail)
          all_goals first | exact trivial | exact rfl | skip
          · exact hm0
          refine Again.mk (((m + 1)) + 1, acc ++ [(bytesL p).getD (9 * j + ((m + 1))) 0]) hs (by show 9 - (((m + 1)) + 1) < 9 - ((m + 1)); omega) ?_
          (refine ⟨?_, rfl, ?_, ?_, ?_, rfl⟩ <;> repeat' (first | exact trivial | (refine ⟨rfl, ?_⟩) | fail))
        · have hm0 : ¬ ((9 * j + 9 - (9 * j + ((m + 1))) : Nat) : Int) > 0 := of_decide_eq_false ‹decide (((9 * j + 9 - (9 * j + ((m + 1))) : Nat) : Int) > 0) = false›
          have hm8 : (m + 1) = 9 := by omega
          rw [hm8] at hf
          have hd := hf.done
          refine vs3.on ?_
          repeat' (first | exact Bool.noConfusion ‹(!true) = true› | exact Bool.noConfusion ‹(!false) = false› | (intro h; exact h) | (intro h; rw [h]; rfl) | (intro h1 h2; rw [h1, h2]; rfl) | (intro _; assumption) | (intro _; exact rfl) | (intro h; exact Bool.noConfusion (h.symm.trans ‹_ = false›)) | refine ⟨fun _ => ?_, fun _ => ?_⟩ | refine ⟨?_⟩ | refine ⟨?_, ?_⟩ | fail)
          refine Again.mk (j + 1) (by omega) (by omega) ?_
          rw [hd, hw hlt, ← up_next, show 9 * ((j + 1 : Nat) : Int) = 9 * (j : Int) + 9 by omega]
          (refine ⟨?_, rfl, ?_, ?_, ?_, rfl⟩ <;> repeat' (first | exact trivial | (refine ⟨rfl, ?_⟩) | fail))
  · cases hcr
end
end Go.X

namespace Go.X
open Go Go.Proofs

section
variable {G : Nat → World → Prop}
theorem okJoin (_ : Hyp G) : ConOK Tryz.prog G 22 cJoin := con_join Tryz.func22 rfl rfl (fun bk o c xs sep w h1 h2 h3 h4 h5 => Tryz.strings_Join bk o c xs sep w h1 h2 h3 h4 h5) (fun p cap sep w => Tryz.strings_Join_none p cap sep w)
end
end Go.X

namespace Go.X
open Go Go.Proofs

def cIText : Con
  | [.row _ ⟨66, .pair (.int .i64) (.int .i64), l, _⟩] => some ⟨[LML l], .a (.s (spText l)), [], []⟩
  | _ => none
section
variable {G : Nat → World → Prop}
set_option maxHeartbeats 4000000 in
set_option maxRecDepth 20000 in
theorem okIText (hS : Hyp G) : ConOK Tryz.prog G 17 cIText := by
  refine seat_con hS.seat [(34, cIPrint), (22, cJoin)] [] ⟨okIPrint hS, okJoin hS, trivial⟩ Tryz.func17 rfl rfl rfl ?_
  intro rvs cr hcr hpre
  unfold cIText at hcr
  split at hcr
  · rename_i id l ow
    cases hcr
    simp only [List.mem_cons, List.not_mem_nil, or_false, forall_eq_or_imp, forall_eq] at hpre
    refine ⟨⟨rfl, rfl, rfl⟩, fun c hc vs => ?_⟩
    have hl := hpre.le
    repeat' (first | exact Bool.noConfusion ‹(!true) = true› | exact Bool.noConfusion ‹(!false) = false› | (intro h; exact h) | (intro h; rw [h]; rfl) | (intro h1 h2; rw [h1, h2]; rfl) | (intro _; assumption) | (intro _; exact rfl) | (intro h; exact Bool.noConfusion (h.symm.trans ‹_ = false›)) | refine ⟨fun _ => ?_, fun _ => ?_⟩ | refine ⟨?_⟩ | refine ⟨?_, ?_⟩ | fail)
    all_goals first | exact rfl | skip
    refine Tr_nilTmp 9 .str 3 rfl (by decide) ?_
    refine Tr_loopH (α := Nat) (fun i => [(3, .row 1), (9, .i .i64 (.ofNat i))]) (fun _ => []) (fun i => [(1, some ⟨9, .str, (l.take i).map prM, true⟩)]) (fun i => i ≤ l.length ∧ ∀ j, j < i → strEq (prM (l.getD j (0, 0))) ⟨#[]⟩ = false) (fun i => l.length - i) 0 ⟨Nat.zero_le _, fun j hj => by omega⟩ (by (refine ⟨?_, rfl, ?_, ?_, ?_, rfl⟩ <;> repeat' (first | exact trivial | (refine ⟨rfl, ?_⟩) | fail))) ?_
    rintro i ⟨hi, hq⟩
    have hm : ((l.take i).map prM).length ≤ 100000 := by rw [List.length_map]; exact Nat.le_trans (List.length_take_le' _ _) (by omega)
    refine vs.go rfl ?_
    repeat' (first | exact Bool.noConfusion ‹(!true) = true› | exact Bool.noConfusion ‹(!false) = false› | (intro h; exact h) | (intro h; rw [h]; rfl) | (intro h1 h2; rw [h1, h2]; rfl) | (intro _; assumption) | (intro _; exact rfl) | (intro h; exact Bool.noConfusion (h.symm.trans ‹_ = false›)) | refine ⟨fun _ => ?_, fun _ => ?_⟩ | refine ⟨?_⟩ | refine ⟨?_, ?_⟩ | fail)
    all_goals first | exact trivial | (refine (?_ : (_ : Int) ≠ _); decide) | exact rfl | skip
    all_goals try dsimp only at *
    · rename_i h1; have := ltN h1; show (i : Int) < (l.length : Int); omega
    · rename_i h1 h2; exact chk_s (text_bad (ltN h1) h2).symm
    · show ((l.take i).map prM).length + 1 ≤ 4000000000; omega
    · show (((l.take i).map prM).length + 1) * 16 ≤ 140737488355328; omega
    · rename_i h1 h2
      have hlt := ltN h1
      refine Again.mk (i + 1) ⟨by omega, fun j hj => ?_⟩ (by omega) ?_
      · by_cases hji : j = i
        · subst hji; exact h2
        · exact hq j (by omega)
      · rw [take_map_next prM (0, 0) hlt, wrapN (by omega)]
        (refine ⟨?_, rfl, ?_, ?_, ?_, rfl⟩ <;> repeat' (first | exact trivial | (refine ⟨rfl, ?_⟩) | fail))
    · exact text_lj (l := l.take i) (Nat.le_trans (List.length_take_le' _ _) hl)
    · rename_i h1
      have hil : i = l.length := by have := geN h1; omega
      subst hil
      refine chk_s ?_
      rw [List.take_length]
      exact (text_ok hq).symm
  · cases hcr
end
end Go.X

namespace Go.X
open Go Go.Proofs Go.RowKit

structure PW (ms : List (Int × Int)) (o : Bool) : Prop where
  ln : ms.length ≤ 4096
  u : True
  v : True
noncomputable def cITextV : Con
  | [.row _ ⟨66, .pair (.int .i64) (.int .i64), l, _⟩] => some ⟨[LML l], .a (.s (veil (spText l))), [], []⟩
  | _ => none
noncomputable def cPrintV : Con
  | [.agg [.a (.s p), .a (.i .i64 side), .a (.i .i64 clock), .a (.i .i64 full)]] => some ⟨[], .tup [.a (.s (veil (printP (p, side, clock, full))).1), .a (.i .i64 (veil (printP (p, side, clock, full))).2)], [], []⟩
  | _ => none
theorem itextV : cITextV = cIText := by
  funext l; unfold cITextV cIText; split <;> simp only [veil_eq]
theorem printV : cPrintV = cPrint4 := by
  funext l; unfold cPrintV cPrint4; split <;> simp only [veil_eq]
noncomputable def cItoaW : Con
  | [.a (.i .i64 n)] => some ⟨[I64 n], .a (.s (veil (itoaB n))), [], []⟩
  | _ => none
theorem itoaW : cItoaW = cItoaS := by
  funext l; unfold cItoaW cItoaS; split <;> simp only [veil_eq]
def cPrint23 : Con
  | [.agg [.a (.i .i64 k), .a (.s p), .a (.i .i64 sd), .a (.i .i64 cl), .a (.i .i64 fu), .row _ ⟨66, .pair (.int .i64) (.int .i64), l, o⟩, .a (.i .i64 d)]] =>
    some ⟨[PW l o], .a (.s (printC (k, (p, sd, cl, fu), l, d))), [], []⟩
  | _ => none
theorem pe_cases {x : MapEntry} (h : x ∈ plainEs.toList) : x = ⟨.string tUcci, .int .i64 1, 0⟩ ∨ x = ⟨.string tReady, .int .i64 2, 1⟩ ∨ x = ⟨.string tProbe, .int .i64 6, 2⟩ ∨ x = ⟨.string tStop, .int .i64 7, 3⟩ ∨ x = ⟨.string tQuit, .int .i64 8, 4⟩ := by
  simpa [plainEs] using h
theorem pe_old : ∀ x ∈ plainEs.toList, x.born < 5 := fun x h => by
  rcases pe_cases h with rfl | rfl | rfl | rfl | rfl <;> decide
theorem pe_kv : ∀ x ∈ plainEs.toList, ∃ s n, x.key = .string s ∧ x.val = .int .i64 n := fun x h => by
  rcases pe_cases h with rfl | rfl | rfl | rfl | rfl <;> exact ⟨_, _, rfl, rfl⟩
theorem pe_nd : (plainEs.toList.map (·.born)).Nodup := by decide
theorem pe_born {x y : MapEntry} (hx : x ∈ plainEs.toList) (hy : y ∈ plainEs.toList) (h : x.born = y.born) : x.val = y.val := by
  rcases pe_cases hx with rfl | rfl | rfl | rfl | rfl <;> rcases pe_cases hy with rfl | rfl | rfl | rfl | rfl <;> first | rfl | exact absurd h (by decide)
theorem pe_word {x : MapEntry} (hx : x ∈ plainEs.toList) {s : ByteArray} {n : Int} (h1 : x.key = .string s) (h2 : x.val = .int .i64 n) : plainW n = s := by
  rcases pe_cases hx with rfl | rfl | rfl | rfl | rfl <;> (cases h1; cases h2; rfl)
theorem pe_none {k : Int} (h : ∀ e ∈ plainEs.toList, e.val ≠ .int .i64 k) : plainW k = ByteArray.empty := by
  have hm : ∀ n : Int, (∃ e ∈ plainEs.toList, e.val = .int .i64 n) → n ≠ k := fun n ⟨e, he, hv⟩ hk => h e he (hk ▸ hv)
  exact plainW_no (hm 1 ⟨⟨.string tUcci, .int .i64 1, 0⟩, by simp [plainEs], rfl⟩) (hm 2 ⟨⟨.string tReady, .int .i64 2, 1⟩, by simp [plainEs], rfl⟩) (hm 6 ⟨⟨.string tProbe, .int .i64 6, 2⟩, by simp [plainEs], rfl⟩) (hm 7 ⟨⟨.string tStop, .int .i64 7, 3⟩, by simp [plainEs], rfl⟩) (hm 8 ⟨⟨.string tQuit, .int .i64 8, 4⟩, by simp [plainEs], rfl⟩)
def SeenOK (k : Int) (seen : List AV) : Prop := ∀ e ∈ plainEs.toList, (seenOf seen).contains e.born = true → e.val ≠ .int .i64 k
theorem seen_nil (k : Int) : SeenOK k [] := fun e _ h => by simp [seenOf] at h
theorem seen_next {k n : Int} {seen : List AV} {x : MapEntry} (h : SeenOK k seen) (hx : x ∈ plainEs.toList) (hv : x.val = .int .i64 n) (hn : (n == k) = false) : SeenOK k (seen ++ [.i .i64 (x.born : Int)]) := by
  intro e he hs hk
  rw [seenOf_push] at hs
  rw [Array.contains_push, Bool.or_eq_true, beq_iff_eq] at hs
  rcases hs with hs | hs
  · exact h e he hs hk
  · have := pe_born he hx hs
    rw [hk, hv] at this
    cases this
    exact beqF hn rfl
theorem seen_all {k : Int} {seen : List AV} (h : SeenOK k seen) (h0 : (leftOf plainEs (seenOf seen)).size = 0) : plainW k = ByteArray.empty := by
  refine pe_none fun e he => h e he ?_
  cases hc : (seenOf seen).contains e.born with
  | true => rfl
  | false =>
    have := left_mem.2 ⟨he, hc⟩
    rw [← Array.length_toList, List.length_eq_zero_iff] at h0
    rw [h0] at this; cases this
section
variable {G : Nat → World → Prop}
theorem okITextV (hS : Hyp G) : ConOK Tryz.prog G 17 cITextV := by rw [itextV]; exact okIText hS
theorem okPrintV (hS : Hyp G) : ConOK Tryz.prog G 19 cPrintV := by rw [printV]; exact okPrint4 hS
theorem okItoaW (hS : Hyp G) : ConOK Tryz.prog G 18 cItoaW := by rw [itoaW]; exact okItoaS hS
set_option maxHeartbeats 4000000 in
set_option maxRecDepth 20000 in
theorem okPrint23 (hS : Hyp G) : ConOK Tryz.prog G 9 cPrint23 := by
  refine seat_conT hS.seat [(17, cITextV), (19, cPrintV), (18, cItoaW), (20, cStart), (22, cJoinS)] [] ⟨okITextV hS, okPrintV hS, okItoaW hS, okStart hS, okJoinS hS, trivial⟩ Tryz.func9 rfl rfl ?_
  intro rvs cr hcr hpre
  unfold cPrint23 at hcr
  split at hcr
  · rename_i k p sd cl fu id l ow d
    cases hcr
    simp only [List.mem_cons, List.not_mem_nil, or_false, forall_eq_or_imp, forall_eq] at hpre
    refine ⟨⟨rfl, rfl, rfl⟩, fun c hc vs => ?_⟩
    have hl := hpre.ln
    obtain ⟨S, hS'⟩ : ∃ x, printC (k, (p, sd, cl, fu), l, d) = x := ⟨_, rfl⟩
    obtain ⟨F, hF⟩ : ∃ x, printP (p, sd, cl, fu) = x := ⟨_, rfl⟩
    obtain ⟨t, ht⟩ : ∃ x, spText l = x := ⟨_, rfl⟩
    obtain ⟨n, hn⟩ : ∃ x, itoaB d = x := ⟨_, rfl⟩
    have hW : WriteC k (p, sd, cl, fu) l d F.1 F.2 S t := writeC_of hF ht hS'
    have hg2 : k = 5 → (decide (d < 1) || decide (d > 64)) = false → S = joinS [tGo, tDepth, n] ⟨#[32]⟩ := fun a b => hn ▸ hW.g2 a b
    have hFz : F.1.size ≤ 100000 := by have := printP_size (p, sd, cl, fu); rw [hF] at this; omega
    have htz : t.size ≤ 100000 := by have := spText_size l; rw [ht] at this; omega
    have hnz : (decide (d < 1) || decide (d > 64)) = false → n.size ≤ 100000 := fun h => by
      rw [Bool.or_eq_false_iff, decide_eq_false_iff_not, decide_eq_false_iff_not] at h
      have := (go_num (d := d) (by omega) (by omega)).2.2
      rw [hn] at this; omega
    have hd : (decide (d < 1) || decide (d > 64)) = false → I64 d := fun h => by
      rw [Bool.or_eq_false_iff, decide_eq_false_iff_not, decide_eq_false_iff_not] at h
      exact ⟨by omega, by omega, trivial⟩
    have hp1 : EK.eqb (.pair .str (.pair (.int .i64) (.pair (.int .i64) (.int .i64)))) (p, sd, cl, fu) startC = true → (p, sd, cl, fu) = startC := fun h => (pos_eqb _ _).1 h
    have hp0 : EK.eqb (.pair .str (.pair (.int .i64) (.pair (.int .i64) (.int .i64)))) (p, sd, cl, fu) startC = false → (p, sd, cl, fu) ≠ startC := fun h e => by
      rw [(pos_eqb _ _).2 e] at h; exact Bool.noConfusion h
    have hll : LML l := ⟨hl, trivial, trivial⟩
    rw [hS']
    clear hS'
    refine tr_ghost plainEs 5 rfl ?_
    have vs := vs.kin (ghCtx_kin c plainEs 5)
    refine vs.go rfl ?_
    repeat' (first | exact Bool.noConfusion ‹(!true) = true› | exact Bool.noConfusion ‹(!false) = false› | (intro h; exact h) | (intro h; rw [h]; rfl) | (intro h1 h2; rw [h1, h2]; rfl) | (intro _; assumption) | (intro _; exact rfl) | (intro h; exact Bool.noConfusion (h.symm.trans ‹_ = false›)) | refine ⟨fun _ => ?_, fun _ => ?_⟩ | refine ⟨?_⟩ | refine ⟨?_, ?_⟩ | fail)
    rotate_right
    · have h5 := beqF ‹(k == 5) = false›
      have h3 := beqF ‹(k == 3) = false›
      have h4 := beqF ‹(k == 4) = false›
      have hS0 : S = plainW k := hW.o h5 h3 h4
      refine trOps_none rfl (tr_gmap plain_law rfl rfl Tryz.func21 rfl rfl (fun b => ?_))
      refine vs.on ?_
      repeat' (first | exact Bool.noConfusion ‹(!true) = true› | exact Bool.noConfusion ‹(!false) = false› | (intro h; exact h) | (intro h; rw [h]; rfl) | (intro h1 h2; rw [h1, h2]; rfl) | (intro _; assumption) | (intro _; exact rfl) | (intro h; exact Bool.noConfusion (h.symm.trans ‹_ = false›)) | refine ⟨fun _ => ?_, fun _ => ?_⟩ | refine ⟨?_⟩ | refine ⟨?_, ?_⟩ | fail)
      refine trOps_none rfl (tr_grange Tryz.underlying47 rfl rfl rfl (fun i => ?_))
      refine vs.on ?_
      repeat' (first | exact Bool.noConfusion ‹(!true) = true› | exact Bool.noConfusion ‹(!false) = false› | (intro h; exact h) | (intro h; rw [h]; rfl) | (intro h1 h2; rw [h1, h2]; rfl) | (intro _; assumption) | (intro _; exact rfl) | (intro h; exact Bool.noConfusion (h.symm.trans ‹_ = false›)) | refine ⟨fun _ => ?_, fun _ => ?_⟩ | refine ⟨?_⟩ | refine ⟨?_, ?_⟩ | fail)
      refine Tr_nilTmp 9 .str 5 rfl (by decide) ?_
      refine Tr_loopY (α := List AV) (fun _ => []) (fun _ => []) (fun _ => []) (fun seen => [[.mp b, .pt i], seen]) (SeenOK k) (fun seen => (leftOf plainEs (seenOf seen)).size) [] (seen_nil k) (by (refine ⟨?_, rfl, ?_, ?_, ?_, rfl⟩ <;> repeat' (first | exact trivial | (refine ⟨rfl, ?_⟩) | fail))) ?_
      intro seen hq
      refine vs.go rfl ?_
      repeat' (first | exact Bool.noConfusion ‹(!true) = true› | exact Bool.noConfusion ‹(!false) = false› | (intro h; exact h) | (intro h; rw [h]; rfl) | (intro h1 h2; rw [h1, h2]; rfl) | (intro _; assumption) | (intro _; exact rfl) | (intro h; exact Bool.noConfusion (h.symm.trans ‹_ = false›)) | refine ⟨fun _ => ?_, fun _ => ?_⟩ | refine ⟨?_⟩ | refine ⟨?_, ?_⟩ | fail)
      refine trOps_none rfl (tr_gnext pe_old pe_kv rfl rfl rfl (fun h0 => ?_) (fun x w m hx hkx hvx => ?_))
      · have hSe := hS0.trans (seen_all hq h0)
        refine vs.on ?_
        repeat' (first | exact Bool.noConfusion ‹(!true) = true› | exact Bool.noConfusion ‹(!false) = false› | (intro h; exact h) | (intro h; rw [h]; rfl) | (intro h1 h2; rw [h1, h2]; rfl) | (intro _; assumption) | (intro _; exact rfl) | (intro h; exact Bool.noConfusion (h.symm.trans ‹_ = false›)) | refine ⟨fun _ => ?_, fun _ => ?_⟩ | refine ⟨?_⟩ | refine ⟨?_, ?_⟩ | fail)
        · exact lj_of (L := []) (Nat.zero_le _) (fun x hx => by cases hx)
        · exact chk_s hSe.symm
        · exact rfl
      · refine vs.on ?_
        repeat' (first | exact Bool.noConfusion ‹(!true) = true› | exact Bool.noConfusion ‹(!false) = false› | (intro h; exact h) | (intro h; rw [h]; rfl) | (intro h1 h2; rw [h1, h2]; rfl) | (intro _; assumption) | (intro _; exact rfl) | (intro h; exact Bool.noConfusion (h.symm.trans ‹_ = false›)) | refine ⟨fun _ => ?_, fun _ => ?_⟩ | refine ⟨?_⟩ | refine ⟨?_, ?_⟩ | fail)
        have hmem := (left_mem.1 hx).1
        refine trOps_none rfl (tr_gentry hmem pe_nd hkx hvx rfl rfl rfl ?_)
        refine vs.on ?_
        repeat' (first | exact Bool.noConfusion ‹(!true) = true› | exact Bool.noConfusion ‹(!false) = false› | (intro h; exact h) | (intro h; rw [h]; rfl) | (intro h1 h2; rw [h1, h2]; rfl) | (intro _; assumption) | (intro _; exact rfl) | (intro h; exact Bool.noConfusion (h.symm.trans ‹_ = false›)) | refine ⟨fun _ => ?_, fun _ => ?_⟩ | refine ⟨?_⟩ | refine ⟨?_, ?_⟩ | fail)
        · have hmk := beqT ‹(m == k) = true›
          exact chk_s ((pe_word hmem hkx hvx).symm.trans (hmk ▸ hS0.symm))
        · exact rfl
        have hmk : (m == k) = false := by assumption
        have hn1 := seen_next hq hmem hvx hmk
        have hn2 := left_less hx
        refine (?_ : Again (SeenOK k) (fun seen => (leftOf plainEs (seenOf seen)).size) seen _ _)
        refine Again.mk _ hn1 hn2 ?_
        (refine ⟨?_, rfl, ?_, ?_, ?_, rfl⟩ <;> repeat' (first | exact trivial | (refine ⟨rfl, ?_⟩) | fail))
    all_goals (try simp only [veil_eq, hF, ht, hn] at *)
    all_goals first
      | exact trivial
      | exact rfl
      | exact hll
      | exact hd ‹_›
      | exact Nat.le_of_ble_eq_true rfl
      | (refine lj_of (Nat.le_of_ble_eq_true rfl) ?_
         simp only [List.forall_mem_append, List.forall_mem_cons]
         repeat' (first | exact htz | exact hFz | exact hnz ‹_› | exact Nat.le_of_ble_eq_true rfl | (intro x hx; cases hx; done) | refine ⟨?_, ?_⟩))
      | (first
          | (have e := hW.g1 (beqT ‹(k == 5) = true›) ‹_›; subst e)
          | (have e := hg2 (beqT ‹(k == 5) = true›) ‹_›; subst e)
          | (have e := hW.s1 (beqT ‹(k == 3) = true›) ‹_›; subst e)
          | (have e := hW.s2 (beqT ‹(k == 3) = true›) ‹_› (hp1 ‹_›) ‹_›; subst e)
          | (have e := hW.s3 (beqT ‹(k == 3) = true›) ‹_› (hp1 ‹_›) ‹_›; subst e)
          | (have e := hW.s4 (beqT ‹(k == 3) = true›) ‹_› (hp0 ‹_›) ‹_›; subst e)
          | (have e := hW.s5 (beqT ‹(k == 3) = true›) ‹_› (hp0 ‹_›) ‹_›; subst e)
          | (have e := hW.b1 (beqT ‹(k == 4) = true›) ‹_›; subst e)
          | (have e := hW.b2 (beqT ‹(k == 4) = true›) ‹_› ‹_›; subst e)
          | (have e := hW.b3 (beqT ‹(k == 4) = true›) ‹_› ‹_›; subst e)
         first | exact chk_s rfl | exact rfl)
      | skip
  · cases hcr
end
end Go.X

namespace Go.X
open Go Go.Proofs Go.RowKit

noncomputable def cParse23V : Con
  | [.a (.s s)] => some ⟨[PZ1 s], .tup [aggC (veil (parseC s)).1, .a (.i .i64 (veil (parseC s)).2)], [], []⟩
  | _ => none
noncomputable def cPrint23V : Con
  | [.agg [.a (.i .i64 k), .a (.s p), .a (.i .i64 sd), .a (.i .i64 cl), .a (.i .i64 fu), .row _ ⟨66, .pair (.int .i64) (.int .i64), l, o⟩, .a (.i .i64 d)]] =>
    some ⟨[PW l o], .a (.s (veil (printC (k, (p, sd, cl, fu), l, d)))), [], []⟩
  | _ => none
theorem parse23V : cParse23V = cParse23 := by
  funext l; unfold cParse23V cParse23; split <;> simp only [veil_eq]
theorem print23V : cPrint23V = cPrint23 := by
  funext l; unfold cPrint23V cPrint23; split <;> simp only [veil_eq]
def cLive23 : Con
  | [] => some ⟨[Lv], .a (.b true), [], []⟩
  | _ => none
section
variable {G : Nat → World → Prop}
theorem okParse23V (hS : Hyp G) : ConOK Tryz.prog G 12 cParse23V := by rw [parse23V]; exact okParse23 hS
theorem okPrint23V (hS : Hyp G) : ConOK Tryz.prog G 9 cPrint23V := by rw [print23V]; exact okPrint23 hS
set_option maxHeartbeats 4000000 in
set_option maxRecDepth 20000 in
theorem okLive23 (hS : Hyp G) : ConOK Tryz.prog G 8 cLive23 := by
  refine seat_conT hS.seat [(12, cParse23V), (9, cPrint23V), (15, cWordsV)] [] ⟨okParse23V hS, okPrint23V hS, okWordsV hS, trivial⟩ Tryz.func8 rfl rfl ?_
  intro rvs cr hcr hpre
  unfold cLive23 at hcr
  split at hcr
  · cases hcr
    simp only [List.mem_cons, List.not_mem_nil, or_false, forall_eq_or_imp, forall_eq] at hpre
    refine ⟨⟨rfl, rfl, rfl⟩, fun c hc vs => ?_⟩
    have ha := hpre.a
    have hb := hpre.b
    have hc2 := hpre.c
    have hd := hpre.d
    have he := hpre.e
    have hf : printC (3, (startC.1, startC.2.1, startC.2.2.1, startC.2.2.2), [(25, 22)], 0) = tL6 := hpre.f
    have hg := hpre.g
    unfold tL1 at ha
    unfold tL2 at hb
    unfold tL3 at hc2
    unfold tL4 at hd
    unfold tL5 at he
    unfold tL7 at hg
    refine vs.go rfl ?_
    repeat' (first | exact Bool.noConfusion ‹(!true) = true› | exact Bool.noConfusion ‹(!false) = false› | (intro h; exact h) | (intro h; rw [h]; rfl) | (intro h1 h2; rw [h1, h2]; rfl) | (intro _; assumption) | (intro _; exact rfl) | (intro h; exact Bool.noConfusion (h.symm.trans ‹_ = false›)) | refine ⟨fun _ => ?_, fun _ => ?_⟩ | refine ⟨?_⟩ | refine ⟨?_, ?_⟩ | fail)
    all_goals first
      | exact ⟨Nat.le_of_ble_eq_true rfl, trivial, trivial⟩
      | (intro _; refine ⟨?_, trivial, trivial⟩; show (veil (parseC _)).1.2.2.1.length ≤ _; rw [veil_eq, ha]; decide)
      | skip
    all_goals (try dsimp only at *)
    all_goals (try simp only [veil_eq, ha, hb, hc2, hd, he, hf, hg] at *)
    all_goals trace_state
    all_goals first
      | exact rfl
      | exact chk_b (by decide +kernel)
      | exact absurd ‹_ = false› (by decide +kernel)
  · cases hcr
end
end Go.X

namespace Go.X
open Go Go.Proofs Go.RowKit

theorem seat_ok (g : Nat → World → Prop) (hg : ∀ (c : Ctx), g c.g0 c.w0 → ∀ w, Frame c w → g c.g0 w) : Seat Tryz.prog g TT := ⟨tt_ok, by kernel_rfl, hg⟩
def GG (g0 : Nat) (w : World) : Prop := 9 ≤ g0 ∧ TabAt (Tryz.laysT29_ren.g 1) Lib.deBruijn64tab w ∧ Globs w
theorem g_lt : Tryz.laysT29_ren.g 1 < 9 := by decide +kernel
theorem gg_keep (c : Ctx) (h : GG c.g0 c.w0) (w : World) (hf : Frame c w) : GG c.g0 w := by
  have hb : ∀ k, k < 9 → w.heap[k]? = c.w0.heap[k]? := fun k hk => by
    have hlt : k < c.base := Nat.lt_of_lt_of_le (Nat.lt_of_lt_of_le hk h.1) c.g0_le
    exact hf.block _ hlt (fun hw => absurd (c.wr_ge _ hw) (Nat.not_le.2 (Nat.lt_of_lt_of_le hk h.1)))
  refine ⟨h.1, fun j hj => ?_, h.2.2.same hb⟩
  have h1 := h.2.1 j hj
  unfold World.cell? at h1 ⊢
  dsimp only at h1 ⊢
  rw [hb _ g_lt]; exact h1
theorem hyp : Hyp GG := ⟨seat_ok GG gg_keep, fun _ _ h => h.2.1, fun _ _ h => h.2.2⟩
theorem law_calls {f : FuncId} {con : Con} {w : World} {avs : List AV} {rvs : List RV} {pre : List Prop} {vals : List Value} (hC : ConOK Tryz.prog GG f con) (hs : 9 ≤ w.heap.size) (hT : TabAt (Tryz.laysT29_ren.g 1) Lib.deBruijn64tab w) (hg : Globs w)
    (hres : allRes (resolve st0) avs = some rvs) (hR : RL st0 e0 avs vals) (hcr : con rvs = some ⟨pre, .a (.b true), [], []⟩) (hpre : ∀ p ∈ pre, p) :
    Calls Tryz.prog f vals.toArray w fun en w' => en = .returned (.bool true) ∧ Below w.heap.size w w' := by
  refine (con_calls hC (g0 := 9) hs ⟨Nat.le_refl _, hT, hg⟩ hres hR hcr hpre).mono ?_
  rintro en w' ⟨v, e', rfl, h1, h2⟩
  refine ⟨?_, top_below h1.frame⟩
  simp only [RT.inst, R] at h2
  rw [h2]
end Go.X

namespace Go.X
open Go Go.Proofs

def cSame23 : Con
  | [.agg [.a (.i .i64 k), .a (.s p), .a (.i .i64 sd), .a (.i .i64 cl), .a (.i .i64 fu), .row _ ⟨66, .pair (.int .i64) (.int .i64), l, _⟩, .a (.i .i64 d)],
     .agg [.a (.i .i64 k'), .a (.s p'), .a (.i .i64 sd'), .a (.i .i64 cl'), .a (.i .i64 fu'), .row _ ⟨66, .pair (.int .i64) (.int .i64), l', _⟩, .a (.i .i64 d')]] =>
    some ⟨[LL l l'], .a (.b (sameC (k, (p, sd, cl, fu), l, d) (k', (p', sd', cl', fu'), l', d'))), [], []⟩
  | [.agg [.a (.i .i64 k), .a (.s p), .a (.i .i64 sd), .a (.i .i64 cl), .a (.i .i64 fu), .row _ ⟨66, .pair (.int .i64) (.int .i64), l, _⟩, .a (.i .i64 d)],
     .agg [.a (.i .i64 k'), .a (.s p'), .a (.i .i64 sd'), .a (.i .i64 cl'), .a (.i .i64 fu'), .a .nils, .a (.i .i64 d')]] =>
    some ⟨[LL l []], .a (.b (sameC (k, (p, sd, cl, fu), l, d) (k', (p', sd', cl', fu'), [], d'))), [], []⟩
  | _ => none
noncomputable def cSame23V : Con
  | [.agg [.a (.i .i64 k), .a (.s p), .a (.i .i64 sd), .a (.i .i64 cl), .a (.i .i64 fu), .row _ ⟨66, .pair (.int .i64) (.int .i64), l, _⟩, .a (.i .i64 d)],
     .agg [.a (.i .i64 k'), .a (.s p'), .a (.i .i64 sd'), .a (.i .i64 cl'), .a (.i .i64 fu'), .row _ ⟨66, .pair (.int .i64) (.int .i64), l', _⟩, .a (.i .i64 d')]] =>
    some ⟨[LL l l'], .a (.b (veil (sameC (k, (p, sd, cl, fu), l, d) (k', (p', sd', cl', fu'), l', d')))), [], []⟩
  | [.agg [.a (.i .i64 k), .a (.s p), .a (.i .i64 sd), .a (.i .i64 cl), .a (.i .i64 fu), .row _ ⟨66, .pair (.int .i64) (.int .i64), l, _⟩, .a (.i .i64 d)],
     .agg [.a (.i .i64 k'), .a (.s p'), .a (.i .i64 sd'), .a (.i .i64 cl'), .a (.i .i64 fu'), .a .nils, .a (.i .i64 d')]] =>
    some ⟨[LL l []], .a (.b (veil (sameC (k, (p, sd, cl, fu), l, d) (k', (p', sd', cl', fu'), [], d')))), [], []⟩
  | _ => none
theorem same23V : cSame23V = cSame23 := by
  funext l; unfold cSame23V cSame23; split <;> simp only [veil_eq]
section
variable {G : Nat → World → Prop}
set_option maxHeartbeats 4000000 in
set_option maxRecDepth 20000 in
theorem okSame23 (hS : Hyp G) : ConOK Tryz.prog G 13 cSame23 := by
  refine seat_con hS.seat [(30, cSame)] [] ⟨okSame hS, trivial⟩ Tryz.func13 rfl rfl rfl ?_
  intro rvs cr hcr hpre
  unfold cSame23 at hcr
  split at hcr
  · cases hcr
    simp only [List.mem_cons, List.not_mem_nil, or_false, forall_eq_or_imp, forall_eq] at hpre
    refine ⟨⟨rfl, rfl, rfl⟩, fun c hc vs => ?_⟩
    have hl := hpre.l
    have hm := hpre.m
    repeat' (first | exact Bool.noConfusion ‹(!true) = true› | exact Bool.noConfusion ‹(!false) = false› | (intro h; exact h) | (intro h; rw [h]; rfl) | (intro h1 h2; rw [h1, h2]; rfl) | (intro _; assumption) | (intro _; exact rfl) | (intro h; exact Bool.noConfusion (h.symm.trans ‹_ = false›)) | refine ⟨fun _ => ?_, fun _ => ?_⟩ | refine ⟨?_⟩ | refine ⟨?_, ?_⟩ | fail)
    all_goals first | exact trivial | (refine (?_ : (_ : Int) ≠ _); decide) | exact rfl | skip
    all_goals try dsimp only at *
  · cases hcr
    simp only [List.mem_cons, List.not_mem_nil, or_false, forall_eq_or_imp, forall_eq] at hpre
    refine ⟨⟨rfl, rfl, rfl⟩, fun c hc vs => ?_⟩
    have hl := hpre.l
    have hm := hpre.m
    repeat' (first | exact Bool.noConfusion ‹(!true) = true› | exact Bool.noConfusion ‹(!false) = false› | (intro h; exact h) | (intro h; rw [h]; rfl) | (intro h1 h2; rw [h1, h2]; rfl) | (intro _; assumption) | (intro _; exact rfl) | (intro h; exact Bool.noConfusion (h.symm.trans ‹_ = false›)) | refine ⟨fun _ => ?_, fun _ => ?_⟩ | refine ⟨?_⟩ | refine ⟨?_, ?_⟩ | fail)
    all_goals first | exact trivial | (refine (?_ : (_ : Int) ≠ _); decide) | exact rfl | skip
    all_goals try dsimp only at *
  · cases hcr
theorem okSame23V (hS : Hyp G) : ConOK Tryz.prog G 13 cSame23V := by rw [same23V]; exact okSame23 hS
end
end Go.X

namespace Go.X
open Go Go.Proofs

def cDigK (k : Nat) : Con
  | [.a (.i .i64 n)] => some ⟨[DG k n], .a (.s (bytesOf (digL n))), [], []⟩
  | _ => none
def cDig4 : Con := cDigK 4
def cRow4 : Con
  | [.a (.s b), .a (.i .i64 r)] => some ⟨[RW b r], .a (.s (bytesOf (rk (bytesL b) r.toNat))), [], []⟩
  | _ => none
section
variable {G : Nat → World → Prop}
set_option maxHeartbeats 4000000 in
set_option maxRecDepth 20000 in
theorem okDigK (hS : Hyp G) : ∀ k, ConOK Tryz.prog G 24 (cDigK k)
  | 0 => by
    refine seat_con hS.seat [] [] trivial Tryz.func24 rfl rfl rfl ?_
    intro rvs cr hcr hpre
    unfold cDigK at hcr
    split at hcr
    · cases hcr
      simp only [List.mem_cons, List.not_mem_nil, or_false, forall_eq_or_imp, forall_eq] at hpre
      exact absurd hpre.pos.1 (Nat.lt_irrefl 0)
    · cases hcr
  | k + 1 => by
    refine seat_con hS.seat [(24, cDigK k)] [] ⟨okDigK hS k, trivial⟩ Tryz.func24 rfl rfl rfl ?_
    intro rvs cr hcr hpre
    unfold cDigK at hcr
    split at hcr
    · rename_i n
      cases hcr
      simp only [List.mem_cons, List.not_mem_nil, or_false, forall_eq_or_imp, forall_eq] at hpre
      refine ⟨⟨rfl, rfl, rfl⟩, fun c hc vs => ?_⟩
      have h0 := hpre.lo
      have h9 := hpre.pos.2
      repeat' (first | exact Bool.noConfusion ‹(!true) = true› | exact Bool.noConfusion ‹(!false) = false› | (intro h; exact h) | (intro h; rw [h]; rfl) | (intro h1 h2; rw [h1, h2]; rfl) | (intro _; assumption) | (intro _; exact rfl) | (intro h; exact Bool.noConfusion (h.symm.trans ‹_ = false›)) | refine ⟨fun _ => ?_, fun _ => ?_⟩ | refine ⟨?_⟩ | refine ⟨?_, ?_⟩ | fail)
      all_goals first | exact trivial | (refine (?_ : (_ : Int) ≠ _); decide) | exact rfl | skip
      all_goals try dsimp only at *
      all_goals first | exact trivial | exact rfl | exact (by decide : (10 : Int) ≠ 0) | skip
      all_goals try simp only [dig_byte h0 h9] at *
      · have h10 : n ≥ 10 := of_decide_eq_true ‹decide (n ≥ 10) = true›
        have hd : Int.tdiv n 10 = n / 10 := Int.tdiv_eq_ediv_of_nonneg h0
        rw [wrap64 (by omega) (by omega)]
        exact hpre.next h10
      · have h10 : n ≥ 10 := of_decide_eq_true ‹decide (n ≥ 10) = true›
        have hd : Int.tdiv n 10 = n / 10 := Int.tdiv_eq_ediv_of_nonneg h0
        rw [wrap64 (by omega) (by omega), size_bytesOf, hd]
        have := dig_len (n := n / 10) (by omega) (by omega)
        show (_ : Nat) + 1 ≤ _
        omega
      · have h10 : n ≥ 10 := of_decide_eq_true ‹decide (n ≥ 10) = true›
        have hd : Int.tdiv n 10 = n / 10 := Int.tdiv_eq_ediv_of_nonneg h0
        rw [wrap64 (by omega) (by omega)]
        exact chk_s (dig_step h10)
      · have h10 : ¬ n ≥ 10 := of_decide_eq_false ‹decide (n ≥ 10) = false›
        refine chk_s ?_
        rw [dig_one h0 (by omega), Int.emod_eq_of_lt h0 (by omega)]
    · cases hcr
theorem okDig4 (hS : Hyp G) : ConOK Tryz.prog G 24 cDig4 := okDigK hS 4
set_option maxHeartbeats 4000000 in
set_option maxRecDepth 20000 in
theorem okRow4 (hS : Hyp G) : ConOK Tryz.prog G 47 cRow4 := by
  refine seat_con hS.seat [(24, cDig4)] [] ⟨okDig4 hS, trivial⟩ Tryz.func47 rfl rfl rfl ?_
  intro rvs cr hcr hpre
  unfold cRow4 at hcr
  split at hcr
  · rename_i b r
    cases hcr
    simp only [List.mem_cons, List.not_mem_nil, or_false, forall_eq_or_imp, forall_eq] at hpre
    refine ⟨⟨rfl, rfl, rfl⟩, fun c hc vs => ?_⟩
    have hb := hpre.sz; have hr0 := hpre.lo; have hr1 := hpre.hi
    have hbl : (bytesL b).length = 90 := by rw [bL_len]; exact hb
    obtain ⟨q, rfl⟩ : ∃ q : Nat, r = (q : Int) := ⟨r.toNat, by omega⟩
    have hq9 : q ≤ 9 := by omega
    rw [Int.toNat_natCast]
    repeat' (first | exact Bool.noConfusion ‹(!true) = true› | exact Bool.noConfusion ‹(!false) = false› | (intro h; exact h) | (intro h; rw [h]; rfl) | (intro h1 h2; rw [h1, h2]; rfl) | (intro _; assumption) | (intro _; exact rfl) | (intro h; exact Bool.noConfusion (h.symm.trans ‹_ = false›)) | refine ⟨fun _ => ?_, fun _ => ?_⟩ | refine ⟨?_⟩ | refine ⟨?_, ?_⟩ | fail)
    all_goals first | exact trivial | exact rfl | skip
    refine Tr_loopH (α := Nat) (fun i => [(5, .s (bytesOf (rst (bytesL b) q i).1)), (6, .i .i64 (rst (bytesL b) q i).2), (7, .i .i64 (.ofNat i))]) (fun _ => []) (fun _ => []) (fun i => RInv (bytesL b) q i) (fun i => 9 - i) 0 (RInv.start _ _) (by rw [show rst (bytesL b) q 0 = ([], 0) by unfold rst; rw [show 9 * q + 0 = 9 * q from rfl, part_self]; rfl]; (refine ⟨?_, rfl, ?_, ?_, ?_, rfl⟩ <;> repeat' (first | exact trivial | (refine ⟨rfl, ?_⟩) | fail))) ?_
    intro i hi
    have hi9 := hi.hi; have hk0 := hi.k0; have hk1 := hi.k1; have hln := hi.len
    obtain ⟨⟨out, k⟩, hst⟩ : ∃ x, rst (bytesL b) q i = x := ⟨_, rfl⟩
    rw [hst] at hk0 hk1 hln
    rw [hst]
    dsimp only at hk0 hk1 hln
    obtain ⟨d, hd⟩ : ∃ d, byteAt b (9 * q + i) = d := ⟨_, rfl⟩
    have hgd : (bytesL b).getD (9 * q + i) 0 = d := by rw [bL_at]; exact hd
    have hw : q ≤ 9 → i < 9 → IntKind.i64.wrap (IntKind.i64.wrap (9 * (q : Int)) + Int.ofNat i) = ((9 * q + i : Nat) : Int) := fun _ hi => by
      rw [wrap64 (x := 9 * (q : Int)) (by omega) (by omega), wrap64 (by show _ ≤ _ + (i : Int); omega) (by show _ + (i : Int) ≤ _; omega)]
      show _ + (i : Int) = _; omega
    have hdg : 0 < k → DG 4 k := fun h => DG.of (by omega) (by omega)
    have hdl : 0 < k → (digL k).length ≤ 1 := fun h => by rw [dig_one (by omega) (by omega)]; exact Nat.le_refl _
    refine vs.go rfl ?_
    repeat' (first | exact Bool.noConfusion ‹(!true) = true› | exact Bool.noConfusion ‹(!false) = false› | (intro h; exact h) | (intro h; rw [h]; rfl) | (intro h1 h2; rw [h1, h2]; rfl) | (intro _; assumption) | (intro _; exact rfl) | (intro h; exact Bool.noConfusion (h.symm.trans ‹_ = false›)) | refine ⟨fun _ => ?_, fun _ => ?_⟩ | refine ⟨?_⟩ | refine ⟨?_, ?_⟩ | fail)
    all_goals first | exact trivial | (refine (?_ : (_ : Int) ≠ _); decide) | exact rfl | skip
    all_goals try dsimp only at *
    all_goals first | exact trivial | exact rfl | skip
    all_goals first | (have hlt : i < 9 := Int.ofNat_lt.1 (of_decide_eq_true ‹decide (Int.ofNat i < 9) = true›); have hn := rst_next hbl hq9 hlt; rw [hst, hgd] at hn; simp only [hw hq9 hlt, Int.toNat_natCast, hd] at *) | (have hge : ¬ (i : Int) < 9 := of_decide_eq_false ‹decide (Int.ofNat i < 9) = false›; have hi9' : i = 9 := (by omega); subst hi9')
    all_goals first | exact hdg (of_decide_eq_true ‹decide (k > 0) = true›) | (have hk := hdl (of_decide_eq_true ‹decide (k > 0) = true›); simp only [size_bytesOf, ByteArray.size_append, List.length_singleton]; omega) | (simp only [size_bytesOf, ByteArray.size_append, List.length_singleton]; omega) | skip
    · exact Int.natCast_nonneg _
    · exact Int.ofNat_lt.2 (by omega)
    · rw [step_dot (beqT ‹(d == 46) = true›)] at hn
      refine Again.mk (i + 1) (hi.next hbl hq9 hlt) (by show 9 - (i + 1) < 9 - i; omega) ?_
      rw [hn, wrap64 (x := k + 1) (by omega) (by omega), wrapN (by omega)]
      (refine ⟨?_, rfl, ?_, ?_, ?_, rfl⟩ <;> repeat' (first | exact trivial | (refine ⟨rfl, ?_⟩) | fail))
    · rw [step_gap (beqF ‹(d == 46) = false›) (of_decide_eq_true ‹decide (k > 0) = true›)] at hn
      refine Again.mk (i + 1) (hi.next hbl hq9 hlt) (by show 9 - (i + 1) < 9 - i; omega) ?_
      rw [hn, ← bytesOf_app, ← bytesOf_app, wrapN (by omega)]
      (refine ⟨?_, rfl, ?_, ?_, ?_, rfl⟩ <;> repeat' (first | exact trivial | (refine ⟨rfl, ?_⟩) | fail))
    · rw [step_no (beqF ‹(d == 46) = false›) (of_decide_eq_false ‹decide (k > 0) = false›)] at hn
      refine Again.mk (i + 1) (hi.next hbl hq9 hlt) (by show 9 - (i + 1) < 9 - i; omega) ?_
      rw [hn, ← bytesOf_app, wrapN (by omega)]
      (refine ⟨?_, rfl, ?_, ?_, ?_, rfl⟩ <;> repeat' (first | exact trivial | (refine ⟨rfl, ?_⟩) | fail))
    · rw [rk_end, hst, end_gap (of_decide_eq_true ‹decide (k > 0) = true›), bytesOf_app]; exact chk_s rfl
    · rw [rk_end, hst, end_no (of_decide_eq_false ‹decide (k > 0) = false›)]; exact chk_s rfl
  · cases hcr
end
end Go.X

namespace Go.X
open Go Go.Proofs

def cRSide : Con
  | [.a (.i .u8 c)] => some ⟨[BY c], .a (.i .i64 (spSide c)), [], []⟩
  | _ => none
def cRKind : Con
  | [.a (.i .u8 c)] => some ⟨[BY c], .a (.i .u8 (spKind c)), [], []⟩
  | _ => none
section
variable {G : Nat → World → Prop}
set_option maxHeartbeats 4000000 in
set_option maxRecDepth 20000 in
theorem okRSide (hS : Hyp G) : ConOK Tryz.prog G 109 cRSide := by
  refine seat_con hS.seat [] [] trivial Tryz.func109 rfl rfl rfl ?_
  intro rvs cr hcr hpre
  unfold cRSide at hcr
  split at hcr
  · rename_i c0
    cases hcr
    simp only [List.mem_cons, List.not_mem_nil, or_false, forall_eq_or_imp, forall_eq] at hpre
    refine ⟨⟨rfl, rfl, rfl⟩, fun c hc vs => ?_⟩
    have e := side_ite hpre
    repeat' (first | exact Bool.noConfusion ‹(!true) = true› | exact Bool.noConfusion ‹(!false) = false› | (intro h; exact h) | (intro h; rw [h]; rfl) | (intro h1 h2; rw [h1, h2]; rfl) | (intro _; assumption) | (intro _; exact rfl) | (intro h; exact Bool.noConfusion (h.symm.trans ‹_ = false›)) | refine ⟨fun _ => ?_, fun _ => ?_⟩ | refine ⟨?_⟩ | refine ⟨?_, ?_⟩ | fail)
    all_goals first | exact rfl | skip
    all_goals (refine chk_i ?_; rw [e]; simp only [beq_iff_eq, beq_eq_false_iff_ne, ne_eq] at *; first | (rw [if_pos (by omega)]; done) | (rw [if_neg (by omega), if_pos (by omega)]; done) | (rw [if_neg (by omega), if_neg (by omega)]; done) | (exfalso; omega))
  · cases hcr
set_option maxHeartbeats 4000000 in
set_option maxRecDepth 20000 in
theorem okRKind (hS : Hyp G) : ConOK Tryz.prog G 72 cRKind := by
  refine seat_con hS.seat [(109, cRSide)] [] ⟨okRSide hS, trivial⟩ Tryz.func72 rfl rfl rfl ?_
  intro rvs cr hcr hpre
  unfold cRKind at hcr
  split at hcr
  · rename_i c0
    cases hcr
    simp only [List.mem_cons, List.not_mem_nil, or_false, forall_eq_or_imp, forall_eq] at hpre
    refine ⟨⟨rfl, rfl, rfl⟩, fun c hc vs => ?_⟩
    have e := kind_ite hpre
    repeat' (first | exact Bool.noConfusion ‹(!true) = true› | exact Bool.noConfusion ‹(!false) = false› | (intro h; exact h) | (intro h; rw [h]; rfl) | (intro h1 h2; rw [h1, h2]; rfl) | (intro _; assumption) | (intro _; exact rfl) | (intro h; exact Bool.noConfusion (h.symm.trans ‹_ = false›)) | refine ⟨fun _ => ?_, fun _ => ?_⟩ | refine ⟨?_⟩ | refine ⟨?_, ?_⟩ | fail)
    all_goals first | exact hpre | skip
    all_goals first | exact rfl | skip
    · exact chk_i (by rw [e, if_pos (beqT ‹_›)])
    · rename_i h0 h1
      have := side_low hpre (beqT h1)
      exact chk_i (by rw [e, if_neg (beqF h0), if_pos (beqT h1), wrapB (x := c0 - 97) (by omega) (by omega), wrapB (by omega) (by omega)]; omega)
    · rename_i h0 h1
      exact chk_i (by rw [e, if_neg (beqF h0), if_neg (beqF h1)])
  · cases hcr
end
end Go.X

namespace Go.X
open Go Go.Proofs

def cRIs2 : Con
  | [.a (.s p)] => some ⟨[], .a (.b (spIs p)), [], []⟩
  | _ => none
def cRFile : Con
  | [.a (.i .i64 n)] => some ⟨[], .a (.i .i64 (spFile n)), [], []⟩
  | _ => none
def cRRank : Con
  | [.a (.i .i64 n)] => some ⟨[], .a (.i .i64 (spRank n)), [], []⟩
  | _ => none
def cRFind : Con
  | [.a (.s p), .a (.i .u8 c)] => some ⟨[], .row ⟨3, .int .i64, spFind p c, true⟩, [], []⟩
  | _ => none
theorem cell_bad {c : Int} : spIsCell c = false ↔ c ≠ 46 ∧ spSide c < 0 := by
  unfold spIsCell
  rw [Bool.or_eq_false_iff, beq_eq_false_iff_ne, decide_eq_false_iff_not, Int.not_le]
theorem sqs_take (f : Int → Bool) : ∀ i : Nat, ((List.range (i + 1)).map Int.ofNat).filter f = ((List.range i).map Int.ofNat).filter f ++ if f (i : Int) then [(i : Int)] else [] := by
  intro i
  rw [List.range_succ, List.map_append, List.filter_append]
  congr 1
  show ([Int.ofNat i].filter f) = _
  cases h : f (i : Int) with
  | true => rw [List.filter_cons_of_pos (show f (Int.ofNat i) = true from h)]; rfl
  | false => rw [List.filter_cons_of_neg (by rw [show f (Int.ofNat i) = false from h]; simp)]; rfl
section
variable {G : Nat → World → Prop}
set_option maxHeartbeats 4000000 in
set_option maxRecDepth 20000 in
theorem okRFile (hS : Hyp G) : ConOK Tryz.prog G 111 cRFile := by
  refine seat_con hS.seat [] [] trivial Tryz.func111 rfl rfl rfl ?_
  intro rvs cr hcr hpre
  unfold cRFile at hcr
  split at hcr
  · rename_i n
    cases hcr
    refine ⟨⟨rfl, rfl, rfl⟩, fun c hc vs => ?_⟩
    repeat' (first | exact Bool.noConfusion ‹(!true) = true› | exact Bool.noConfusion ‹(!false) = false› | (intro h; exact h) | (intro h; rw [h]; rfl) | (intro h1 h2; rw [h1, h2]; rfl) | (intro _; assumption) | (intro _; exact rfl) | (intro h; exact Bool.noConfusion (h.symm.trans ‹_ = false›)) | refine ⟨fun _ => ?_, fun _ => ?_⟩ | refine ⟨?_⟩ | refine ⟨?_, ?_⟩ | fail)
    all_goals first | exact trivial | (refine (?_ : (_ : Int) ≠ _); decide) | exact rfl | skip
    · rename_i h; refine chk_i ?_; simp only [Bool.or_eq_true, decide_eq_true_eq] at h; rw [spFile, if_neg (by rw [isSquare_iff]; omega)]
    · rename_i h; refine chk_i ?_; simp only [Bool.or_eq_false_iff, decide_eq_false_iff_not] at h; rw [spFile, if_pos (by rw [isSquare_iff]; omega), tmod9 (by omega)]
  · cases hcr
set_option maxHeartbeats 4000000 in
set_option maxRecDepth 20000 in
theorem okRRank (hS : Hyp G) : ConOK Tryz.prog G 144 cRRank := by
  refine seat_con hS.seat [] [] trivial Tryz.func144 rfl rfl rfl ?_
  intro rvs cr hcr hpre
  unfold cRRank at hcr
  split at hcr
  · rename_i n
    cases hcr
    refine ⟨⟨rfl, rfl, rfl⟩, fun c hc vs => ?_⟩
    repeat' (first | exact Bool.noConfusion ‹(!true) = true› | exact Bool.noConfusion ‹(!false) = false› | (intro h; exact h) | (intro h; rw [h]; rfl) | (intro h1 h2; rw [h1, h2]; rfl) | (intro _; assumption) | (intro _; exact rfl) | (intro h; exact Bool.noConfusion (h.symm.trans ‹_ = false›)) | refine ⟨fun _ => ?_, fun _ => ?_⟩ | refine ⟨?_⟩ | refine ⟨?_, ?_⟩ | fail)
    all_goals first | exact trivial | (refine (?_ : (_ : Int) ≠ _); decide) | exact rfl | skip
    · rename_i h; refine chk_i ?_; simp only [Bool.or_eq_true, decide_eq_true_eq] at h; rw [spRank, if_neg (by rw [isSquare_iff]; omega)]
    · rename_i h; refine chk_i ?_; simp only [Bool.or_eq_false_iff, decide_eq_false_iff_not] at h; rw [spRank, if_pos (by rw [isSquare_iff]; omega), tdiv9 (by omega), wrap64 (by omega) (by omega)]
  · cases hcr
set_option maxHeartbeats 4000000 in
set_option maxRecDepth 20000 in
theorem okRIs2 (hS : Hyp G) : ConOK Tryz.prog G 69 cRIs2 := by
  refine seat_con hS.seat [(109, cRSide)] [] ⟨okRSide hS, trivial⟩ Tryz.func69 rfl rfl rfl ?_
  intro rvs cr hcr hpre
  unfold cRIs2 at hcr
  split at hcr
  · rename_i p
    cases hcr
    refine ⟨⟨rfl, rfl, rfl⟩, fun c hc vs => ?_⟩
    repeat' (first | exact Bool.noConfusion ‹(!true) = true› | exact Bool.noConfusion ‹(!false) = false› | (intro h; exact h) | (intro h; rw [h]; rfl) | (intro h1 h2; rw [h1, h2]; rfl) | (intro _; assumption) | (intro _; exact rfl) | (intro h; exact Bool.noConfusion (h.symm.trans ‹_ = false›)) | refine ⟨fun _ => ?_, fun _ => ?_⟩ | refine ⟨?_⟩ | refine ⟨?_, ?_⟩ | fail)
    all_goals first | exact trivial | (refine (?_ : (_ : Int) ≠ _); decide) | exact rfl | skip
    · rename_i h
      refine chk_b ?_
      cases hp : spIs p with
      | false => rfl
      | true => have := spIs_size hp; have := bneT h; omega
    · rename_i h
      have h90 : p.size = 90 := by have := bneF h; omega
      refine Tr_loopH (α := Nat) (fun i => [(3, .i .i64 (.ofNat i))]) (fun _ => []) (fun _ => []) (fun i => i ≤ 90 ∧ ∀ k, k < i → spIsCell (byteAt p k) = true) (fun i => 90 - i) 0 ⟨by omega, fun k hk => by omega⟩ (by (refine ⟨?_, rfl, ?_, ?_, ?_, rfl⟩ <;> repeat' (first | exact trivial | (refine ⟨rfl, ?_⟩) | fail))) ?_
      rintro i ⟨hi, hq⟩
      refine vs.go rfl ?_
      repeat' (first | exact Bool.noConfusion ‹(!true) = true› | exact Bool.noConfusion ‹(!false) = false› | (intro h; exact h) | (intro h; rw [h]; rfl) | (intro h1 h2; rw [h1, h2]; rfl) | (intro _; assumption) | (intro _; exact rfl) | (intro h; exact Bool.noConfusion (h.symm.trans ‹_ = false›)) | refine ⟨fun _ => ?_, fun _ => ?_⟩ | refine ⟨?_⟩ | refine ⟨?_, ?_⟩ | fail)
      all_goals first | exact trivial | (refine (?_ : (_ : Int) ≠ _); decide) | exact rfl | skip
      all_goals try dsimp only at *
      all_goals first | (intro _; exact BY.at _ _) | skip
      · rename_i h1; simp at h1; show (i : Int) < p.size; omega
      · rename_i h1; intro _; simp at h1; exact ⟨by simp, by show (i : Int) < p.size; omega⟩
      · rename_i h1 hx
        refine chk_b ?_
        simp only [Bool.and_eq_true, decide_eq_true_eq] at hx h1
        cases hp : spIs p with
        | false => rfl
        | true =>
          have := (is_iff.1 hp).2 i (by simp at h1; omega)
          have hb := cell_bad.2 ⟨bneT hx.1, hx.2⟩
          have hb : spIsCell (byteAt p i) = false := hb
          rw [this] at hb; cases hb
      · rename_i h1 hx
        simp at h1
        have hc : spIsCell (byteAt p i) = true := by
          cases hc : spIsCell (byteAt p i) with
          | true => rfl
          | false =>
            exfalso
            obtain ⟨q1, q2⟩ := cell_bad.1 hc
            have hx : (byteAt p i != 46 && decide (spSide (byteAt p i) < 0)) = false := hx
            simp [q1, q2] at hx
        refine Again.mk (i + 1) ⟨by omega, fun k hk => ?_⟩ (by omega) ?_
        · by_cases hki : k = i
          · subst hki; exact hc
          · exact hq k (by omega)
        · rw [wrapN (by omega)]
          (refine ⟨?_, rfl, ?_, ?_, ?_, rfl⟩ <;> repeat' (first | exact trivial | (refine ⟨rfl, ?_⟩) | fail))
      · rename_i h1
        simp at h1
        refine chk_b ?_
        rw [is_iff.2 ⟨h90, fun k hk => hq k (by omega)⟩]
  · cases hcr
set_option maxHeartbeats 4000000 in
set_option maxRecDepth 20000 in
theorem okRFind (hS : Hyp G) : ConOK Tryz.prog G 70 cRFind := by
  refine seat_con hS.seat [(69, cRIs2)] [] ⟨okRIs2 hS, trivial⟩ Tryz.func70 rfl rfl rfl ?_
  intro rvs cr hcr hpre
  unfold cRFind at hcr
  split at hcr
  · rename_i p c0
    cases hcr
    refine ⟨⟨rfl, rfl, rfl⟩, fun c hc vs => ?_⟩
    repeat' (first | exact Bool.noConfusion ‹(!true) = true› | exact Bool.noConfusion ‹(!false) = false› | (intro h; exact h) | (intro h; rw [h]; rfl) | (intro h1 h2; rw [h1, h2]; rfl) | (intro _; assumption) | (intro _; exact rfl) | (intro h; exact Bool.noConfusion (h.symm.trans ‹_ = false›)) | refine ⟨fun _ => ?_, fun _ => ?_⟩ | refine ⟨?_⟩ | refine ⟨?_, ?_⟩ | fail)
    all_goals first | exact trivial | (refine (?_ : (_ : Int) ≠ _); decide) | exact rfl | skip
    · rename_i h
      show spFind p c0 = []
      unfold spFind; rw [set_bad (bt h)]
    · rename_i h
      have hp := bn h
      have h90 := spIs_size hp
      have hfin := find_canon hp c0
      refine Tr_nilTmp 3 (.int .i64) 5 rfl (by decide) ?_
      repeat' (first | exact Bool.noConfusion ‹(!true) = true› | exact Bool.noConfusion ‹(!false) = false› | (intro h; exact h) | (intro h; rw [h]; rfl) | (intro h1 h2; rw [h1, h2]; rfl) | (intro _; assumption) | (intro _; exact rfl) | (intro h; exact Bool.noConfusion (h.symm.trans ‹_ = false›)) | refine ⟨fun _ => ?_, fun _ => ?_⟩ | refine ⟨?_⟩ | refine ⟨?_, ?_⟩ | fail)
      refine Tr_loopH (α := Nat) (fun i => [(5, .row 0), (6, .i .i64 (.ofNat i))]) (fun _ => []) (fun i => [(0, some ⟨3, .int .i64, ((List.range i).map Int.ofNat).filter (fun n => bAt (bytesL p) n == c0), true⟩)]) (fun i => i ≤ 90) (fun i => 90 - i) 0 (by omega) (by (refine ⟨?_, rfl, ?_, ?_, ?_, rfl⟩ <;> repeat' (first | exact trivial | (refine ⟨rfl, ?_⟩) | fail))) ?_
      intro i hi
      have hl : (((List.range i).map Int.ofNat).filter (fun n => bAt (bytesL p) n == c0)).length ≤ 90 := by
        refine Nat.le_trans (List.length_filter_le _ _) ?_
        simpa using hi
      refine vs.go rfl ?_
      repeat' (first | exact Bool.noConfusion ‹(!true) = true› | exact Bool.noConfusion ‹(!false) = false› | (intro h; exact h) | (intro h; rw [h]; rfl) | (intro h1 h2; rw [h1, h2]; rfl) | (intro _; assumption) | (intro _; exact rfl) | (intro h; exact Bool.noConfusion (h.symm.trans ‹_ = false›)) | refine ⟨fun _ => ?_, fun _ => ?_⟩ | refine ⟨?_⟩ | refine ⟨?_, ?_⟩ | fail)
      all_goals first | exact trivial | (refine (?_ : (_ : Int) ≠ _); decide) | exact rfl | skip
      all_goals try dsimp only at *
      · rename_i h1; simpa using h1
      · exact Nat.le_trans (Nat.add_le_add_right hl 1) (by decide)
      · exact Nat.le_trans (Nat.mul_le_mul_right _ (Nat.add_le_add_right hl 1)) (by decide)
      · rename_i h1 hx
        simp at h1
        refine Again.mk (i + 1) (by omega) (by omega) ?_
        have e := sqs_take (fun n => bAt (bytesL p) n == c0) i
        rw [if_pos (by rw [bAt_bytes]; exact hx)] at e
        rw [e, wrapN (by omega)]
        (refine ⟨?_, rfl, ?_, ?_, ?_, rfl⟩ <;> repeat' (first | exact trivial | (refine ⟨rfl, ?_⟩) | fail))
      · rename_i h1 hx
        simp at h1
        refine Again.mk (i + 1) (by omega) (by omega) ?_
        have e := sqs_take (fun n => bAt (bytesL p) n == c0) i
        rw [if_neg (by rw [bAt_bytes]; intro hh; exact Bool.noConfusion (hh.symm.trans hx)), List.append_nil] at e
        rw [e, wrapN (by omega)]
        (refine ⟨?_, rfl, ?_, ?_, ?_, rfl⟩ <;> repeat' (first | exact trivial | (refine ⟨rfl, ?_⟩) | fail))
      · rename_i h1
        simp at h1
        have : i = 90 := by omega
        subst this
        show (⟨_, _, _, _⟩ : Row) = ⟨_, _, _, _⟩
        rw [hfin]; rfl
  · cases hcr
end
end Go.X

namespace Go.X
open Go Go.Proofs

def cRReal : Con
  | [.a (.i .i64 n), .a (.i .i64 side)] => some ⟨[], .a (.b (spOk n side)), [], []⟩
  | _ => none
def cROwn : Con
  | [.a (.i .i64 n), .a (.i .i64 side)] => some ⟨[], .a (.i .i64 (rfOwn n side)), [], []⟩
  | _ => none
def cRPalace : Con
  | [.a (.i .i64 n), .a (.i .i64 side)] => some ⟨[], .a (.b (rfPalace n side)), [], []⟩
  | _ => none
def cRAdv : Con
  | [.a (.i .i64 f), .a (.i .i64 r)] => some ⟨[], .a (.b (rfAdv f r)), [], []⟩
  | _ => none
def cREle : Con
  | [.a (.i .i64 f), .a (.i .i64 r)] => some ⟨[], .a (.b (rfEle f r)), [], []⟩
  | _ => none
def cRMay : Con
  | [.a (.i .u8 c), .a (.i .i64 n)] => some ⟨[BY c], .a (.b (spMay c n)), [], []⟩
  | _ => none
section
variable {G : Nat → World → Prop}
set_option maxHeartbeats 4000000 in
set_option maxRecDepth 20000 in
theorem okRReal (hS : Hyp G) : ConOK Tryz.prog G 110 cRReal := by
  refine seat_con hS.seat [] [] trivial Tryz.func110 rfl rfl rfl ?_
  intro rvs cr hcr hpre
  unfold cRReal at hcr
  split at hcr
  · cases hcr
    refine ⟨⟨rfl, rfl, rfl⟩, fun c hc vs => ?_⟩
    repeat' (first | exact Bool.noConfusion ‹(!true) = true› | exact Bool.noConfusion ‹(!false) = false› | (intro h; exact h) | (intro h; rw [h]; rfl) | (intro h1 h2; rw [h1, h2]; rfl) | (intro _; assumption) | (intro _; exact rfl) | (intro h; exact Bool.noConfusion (h.symm.trans ‹_ = false›)) | refine ⟨fun _ => ?_, fun _ => ?_⟩ | refine ⟨?_⟩ | refine ⟨?_, ?_⟩ | fail)
    all_goals first | exact trivial | (refine (?_ : (_ : Int) ≠ _); decide) | exact rfl | skip
  · cases hcr
set_option maxHeartbeats 4000000 in
set_option maxRecDepth 20000 in
theorem okROwn (hS : Hyp G) : ConOK Tryz.prog G 112 cROwn := by
  refine seat_con hS.seat [(144, cRRank)] [] ⟨okRRank hS, trivial⟩ Tryz.func112 rfl rfl rfl ?_
  intro rvs cr hcr hpre
  unfold cROwn at hcr
  split at hcr
  · rename_i n side
    cases hcr
    refine ⟨⟨rfl, rfl, rfl⟩, fun c hc vs => ?_⟩
    have := rank_bd n
    repeat' (first | exact Bool.noConfusion ‹(!true) = true› | exact Bool.noConfusion ‹(!false) = false› | (intro h; exact h) | (intro h; rw [h]; rfl) | (intro h1 h2; rw [h1, h2]; rfl) | (intro _; assumption) | (intro _; exact rfl) | (intro h; exact Bool.noConfusion (h.symm.trans ‹_ = false›)) | refine ⟨fun _ => ?_, fun _ => ?_⟩ | refine ⟨?_⟩ | refine ⟨?_, ?_⟩ | fail)
    all_goals first | exact trivial | (refine (?_ : (_ : Int) ≠ _); decide) | exact rfl | skip
    · exact chk_i (by rw [rfOwn, if_pos (beqT ‹_›), wrap64 (by omega) (by omega)])
    · exact chk_i (by rw [rfOwn, if_neg (beqF ‹_›)])
  · cases hcr
set_option maxHeartbeats 4000000 in
set_option maxRecDepth 20000 in
theorem okRPalace (hS : Hyp G) : ConOK Tryz.prog G 113 cRPalace := by
  refine seat_con hS.seat [(111, cRFile), (110, cRReal), (112, cROwn)] [] ⟨okRFile hS, okRReal hS, okROwn hS, trivial⟩ Tryz.func113 rfl rfl rfl ?_
  intro rvs cr hcr hpre
  unfold cRPalace at hcr
  split at hcr
  · cases hcr
    refine ⟨⟨rfl, rfl, rfl⟩, fun c hc vs => ?_⟩
    repeat' (first | exact Bool.noConfusion ‹(!true) = true› | exact Bool.noConfusion ‹(!false) = false› | (intro h; exact h) | (intro h; rw [h]; rfl) | (intro h1 h2; rw [h1, h2]; rfl) | (intro _; assumption) | (intro _; exact rfl) | (intro h; exact Bool.noConfusion (h.symm.trans ‹_ = false›)) | refine ⟨fun _ => ?_, fun _ => ?_⟩ | refine ⟨?_⟩ | refine ⟨?_, ?_⟩ | fail)
    all_goals first | exact trivial | (refine (?_ : (_ : Int) ≠ _); decide) | exact rfl | skip
  · cases hcr
set_option maxHeartbeats 4000000 in
set_option maxRecDepth 20000 in
theorem okRAdv (hS : Hyp G) : ConOK Tryz.prog G 114 cRAdv := by
  refine seat_con hS.seat [] [] trivial Tryz.func114 rfl rfl rfl ?_
  intro rvs cr hcr hpre
  unfold cRAdv at hcr
  split at hcr
  · cases hcr
    refine ⟨⟨rfl, rfl, rfl⟩, fun c hc vs => ?_⟩
    repeat' (first | exact Bool.noConfusion ‹(!true) = true› | exact Bool.noConfusion ‹(!false) = false› | (intro h; exact h) | (intro h; rw [h]; rfl) | (intro h1 h2; rw [h1, h2]; rfl) | (intro _; assumption) | (intro _; exact rfl) | (intro h; exact Bool.noConfusion (h.symm.trans ‹_ = false›)) | refine ⟨fun _ => ?_, fun _ => ?_⟩ | refine ⟨?_⟩ | refine ⟨?_, ?_⟩ | fail)
    all_goals first | exact trivial | (refine (?_ : (_ : Int) ≠ _); decide) | exact rfl | skip
  · cases hcr
set_option maxHeartbeats 4000000 in
set_option maxRecDepth 20000 in
theorem okREle (hS : Hyp G) : ConOK Tryz.prog G 115 cREle := by
  refine seat_con hS.seat [] [] trivial Tryz.func115 rfl rfl rfl ?_
  intro rvs cr hcr hpre
  unfold cREle at hcr
  split at hcr
  · rename_i f r
    cases hcr
    refine ⟨⟨rfl, rfl, rfl⟩, fun c hc vs => ?_⟩
    repeat' (first | exact Bool.noConfusion ‹(!true) = true› | exact Bool.noConfusion ‹(!false) = false› | (intro h; exact h) | (intro h; rw [h]; rfl) | (intro h1 h2; rw [h1, h2]; rfl) | (intro _; assumption) | (intro _; exact rfl) | (intro h; exact Bool.noConfusion (h.symm.trans ‹_ = false›)) | refine ⟨fun _ => ?_, fun _ => ?_⟩ | refine ⟨?_⟩ | refine ⟨?_, ?_⟩ | fail)
    all_goals first | exact rfl | skip
    all_goals (refine chk_b ?_; rw [rfEle]; simp only [beq_iff_eq, beq_eq_false_iff_ne, ne_eq] at *; first | (rw [if_pos (by omega)]; done) | (rw [if_neg (by omega), if_pos (by omega)]; done) | (rw [if_neg (by omega), if_neg (by omega)]; done) | (exfalso; omega))
  · cases hcr
set_option maxHeartbeats 4000000 in
set_option maxRecDepth 20000 in
theorem okRMay (hS : Hyp G) : ConOK Tryz.prog G 73 cRMay := by
  refine seat_con hS.seat [(109, cRSide), (110, cRReal), (111, cRFile), (112, cROwn), (72, cRKind), (113, cRPalace), (114, cRAdv), (115, cREle)] [] ⟨okRSide hS, okRReal hS, okRFile hS, okROwn hS, okRKind hS, okRPalace hS, okRAdv hS, okREle hS, trivial⟩ Tryz.func73 rfl rfl rfl ?_
  intro rvs cr hcr hpre
  unfold cRMay at hcr
  split at hcr
  · rename_i c0 n
    cases hcr
    simp only [List.mem_cons, List.not_mem_nil, or_false, forall_eq_or_imp, forall_eq] at hpre
    refine ⟨⟨rfl, rfl, rfl⟩, fun c hc vs => ?_⟩
    have hsb := side_bd c0
    repeat' (first | exact Bool.noConfusion ‹(!true) = true› | exact Bool.noConfusion ‹(!false) = false› | (intro h; exact h) | (intro h; rw [h]; rfl) | (intro h1 h2; rw [h1, h2]; rfl) | (intro _; assumption) | (intro _; exact rfl) | (intro h; exact Bool.noConfusion (h.symm.trans ‹_ = false›)) | refine ⟨fun _ => ?_, fun _ => ?_⟩ | refine ⟨?_⟩ | refine ⟨?_, ?_⟩ | fail)
    all_goals first | exact hpre | exact rfl | skip
    · refine chk_b ?_
      have h := ‹(_ || _) = true›
      rw [spMay, if_neg]
      intro ho
      rw [ho] at h
      simp only [Bool.not_true, Bool.or_false, decide_eq_true_eq] at h
      simp only [spOk, Bool.and_eq_true, Bool.or_eq_true, decide_eq_true_eq, beq_iff_eq] at ho
      omega
    all_goals
      have hor := ‹(decide (spSide c0 < 0) || !spOk n (spSide c0)) = false›
      simp only [Bool.or_eq_false_iff] at hor
      have ho := bn hor.2
      have hst := stand_eq ho
    · exact chk_b (by rw [spMay, if_pos ho, if_pos (beqT ‹_›), hst.1])
    · rename_i h1 h2
      exact chk_b (by rw [spMay, if_pos ho, if_neg (beqF h1), if_pos (beqT h2), hst.2.1])
    · rename_i h1 h2 h3
      exact chk_b (by rw [spMay, if_pos ho, if_neg (beqF h1), if_neg (beqF h2), if_pos (beqT h3), hst.2.2.1])
    · intro _; decide
    · rename_i h1 h2 h3 h4
      exact chk_b (by rw [spMay, if_pos ho, if_neg (beqF h1), if_neg (beqF h2), if_neg (beqF h3), if_pos (beqT h4), hst.2.2.2.1])
    · rename_i h1 h2 h3 h4
      exact chk_b (by rw [spMay, if_pos ho, if_neg (beqF h1), if_neg (beqF h2), if_neg (beqF h3), if_neg (beqF h4)])
  · cases hcr
end
end Go.X

namespace Go.X
open Go Go.Proofs

section
variable {G : Nat → World → Prop}
end
end Go.X

namespace Go.X
open Go Go.Proofs

section
variable {G : Nat → World → Prop}
end
end Go.X

namespace Go.X
open Go Go.Proofs

def cRMost : Con
  | [.a (.i .u8 c)] => some ⟨[BY c], .a (.i .i64 (dMost c)), [], []⟩
  | _ => none
def cRCheck : Con
  | [.agg [.a (.s p), .a (.i .i64 side), .a (.i .i64 clock), .a (.i .i64 full)]] => some ⟨[], .a (.i .i64 (rCheck p side clock full)), [], []⟩
  | _ => none
section
variable {G : Nat → World → Prop}
set_option maxHeartbeats 4000000 in
set_option maxRecDepth 20000 in
theorem okRMost (hS : Hyp G) : ConOK Tryz.prog G 71 cRMost := by
  refine seat_con hS.seat [(72, cRKind)] [] ⟨okRKind hS, trivial⟩ Tryz.func71 rfl rfl rfl ?_
  intro rvs cr hcr hpre
  unfold cRMost at hcr
  split at hcr
  · rename_i c0
    cases hcr
    simp only [List.mem_cons, List.not_mem_nil, or_false, forall_eq_or_imp, forall_eq] at hpre
    refine ⟨⟨rfl, rfl, rfl⟩, fun c hc vs => ?_⟩
    repeat' (first | exact Bool.noConfusion ‹(!true) = true› | exact Bool.noConfusion ‹(!false) = false› | (intro h; exact h) | (intro h; rw [h]; rfl) | (intro h1 h2; rw [h1, h2]; rfl) | (intro _; assumption) | (intro _; exact rfl) | (intro h; exact Bool.noConfusion (h.symm.trans ‹_ = false›)) | refine ⟨fun _ => ?_, fun _ => ?_⟩ | refine ⟨?_⟩ | refine ⟨?_, ?_⟩ | fail)
    all_goals first | exact hpre | exact rfl | skip
    · exact chk_i (by rw [dMost, if_pos (beqT ‹_›)])
    · rename_i h1 h2; exact chk_i (by rw [dMost, if_neg (beqF h1), if_pos (beqT h2)])
    · rename_i h1 h2 h3; exact chk_i (by rw [dMost, if_neg (beqF h1), if_neg (beqF h2), if_pos (beqT h3)])
    · rename_i h1 h2 h3; exact chk_i (by rw [dMost, if_neg (beqF h1), if_neg (beqF h2), if_neg (beqF h3)])
  · cases hcr
set_option maxHeartbeats 4000000 in
set_option maxRecDepth 20000 in
theorem okRCheck (hS : Hyp G) : ConOK Tryz.prog G 46 cRCheck := by
  refine seat_con hS.seat [(69, cRIs2), (70, cRFind), (71, cRMost), (72, cRKind), (73, cRMay)] [] ⟨okRIs2 hS, okRFind hS, okRMost hS, okRKind hS, okRMay hS, trivial⟩ Tryz.func46 rfl rfl rfl ?_
  intro rvs cr hcr hpre
  unfold cRCheck at hcr
  split at hcr
  · rename_i p side clock full
    cases hcr
    refine ⟨⟨rfl, rfl, rfl⟩, fun c hc vs => ?_⟩
    repeat' (first | exact Bool.noConfusion ‹(!true) = true› | exact Bool.noConfusion ‹(!false) = false› | (intro h; exact h) | (intro h; rw [h]; rfl) | (intro h1 h2; rw [h1, h2]; rfl) | (intro _; assumption) | (intro _; exact rfl) | (intro h; exact Bool.noConfusion (h.symm.trans ‹_ = false›)) | refine ⟨fun _ => ?_, fun _ => ?_⟩ | refine ⟨?_⟩ | refine ⟨?_, ?_⟩ | fail)
    all_goals first | exact rfl | skip
    · rename_i h; exact chk_i (by rw [rCheck, if_pos (show rArg p side clock full = true from h)])
    · rename_i h
      have ha : rArg p side clock full = false := h
      have hp := (rArg_f ha).1
      have h90 := spIs_size hp
      refine Tr_gen 3 letP rfl (fun s hs => ?_)
      have hsz : s.size = 14 := by rw [hs]; rfl
      refine Tr_loopH (α := Nat) (fun i => [(4, .i .i64 (.ofNat i))]) (fun _ => []) (fun _ => []) (fun i => i ≤ 14 ∧ ∀ k, k < i → dBadN (bytesL p) (letL.getD k 0) = false) (fun i => 14 - i) 0 ⟨by omega, fun k hk => by omega⟩ (by (refine ⟨?_, rfl, ?_, ?_, ?_, rfl⟩ <;> repeat' (first | exact trivial | (refine ⟨rfl, ?_⟩) | fail))) ?_
      rintro i ⟨hi, hq⟩
      have hlt : decide (Int.ofNat i < (s.size : Int)) = true → i < 14 := fun h => by have := ltN h; omega
      have hbad : i < 14 → (decide (((spFind p (byteAt s (Int.ofNat i).toNat)).length : Int) > dMost (byteAt s (Int.ofNat i).toNat)) || ((spKind (byteAt s (Int.ofNat i).toNat) == 75) && (((spFind p (byteAt s (Int.ofNat i).toNat)).length : Int) != 1))) = dBadN (bytesL p) (letL.getD i 0) := fun h => by
        have e : byteAt s (Int.ofNat i).toNat = letL.getD i 0 := by rw [hs]; exact letP_at i h
        rw [e, find_cnt hp]; rfl
      refine vs.go rfl ?_
      repeat' (first | exact Bool.noConfusion ‹(!true) = true› | exact Bool.noConfusion ‹(!false) = false› | (intro h; exact h) | (intro h; rw [h]; rfl) | (intro h1 h2; rw [h1, h2]; rfl) | (intro _; assumption) | (intro _; exact rfl) | (intro h; exact Bool.noConfusion (h.symm.trans ‹_ = false›)) | refine ⟨fun _ => ?_, fun _ => ?_⟩ | refine ⟨?_⟩ | refine ⟨?_, ?_⟩ | fail)
      all_goals first | exact trivial | (refine (?_ : (_ : Int) ≠ _); decide) | exact rfl | skip
      all_goals try dsimp only at *
      all_goals first | exact BY.at _ _ | (intro _; exact BY.at _ _) | (rename_i h; have h := ltN h; show (i : Int) < (s.size : Int); omega) | (rename_i h; have h := ltN h; intro _; exact ⟨by simp, by show (i : Int) < (s.size : Int); omega⟩) | skip
      · rename_i h1 h2
        rw [hbad (hlt h1)] at h2
        exact chk_i (by rw [rCheck, if_neg (by simp [ha]), dCheck, if_pos (any_t (d := 0) (hlt h1) h2)])
      · rename_i h1 h2
        rw [hbad (hlt h1)] at h2
        have := hlt h1
        refine Again.mk (i + 1) ⟨by omega, till hq h2⟩ (by omega) ?_
        rw [wrapN (by omega)]
        (refine ⟨?_, rfl, ?_, ?_, ?_, rfl⟩ <;> repeat' (first | exact trivial | (refine ⟨rfl, ?_⟩) | fail))
      · rename_i h1
        have hi14 : i = 14 := by have := geN h1; omega
        have hN : letL.any (dBadN (bytesL p)) = false := any_f (d := 0) fun k hk => hq k (by rw [hi14]; exact hk)
        refine Tr_loopH (α := Nat) (fun j => [(6, .i .i64 (.ofNat j))]) (fun _ => []) (fun _ => []) (fun j => j ≤ 90 ∧ ∀ k, k < j → dBadP (bytesL p) (Int.ofNat k) = false) (fun j => 90 - j) 0 ⟨by omega, fun k hk => by omega⟩ (by (refine ⟨?_, rfl, ?_, ?_, ?_, rfl⟩ <;> repeat' (first | exact trivial | (refine ⟨rfl, ?_⟩) | fail))) ?_
        rintro j ⟨hj, hr⟩
        have hbp : ((byteAt p (Int.ofNat j).toNat != 46) && !spMay (byteAt p (Int.ofNat j).toNat) (Int.ofNat j)) = dBadP (bytesL p) (Int.ofNat j) := by rw [dBadP, bAt_bytes]
        refine vs.go rfl ?_
        repeat' (first | exact Bool.noConfusion ‹(!true) = true› | exact Bool.noConfusion ‹(!false) = false› | (intro h; exact h) | (intro h; rw [h]; rfl) | (intro h1 h2; rw [h1, h2]; rfl) | (intro _; assumption) | (intro _; exact rfl) | (intro h; exact Bool.noConfusion (h.symm.trans ‹_ = false›)) | refine ⟨fun _ => ?_, fun _ => ?_⟩ | refine ⟨?_⟩ | refine ⟨?_, ?_⟩ | fail)
        all_goals first | exact trivial | (refine (?_ : (_ : Int) ≠ _); decide) | exact rfl | skip
        all_goals try dsimp only at *
        all_goals first | exact BY.at _ _ | (intro _; exact BY.at _ _) | (rename_i h; have h := lt90 h; show (j : Int) < (p.size : Int); omega) | (rename_i h; have h := lt90 h; intro _; exact ⟨by simp, by show (j : Int) < (p.size : Int); omega⟩) | skip
        · rename_i h1 h2
          rw [hbp] at h2
          exact chk_i (by rw [rCheck, if_neg (by simp [ha]), dCheck, if_neg (by rw [hN]; exact Bool.noConfusion), if_pos (sqs_t (lt90 h1) h2)])
        · rename_i h1 h2
          rw [hbp] at h2
          have := lt90 h1
          refine Again.mk (j + 1) ⟨by omega, till hr h2⟩ (by omega) ?_
          rw [wrapN (by omega)]
          (refine ⟨?_, rfl, ?_, ?_, ?_, rfl⟩ <;> repeat' (first | exact trivial | (refine ⟨rfl, ?_⟩) | fail))
        · rename_i h1
          have := ge90 h1
          exact chk_i (by rw [rCheck, if_neg (by simp [ha]), dCheck, if_neg (by rw [hN]; exact Bool.noConfusion), if_neg (by rw [sqs_f fun k hk => hr k (by omega)]; exact Bool.noConfusion)])
  · cases hcr
end
end Go.X

namespace Go.X
open Go Go.Proofs

def cRPrint4 : Con
  | [.agg [.a (.s p), .a (.i .i64 side), .a (.i .i64 clock), .a (.i .i64 full)]] => some ⟨[], .tup [.a (.s (printP (p, side, clock, full)).1), .a (.i .i64 (printP (p, side, clock, full)).2)], [], []⟩
  | _ => none
section
variable {G : Nat → World → Prop}
set_option maxHeartbeats 4000000 in
set_option maxRecDepth 20000 in
theorem okRPrint4 (hS : Hyp G) : ConOK Tryz.prog G 25 cRPrint4 := by
  refine seat_con hS.seat [(46, cRCheck), (47, cRow4), (24, cDig4)] [] ⟨okRCheck hS, okRow4 hS, okDig4 hS, trivial⟩ Tryz.func25 rfl rfl rfl ?_
  intro rvs cr hcr hpre
  unfold cRPrint4 at hcr
  split at hcr
  · rename_i p side clock full
    cases hcr
    refine ⟨⟨rfl, rfl, rfl⟩, fun c hc vs => ?_⟩
    obtain ⟨P4, hP⟩ : ∃ x, printP (p, side, clock, full) = x := ⟨_, rfl⟩
    obtain ⟨C, hC⟩ : ∃ x, rCheck p side clock full = x := ⟨_, rfl⟩
    have hk : ck (p, side, clock, full) = C := hC
    rw [hP]
    repeat' (first | exact Bool.noConfusion ‹(!true) = true› | exact Bool.noConfusion ‹(!false) = false› | (intro h; exact h) | (intro h; rw [h]; rfl) | (intro h1 h2; rw [h1, h2]; rfl) | (intro _; assumption) | (intro _; exact rfl) | (intro h; exact Bool.noConfusion (h.symm.trans ‹_ = false›)) | refine ⟨fun _ => ?_, fun _ => ?_⟩ | refine ⟨?_⟩ | refine ⟨?_, ?_⟩ | fail)
    all_goals simp only [hC] at *
    all_goals first | exact trivial | exact rfl | skip
    · rw [hP.symm.trans (print_chk (by rw [hk]; assumption))]; exact chk_s rfl
    · rw [hP.symm.trans (print_chk (by rw [hk]; assumption)), hk]; exact chk_i rfl
    all_goals
      have hc0 : (C != 0) = false := ‹(C != 0) = false›
      have hk0 : ck (p, side, clock, full) = 0 := by rw [hk]; exact bneF hc0
      have hok := pr_ok hk0
      have hcb : cellsB (bytesL p) := hok.c
      have hbl : (bytesL p).length = 90 := hok.l
      have hpz : p.size = 90 := by rw [← bL_len]; exact hbl
      have hPr : P4 = (prB (p, side, clock, full), 0) := hP.symm.trans (print_ok (by rw [hk]; exact hc0))
    · exact ⟨hpz, by decide, by decide⟩
    refine Tr_loopH (α := Nat) (fun i => [(5, .s (bytesOf (rowsT (bytesL p) (i + 1)))), (6, .i .i64 (8 - (i : Int)))]) (fun _ => []) (fun _ => []) (fun i => i ≤ 9) (fun i => 9 - i) 0 (by decide) (by rw [rows_one]; (refine ⟨?_, rfl, ?_, ?_, ?_, rfl⟩ <;> repeat' (first | exact trivial | (refine ⟨rfl, ?_⟩) | fail))) ?_
    intro i hi
    have hrl := rows_len hcb hbl (i + 1)
    refine vs.go rfl ?_
    repeat' (first | exact Bool.noConfusion ‹(!true) = true› | exact Bool.noConfusion ‹(!false) = false› | (intro h; exact h) | (intro h; rw [h]; rfl) | (intro h1 h2; rw [h1, h2]; rfl) | (intro _; assumption) | (intro _; exact rfl) | (intro h; exact Bool.noConfusion (h.symm.trans ‹_ = false›)) | refine ⟨fun _ => ?_, fun _ => ?_⟩ | refine ⟨?_⟩ | refine ⟨?_, ?_⟩ | fail)
    all_goals first | exact trivial | (refine (?_ : (_ : Int) ≠ _); decide) | exact rfl | skip
    all_goals try dsimp only at *
    all_goals first | exact trivial | exact rfl | skip
    all_goals
      have hdk := dig_len hok.k.1 (by have := hok.k.2; omega)
      have hdf := dig_len (n := full) (by have := hok.f.1; omega) hok.f.2
    all_goals first | exact DG.of hok.k.1 (by have := hok.k.2; omega) | exact DG.of (n := full) (by have := hok.f.1; omega) hok.f.2 | (simp only [size_bytesOf, ByteArray.size_append, show (⟨#[47]⟩ : ByteArray).size = 1 from rfl, show (⟨#[32]⟩ : ByteArray).size = 1 from rfl, show (⟨#[32, 98, 32, 45, 32, 45, 32]⟩ : ByteArray).size = 7 from rfl, show (⟨#[32, 119, 32, 45, 32, 45, 32]⟩ : ByteArray).size = 7 from rfl]; omega) | skip
    · have h8 : (8 : Int) - i ≥ 0 := of_decide_eq_true ‹decide ((8 : Int) - i ≥ 0) = true›
      exact ⟨hpz, h8, by omega⟩
    · have h8 : (8 : Int) - i ≥ 0 := of_decide_eq_true ‹decide ((8 : Int) - i ≥ 0) = true›
      have := rk_len hcb hbl (r := ((8 : Int) - i).toNat) (by omega)
      simp only [size_bytesOf, ByteArray.size_append, show (⟨#[47]⟩ : ByteArray).size = 1 from rfl]
      omega
    · have h8 : (8 : Int) - i ≥ 0 := of_decide_eq_true ‹decide ((8 : Int) - i ≥ 0) = true›
      refine Again.mk (i + 1) (by omega) (by omega) ?_
      rw [rows_next (n := i + 1) (by omega) (by omega), bytesOf_app, bytesOf_app, show 9 - (i + 1) = ((8 : Int) - i).toNat by omega, wrap64 (by omega) (by omega), show (8 : Int) - i - 1 = 8 - ((i + 1 : Nat) : Int) by omega]
      (refine ⟨?_, rfl, ?_, ?_, ?_, rfl⟩ <;> repeat' (first | exact trivial | (refine ⟨rfl, ?_⟩) | fail))
    · have h8 : ¬ (8 : Int) - i ≥ 0 := of_decide_eq_false ‹decide ((8 : Int) - i ≥ 0) = false›
      have h9 : i = 9 := by omega
      subst h9
      rw [hPr, prB_app, rows_all, side_t ‹(side == 1) = true›]; exact chk_s rfl
    · rw [hPr]; exact chk_i rfl
    · have h8 : ¬ (8 : Int) - i ≥ 0 := of_decide_eq_false ‹decide ((8 : Int) - i ≥ 0) = false›
      have h9 : i = 9 := by omega
      subst h9
      rw [hPr, prB_app, rows_all, side_f ‹(side == 1) = false›]; exact chk_s rfl
    · rw [hPr]; exact chk_i rfl
  · cases hcr
end
end Go.X
