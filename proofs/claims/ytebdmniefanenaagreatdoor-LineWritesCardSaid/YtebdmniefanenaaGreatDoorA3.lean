/-
  Parts of the proof.
-/
import Derived.Test.YtebdmniefanenaaGreatDoorA2
import Derived.Lib.Replace
import Derived.Lib.IndexAny
import Derived.Shelf.Strings.IndexAnyAll
import Derived.Laws.RangeAny
import Derived.Laws.Runes
import Derived.Shelf.Small.Utf8
import Derived.WalkMore
import Derived.ScopeJumps
import Derived.Shelf.RegionOpenPlain
import Derived.Maps.RangeRun

set_option linter.unusedSimpArgs false
set_option linter.unusedVariables false

namespace Go.X
open Go

theorem lit_bytes (t : ByteArray) : bytesOf (bytesL t) = t := bytesOf_bytesL t
theorem mvs_bytes {ms : List (Int × Int)} (h : ∀ m ∈ ms, mvS m) : (ms.map fun m => pr4 m.1 m.2).map bytesOf = ms.map prM := by
  rw [List.map_map]
  exact List.map_congr_left fun m hm => (prM_bytes (h m hm)).symm
theorem tail_bytes {ms : List (Int × Int)} (h : ∀ m ∈ ms, mvS m) : (tailL ms).map bytesOf = if ms = [] then [] else tMoves :: ms.map prM := by
  unfold tailL
  split
  · rfl
  · rw [List.map_cons, lit_bytes, mvs_bytes h]
theorem set_start {ms : List (Int × Int)} (h : ∀ m ∈ ms, mvS m) (hl : ms.length ≤ 1024) : setC (tStart :: (if ms = [] then [] else tMoves :: ms.map prM)) = ((3, startC, ms, 0), 0) := by
  have hp : placeN (tStart :: (if ms = [] then [] else tMoves :: ms.map prM)) = 1 := by
    unfold placeN
    have he : endsAt (tStart :: (if ms = [] then [] else tMoves :: ms.map prM)) 1 = true := by
      unfold endsAt
      split
      · rfl
      · show (_ || (decide (1 < (_ :: tMoves :: _ : List ByteArray).length) && strEq tMoves tMoves)) = true
        rw [seq]; simp
    rw [if_neg (by simp), if_pos]
    rw [he]
    show (strEq tStart tStart && true) = true
    rw [seq]; rfl
  unfold setC
  rw [hp]
  have hpe : posE (tStart :: (if ms = [] then [] else tMoves :: ms.map prM)) 1 = (startC, 0) := by unfold posE; rw [if_pos rfl]
  have hme : movE (tStart :: (if ms = [] then [] else tMoves :: ms.map prM)) 1 0 = (ms, 0) := by
    unfold movE
    by_cases hms : ms = []
    · rw [if_pos hms, if_neg (by simp), hms]
    · rw [if_neg hms, if_pos ⟨rfl, by simp⟩]
      exact mvL_read h hl
  rw [hpe, hme, if_neg (by decide), if_pos rfl]
theorem flds_bytes (p : Pos4) : (fldsL (bytesL p.1) p.2.1 p.2.2.1 p.2.2.2).map bytesOf = [bdB p, bytesOf (sdL p.2.1), ⟨#[45]⟩, ⟨#[45]⟩, bytesOf (digL p.2.2.1), bytesOf (digL p.2.2.2)] := rfl
theorem flds_join {p : Pos4} (h : ck p = 0) : joinS ((fldsL (bytesL p.1) p.2.1 p.2.2.1 p.2.2.2).map bytesOf) ⟨#[32]⟩ = prB p := joinS_I 32 fun x hx => (flds_pr (pr_ok h) x hx).by_
theorem set_fen {p : Pos4} (hk : ck p = 0) {ms : List (Int × Int)} (h : ∀ m ∈ ms, mvS m) (hl : ms.length ≤ 1024) : setC (tFen :: ((fldsL (bytesL p.1) p.2.1 p.2.2.1 p.2.2.2).map bytesOf ++ (if ms = [] then [] else tMoves :: ms.map prM))) = ((3, p, ms, 0), 0) := by
  obtain ⟨T, hT⟩ : ∃ T, (if ms = [] then [] else tMoves :: ms.map prM) = T := ⟨_, rfl⟩
  obtain ⟨L, hL⟩ : ∃ L, tFen :: ((fldsL (bytesL p.1) p.2.1 p.2.2.1 p.2.2.2).map bytesOf ++ T) = L := ⟨_, rfl⟩
  rw [hT, hL]
  have hlen : L.length = 7 + T.length := by rw [← hL]; simp [fldsL]; omega
  have h0 : L.getD 0 ByteArray.empty = tFen := by rw [← hL]; rfl
  have h3 : L.getD 3 ByteArray.empty = ⟨#[45]⟩ := by rw [← hL]; rfl
  have h7 : L.getD 7 ByteArray.empty = T.getD 0 ByteArray.empty := by rw [← hL]; rfl
  have e1 : endsAt L 3 = false := by
    unfold endsAt
    rw [h3, sne (by decide), Bool.and_false, Bool.or_false, decide_eq_false (by omega)]
  have e2 : endsAt L 7 = true := by
    unfold endsAt
    rw [h7, hlen]
    by_cases hms : ms = []
    · have : T = [] := by rw [← hT, if_pos hms]
      rw [this]; rfl
    · have : T = tMoves :: ms.map prM := by rw [← hT, if_neg hms]
      rw [this]
      show (_ || (_ && strEq tMoves tMoves)) = true
      rw [seq, Bool.and_true, Bool.or_eq_true, decide_eq_true_eq, decide_eq_true_eq]
      right; simp
  have hp : placeN L = 7 := by
    unfold placeN
    rw [h0, sne (by decide : tFen ≠ tStart), Bool.false_and, seq, if_neg (by omega), if_neg (by decide), if_neg (by decide), e1, if_neg (by decide), e2, if_pos rfl]
  have hdrop : (L.drop 1).take (7 - 1) = (fldsL (bytesL p.1) p.2.1 p.2.2.1 p.2.2.2).map bytesOf := by rw [← hL]; rfl
  have hpe : posE L 7 = (p, 0) := by
    unfold posE
    rw [if_neg (by decide), hdrop, flds_join hk, back_parse hk]
  have hme : movE L 7 0 = (ms, 0) := by
    unfold movE
    by_cases hms : ms = []
    · have : T = [] := by rw [← hT, if_pos hms]
      rw [if_neg (by rw [hlen, this]; simp), hms]
    · have hTT : T = tMoves :: ms.map prM := by rw [← hT, if_neg hms]
      rw [if_pos ⟨rfl, by rw [hlen, hTT]; simp⟩]
      have : L.drop (7 + 1) = ms.map prM := by rw [← hL, hTT]; rfl
      rw [this]
      exact mvL_read h hl
  unfold setC
  rw [hp, hpe, hme, if_neg (by decide), if_pos rfl]
theorem wc_position {l : List ByteArray} (h0 : l.getD 0 ByteArray.empty = tPosition) (hn : l.length ≠ 0) : wordsC l false = setC (l.drop 1) := by
  unfold wordsC
  rw [h0, if_neg (by simpa using hn), if_neg (fun hh => hh.1 k_position), sne (by decide : tPosition ≠ tGo), sne (by decide : tPosition ≠ tBan), seq, if_neg (by decide), if_neg (by decide), if_pos rfl]
theorem wc_ban {l : List ByteArray} (h0 : l.getD 0 ByteArray.empty = tBan) (hn : l.length ≠ 0) : wordsC l false = banC l := by
  unfold wordsC
  rw [h0, if_neg (by simpa using hn), if_neg (fun hh => hh.1 k_ban), sne (by decide : tBan ≠ tGo), seq, if_neg (by decide), if_pos rfl]
theorem wc_go {l : List ByteArray} (h0 : l.getD 0 ByteArray.empty = tGo) (hn : l.length ≠ 0) : wordsC l false = goC l := by
  unfold wordsC
  rw [h0, if_neg (by simpa using hn), if_neg (fun hh => hh.1 k_go), seq, if_pos rfl]
theorem wc_one {l : List ByteArray} {k : Int} (h0 : plainK (l.getD 0 ByteArray.empty) = k) (hk : k ≠ 0) (hn : l.length = 1) : wordsC l false = ((k, pos0, [], 0), 0) := by
  unfold wordsC
  rw [h0, if_neg (by simp [hn]), if_pos ⟨hk, hn⟩]
theorem back_set {p : Pos4} (hk : ck p = 0) {ms : List (Int × Int)} (h : ∀ m ∈ ms, mvS m) (hl : ms.length ≤ 600) : parseC (joinS (setW p ms) ⟨#[32]⟩) = ((3, p, ms, 0), 0) := by
  rw [set_words hk h]
  obtain ⟨h1, h2⟩ := line_words (L := headL p ++ tailL ms) (fun w hw => by
    rcases List.mem_append.1 hw with hw | hw
    · exact head_pr hk w hw
    · exact tail_pr h w hw) (both_len hk hl)
  unfold parseC
  rw [h1, h2, List.map_append, tail_bytes h]
  unfold headL
  by_cases hp : p = startC
  · rw [if_pos hp]
    subst hp
    show wordsC (bytesOf (bytesL tPosition) :: bytesOf (bytesL tStart) :: (if ms = [] then [] else tMoves :: ms.map prM)) false = _
    rw [lit_bytes, lit_bytes, wc_position rfl (by simp)]
    exact set_start h (by omega)
  · rw [if_neg hp]
    show wordsC (bytesOf (bytesL tPosition) :: bytesOf (bytesL tFen) :: ((fldsL (bytesL p.1) p.2.1 p.2.2.1 p.2.2.2).map bytesOf ++ (if ms = [] then [] else tMoves :: ms.map prM))) false = _
    rw [lit_bytes, lit_bytes, wc_position rfl (by simp)]
    exact set_fen hk h (by omega)
theorem back_ban {ms : List (Int × Int)} (h : ∀ m ∈ ms, mvS m) (hl : ms.length ≤ 600) : parseC (joinS ([tBan] ++ if ms = [] then [] else [spText ms]) ⟨#[32]⟩) = ((4, pos0, ms, 0), 0) := by
  have hw : joinS ([tBan] ++ if ms = [] then [] else [spText ms]) ⟨#[32]⟩ = bytesOf (joinI 32 (bytesL tBan :: ms.map fun m => pr4 m.1 m.2)) := by
    by_cases hms : ms = []
    · subst hms
      have := joinS_I 32 (L := [bytesL tBan]) (fun x hx => by rw [List.mem_singleton.1 hx]; exact pr_ban.by_)
      rw [if_pos rfl]
      show joinS [tBan] ⟨#[32]⟩ = _
      have e : [bytesL tBan].map bytesOf = [tBan] := by rw [List.map_cons, lit_bytes]; rfl
      rw [e] at this
      exact this
    · rw [if_neg hms, text_I h]
      have hmn : (ms.map fun m => pr4 m.1 m.2) ≠ [] := by simpa using hms
      have := joinS_I 32 (L := [bytesL tBan, joinI 32 (ms.map fun m => pr4 m.1 m.2)]) (fun x hx => by
        rcases List.mem_cons.1 hx with rfl | hx
        · exact pr_ban.by_
        · rw [List.mem_singleton.1 hx]
          exact joinI_bd 32 (by decide) fun x hx => by
            obtain ⟨m, hm', rfl⟩ := List.mem_map.1 hx
            exact (mv_pr (h m hm')).by_)
      have e : [bytesL tBan, joinI 32 (ms.map fun m => pr4 m.1 m.2)].map bytesOf = [tBan] ++ [bytesOf (joinI 32 (ms.map fun m => pr4 m.1 m.2))] := by rw [List.map_cons, lit_bytes]; rfl
      rw [e] at this
      rw [this]
      have h2 := joinI_flat 32 (A := [bytesL tBan]) (B := ms.map fun m => pr4 m.1 m.2) (C := []) hmn
      simp only [List.append_nil, List.cons_append, List.nil_append] at h2
      exact congrArg bytesOf h2
  rw [hw]
  obtain ⟨h1, h2⟩ := line_words (L := bytesL tBan :: ms.map fun m => pr4 m.1 m.2) (fun w hw => by
    rcases List.mem_cons.1 hw with rfl | hw
    · exact pr_ban
    · obtain ⟨m, hm', rfl⟩ := List.mem_map.1 hw
      exact mv_pr (h m hm')) (by
    refine Nat.le_trans (joinI_sum 32 _) ?_
    rw [List.map_cons, List.sum_cons, mvs_len, List.length_cons, List.length_map]
    have : (bytesL tBan).length = 8 := by decide
    omega)
  unfold parseC
  rw [h1, h2, List.map_cons, lit_bytes, mvs_bytes h]
  rw [wc_ban rfl (by simp)]
  unfold banC
  show (if (mvL (ms.map prM)).2 = 0 then ((4, pos0, (mvL (ms.map prM)).1, 0), 0) else _) = _
  rw [mvL_read h (by omega), if_pos rfl]
theorem go_num {d : Int} (h1 : 1 ≤ d) (h : d ≤ 64) : goOk (itoaB d) = true ∧ atoiV (itoaB d) = d ∧ (itoaB d).size ≤ 2 := by
  have hn : numGo (bytesL (itoaB d)) = some d := by rw [itoa_list (by omega)]; exact (dig_num (by omega) (by omega)).1
  obtain ⟨n1, n2⟩ := num_same (itoaB d)
  have hk : numOk (itoaB d) = true := by rw [n1]; unfold num4Ok; rw [hn]
  have hv : atoiV (itoaB d) = d := by rw [n2 hk]; unfold num4V; rw [hn]
  have ho : atoiOk (itoaB d) = true := by
    unfold numOk at hk
    simp only [Bool.and_eq_true] at hk
    exact hk.1.1.1
  refine ⟨?_, hv, ?_⟩
  · unfold goOk
    rw [ho, hv, seq, decide_eq_true h1, decide_eq_true h]; rfl
  · rw [itoa_dig (by omega), size_bytesOf]
    by_cases h10 : d < 10
    · rw [dig_one (by omega) h10]; exact Nat.le_succ 1
    · rw [dig_more (by omega), dig_one (n := d / 10) (by omega) (by omega)]; exact Nat.le_refl 2
theorem back_go {d : Int} (h1 : 1 ≤ d) (h : d ≤ 64) : parseC (joinS [tGo, tDepth, itoaB d] ⟨#[32]⟩) = ((5, pos0, [], d), 0) := by
  obtain ⟨g1, g2, g3⟩ := go_num h1 h
  have hpd : Pr (digL d) := ⟨dig_ne d, fun c hc => by have := dig_bd d c hc; omega, fun c hc => by have := dig_bd d c hc; omega⟩
  have e : [tGo, tDepth, itoaB d] = [bytesL tGo, bytesL tDepth, digL d].map bytesOf := by
    show _ = [bytesOf (bytesL tGo), bytesOf (bytesL tDepth), bytesOf (digL d)]
    rw [lit_bytes, lit_bytes, itoa_dig (by omega)]
  have hpr : ∀ w ∈ [bytesL tGo, bytesL tDepth, digL d], Pr w := by
    intro w hw
    simp only [List.mem_cons, List.not_mem_nil, or_false] at hw
    rcases hw with rfl | rfl | rfl
    · exact pr_go
    · exact pr_depth
    · exact hpd
  have hw : joinS [tGo, tDepth, itoaB d] ⟨#[32]⟩ = bytesOf (joinI 32 [bytesL tGo, bytesL tDepth, digL d]) := by
    rw [e]
    exact joinS_I 32 fun x hx => (hpr x hx).by_
  rw [hw]
  have hdl : (digL d).length ≤ 4 := dig_len (by omega) (by omega)
  obtain ⟨l1, l2⟩ := line_words hpr (by
    refine Nat.le_trans (joinI_sum 32 _) ?_
    have h2 : (bytesL tGo).length = 2 := by decide
    have h3 : (bytesL tDepth).length = 5 := by decide
    simp only [List.map_cons, List.map_nil, List.sum_cons, List.sum_nil, List.length_cons, List.length_nil]
    omega)
  unfold parseC
  rw [l1, l2, ← e]
  rw [wc_go rfl (by simp)]
  unfold goC
  rw [if_pos ⟨rfl, seq _, g3, g1⟩]
  show ((5, pos0, [], atoiV (itoaB d)), (0 : Int)) = _
  rw [g2]
theorem back_one {t : ByteArray} {k : Int} (hk : plainK t = k) (h0 : k ≠ 0) (hp : Pr (bytesL t)) (hz : t.size ≤ 4096) : parseC t = ((k, pos0, [], 0), 0) := by
  obtain ⟨h1, h2⟩ := line_words (L := [bytesL t]) (fun w hw => by rw [List.mem_singleton.1 hw]; exact hp) (by show (bytesL t).length ≤ _; rw [bL_len]; exact hz)
  have e : bytesOf (joinI 32 [bytesL t]) = t := lit_bytes t
  rw [e] at h1 h2
  unfold parseC
  rw [h1, h2]
  show wordsC [bytesOf (bytesL t)] false = _
  rw [lit_bytes]
  exact wc_one hk h0 rfl
end Go.X

namespace Go.X
open Go
def wantC (c : Cmd) : Cmd := (c.1, (if c.1 = 3 then c.2.1 else pos0), (if c.1 = 3 ∨ c.1 = 4 then c.2.2.1 else []), (if c.1 = 5 then c.2.2.2 else 0))
theorem plainW_k {k : Int} (h : plainW k ≠ ByteArray.empty) : plainK (plainW k) = k ∧ k ≠ 0 ∧ k ≠ 3 ∧ k ≠ 4 ∧ k ≠ 5 ∧ Pr (bytesL (plainW k)) ∧ (plainW k).size ≤ 4096 := by
  unfold plainW at *
  split
  · rename_i e; subst e
    refine ⟨?_, by decide, by decide, by decide, by decide, pr_lit (by decide) (by decide), by decide⟩
    unfold plainK; rw [seq, if_pos rfl]
  · split
    · rename_i e; subst e
      refine ⟨?_, by decide, by decide, by decide, by decide, pr_lit (by decide) (by decide), by decide⟩
      unfold plainK; rw [sne (by decide), seq, if_neg (by decide), if_pos rfl]
    · split
      · rename_i e; subst e
        refine ⟨?_, by decide, by decide, by decide, by decide, pr_lit (by decide) (by decide), by decide⟩
        unfold plainK; rw [sne (by decide), sne (by decide), seq, if_neg (by decide), if_neg (by decide), if_pos rfl]
      · split
        · rename_i e; subst e
          refine ⟨?_, by decide, by decide, by decide, by decide, pr_lit (by decide) (by decide), by decide⟩
          unfold plainK; rw [sne (by decide), sne (by decide), sne (by decide), seq, if_neg (by decide), if_neg (by decide), if_neg (by decide), if_pos rfl]
        · split
          · rename_i e; subst e
            refine ⟨?_, by decide, by decide, by decide, by decide, pr_lit (by decide) (by decide), by decide⟩
            unfold plainK; rw [sne (by decide), sne (by decide), sne (by decide), sne (by decide), seq, if_neg (by decide), if_neg (by decide), if_neg (by decide), if_neg (by decide), if_pos rfl]
          · rename_i e1 e2 e3 e4 e5
            rw [if_neg e1, if_neg e2, if_neg e3, if_neg e4, if_neg e5] at h
            exact absurd rfl h
theorem cmd_back {c : Cmd} (hl : c.2.2.1.length ≤ 600) (h : printC c ≠ ByteArray.empty) : parseC (printC c) = (wantC c, 0) := by
  obtain ⟨k, p, ms, d⟩ := c
  unfold printC at *
  unfold wantC
  dsimp only at *
  by_cases h5 : k = 5
  · subst h5
    rw [if_pos rfl] at h ⊢
    split at h
    · exact absurd rfl h
    · rename_i hd
      rw [if_neg hd, back_go (by omega) (by omega)]; rfl
  · rw [if_neg h5] at h ⊢
    by_cases h3 : k = 3
    · subst h3
      rw [if_pos rfl] at h ⊢
      split at h
      · exact absurd rfl h
      · rename_i hb
        rw [if_neg hb]
        have hk : ck p = 0 := Classical.byContradiction fun e => hb (.inl e)
        have hm : badT ms = false := by
          cases e : badT ms with
          | false => rfl
          | true => exact absurd (.inr e) hb
        rw [back_set hk (bad_mv hm) hl]; rfl
    · rw [if_neg h3] at h ⊢
      by_cases h4 : k = 4
      · subst h4
        rw [if_pos rfl] at h ⊢
        split at h
        · exact absurd rfl h
        · rename_i hb
          rw [if_neg hb]
          have hm : badT ms = false := by
            cases e : badT ms with
            | false => rfl
            | true => exact absurd e hb
          rw [back_ban (bad_mv hm) hl]; rfl
      · rw [if_neg h4] at h ⊢
        obtain ⟨e1, e2, _, _, _, e3, e4⟩ := plainW_k h
        rw [back_one e1 e2 e3 e4, if_neg h3, if_neg (by omega), if_neg h5]
theorem jne {L : List ByteArray} {t : ByteArray} (ht : t.size ≠ 0) : joinS (t :: L) ⟨#[32]⟩ ≠ ByteArray.empty := by
  intro e
  have h1 := congrArg (fun b : ByteArray => b.data.toList.length) e
  unfold joinS at h1
  have h2 : (Lib.join ((t :: L).map (·.data.toList)) [32]).length = 0 := h1
  rw [List.map_cons, Lib.join_cons, List.length_append] at h2
  have h3 : t.data.toList.length = t.size := rfl
  omega
structure CmdOk (c : Cmd) : Prop where
  want : wantC c = c
  print : printC c ≠ ByteArray.empty
theorem mvL_ok {l : List ByteArray} (h : (mvL l).2 = 0) : (∀ m ∈ (mvL l).1, mvS m) ∧ (mvL l).1.length = l.length := by
  unfold mvL at *
  split at h
  · exact absurd h (by decide)
  · split at h
    · exact absurd h (by decide)
    · rename_i h1 h2
      rw [if_neg h1, if_neg h2]
      refine ⟨fun m hm => ?_, List.length_map _⟩
      obtain ⟨w, hw, rfl⟩ := List.mem_map.1 hm
      have h3 : (iErr w != 0) = false := by
        cases e : (iErr w != 0) with
        | false => rfl
        | true => exact absurd (List.any_eq_true.2 ⟨w, hw, e⟩) h1
      exact iOk_sq (bneF h3)
theorem text_ne {ms : List (Int × Int)} (h : ∀ m ∈ ms, mvS m) : badT ms = false := by
  unfold badT
  cases ms with
  | nil => simp
  | cons m ms =>
    have hm := h m (by simp)
    rw [text_sq h]
    have : strEq (joinS ((m :: ms).map prM) ⟨#[32]⟩) ByteArray.empty = false := by
      refine sne ?_
      rw [List.map_cons]
      exact jne (by rw [(prM_read hm).z]; decide)
    rw [this]; rfl
theorem ok_set {p : Pos4} {ms : List (Int × Int)} (hk : ck p = 0) (h : ∀ m ∈ ms, mvS m) : CmdOk (3, p, ms, 0) := by
  refine ⟨rfl, ?_⟩
  unfold printC
  rw [if_neg (by dsimp only; omega), if_pos rfl, if_neg (by rintro (e | e); exact e hk; rw [text_ne h] at e; cases e)]
  unfold setW
  split
  · exact jne (by decide)
  · exact jne (by decide)
theorem ok_ban {ms : List (Int × Int)} (h : ∀ m ∈ ms, mvS m) : CmdOk (4, pos0, ms, 0) := by
  refine ⟨rfl, ?_⟩
  unfold printC
  rw [if_neg (by dsimp only; omega), if_neg (by dsimp only; omega), if_pos rfl, if_neg (by dsimp only; rw [text_ne h]; decide)]
  exact jne (by decide)
theorem ok_go {d : Int} (h1 : 1 ≤ d) (h : d ≤ 64) : CmdOk (5, pos0, [], d) := by
  refine ⟨rfl, ?_⟩
  unfold printC
  rw [if_pos rfl, if_neg (by dsimp only; omega)]
  exact jne (by decide)
theorem kcases {t : ByteArray} {k : Int} (h : plainK t = k) (h0 : k ≠ 0) : k = 1 ∨ k = 2 ∨ k = 6 ∨ k = 7 ∨ k = 8 := by
  unfold plainK at h
  split at h
  · exact .inl h.symm
  · split at h
    · exact .inr (.inl h.symm)
    · split at h
      · exact .inr (.inr (.inl h.symm))
      · split at h
        · exact .inr (.inr (.inr (.inl h.symm)))
        · split at h
          · exact .inr (.inr (.inr (.inr h.symm)))
          · exact absurd h.symm h0
theorem ok_one {t : ByteArray} (h0 : plainK t ≠ 0) : CmdOk (plainK t, pos0, [], 0) := by
  rcases kcases rfl h0 with h | h | h | h | h <;> rw [h] <;> exact ⟨rfl, by decide⟩
theorem start_ok : ck startC = 0 := start_ck
theorem set_two (l : List ByteArray) (hz : ∀ n, (joinS ((l.drop 1).take (n - 1)) ⟨#[32]⟩).size ≤ 1000) : ((setC l).2 = 0 ∧ CmdOk (setC l).1 ∧ (setC l).1.2.2.1.length ≤ l.length) ∨ ((setC l).2 ≠ 0 ∧ (setC l).1 = cmd0) := by
  unfold setC
  split
  · exact .inr ⟨by decide, rfl⟩
  · rename_i hn
    split
    · rename_i hm
      refine .inl ⟨rfl, ?_⟩
      have hpos : (posE l (placeN l)).2 = 0 ∧ ck (posE l (placeN l)).1 = 0 := by
        have he : (posE l (placeN l)).2 = 0 := by
          unfold movE at hm
          split at hm
          · rename_i h; exact h.1
          · exact hm
        refine ⟨he, ?_⟩
        unfold posE at *
        split at he
        · rename_i h1; rw [if_pos h1]; exact start_ok
        · rename_i h1
          rw [if_neg h1]
          rcases parse_two (hz (placeN l)) with ⟨_, h⟩ | ⟨h, _⟩
          · exact h
          · exact absurd he h
      have hmv : (∀ m ∈ (movE l (placeN l) (posE l (placeN l)).2).1, mvS m) ∧ (movE l (placeN l) (posE l (placeN l)).2).1.length ≤ l.length := by
        unfold movE at *
        split at hm
        · rename_i h1
          rw [if_pos h1]
          have := mvL_ok hm
          refine ⟨this.1, ?_⟩
          rw [this.2, List.length_drop]; omega
        · rename_i h1
          rw [if_neg h1]
          exact ⟨by simp, by simp⟩
      exact ⟨ok_set hpos.2 hmv.1, hmv.2⟩
    · rename_i hm
      exact .inr ⟨hm, rfl⟩
theorem words_two (l : List ByteArray) (nl : Bool) (hz : ∀ n, (joinS (((l.drop 1).drop 1).take (n - 1)) ⟨#[32]⟩).size ≤ 1000) : ((wordsC l nl).2 = 0 ∧ CmdOk (wordsC l nl).1 ∧ (wordsC l nl).1.2.2.1.length ≤ l.length) ∨ ((wordsC l nl).2 ≠ 0 ∧ (wordsC l nl).1 = cmd0) := by
  unfold wordsC
  split
  · exact .inr ⟨by decide, rfl⟩
  · split
    · rename_i h
      exact .inl ⟨rfl, ok_one h.1, by simp⟩
    · split
      · unfold goC
        split
        · rename_i h
          have h4 := h.2.2.2
          unfold goOk at h4
          simp only [Bool.and_eq_true, decide_eq_true_eq] at h4
          exact .inl ⟨rfl, ok_go h4.1.1.2 h4.1.2, by simp⟩
        · exact .inr ⟨by decide, rfl⟩
      · split
        · unfold banC
          split
          · rename_i h
            have := mvL_ok h
            refine .inl ⟨rfl, ok_ban this.1, ?_⟩
            show (mvL (l.drop 1)).1.length ≤ _
            rw [this.2, List.length_drop]; omega
          · rename_i h; exact .inr ⟨h, rfl⟩
        · split
          · rcases set_two (l.drop 1) hz with ⟨h1, h2, h3⟩ | h
            · refine .inl ⟨h1, h2, Nat.le_trans h3 ?_⟩
              rw [List.length_drop]; omega
            · exact .inr h
          · exact .inr ⟨by decide, rfl⟩
theorem joinI_eq (s : Int) (L : List (List Int)) : (joinI s L).length = (L.map (·.length)).sum + L.length - 1 := by
  induction L with
  | nil => rfl
  | cons x L ih =>
    by_cases hL : L = []
    · subst hL; simp [joinI]
    · have h0 : L.length ≠ 0 := fun e => hL (List.length_eq_zero_iff.1 e)
      rw [joinI_cons s x hL]; simp only [List.length_append, List.length_cons, List.map_cons, List.sum_cons, ih]; omega
theorem sub_sum {A B : List (List Int)} (h : A.Sublist B) : (A.map (·.length)).sum ≤ (B.map (·.length)).sum := by
  induction h with
  | slnil => simp
  | cons x _ ih => simp only [List.map_cons, List.sum_cons]; omega
  | cons_cons x _ ih => simp only [List.map_cons, List.sum_cons]; omega
theorem sub_join {A B : List (List Int)} (h : A.Sublist B) : (joinI 32 A).length ≤ (joinI 32 B).length := by
  rw [joinI_eq, joinI_eq]
  have h1 := sub_sum h
  have h2 := h.length_le
  omega
theorem words_small {b : List Int} {A : List (List Int)} (h : A.Sublist (wordsL b)) : (joinI 32 A).length ≤ b.length := by
  have h1 : A.Sublist (cutAt 32 (b.map tabL)) := h.trans List.filter_sublist
  have := sub_join h1
  rw [join_cut, List.length_map] at this
  exact this
theorem joinS_size (L : List (List Int)) (h : ∀ x ∈ L, ∀ y ∈ x, 0 ≤ y ∧ y < 256) : (joinS (L.map bytesOf) ⟨#[32]⟩).size = (joinI 32 L).length := by
  have := joinS_I 32 h
  rw [show (⟨#[32]⟩ : ByteArray) = ⟨#[32]⟩ from rfl] at this ⊢
  rw [this, size_bytesOf]; rfl
theorem words_by {s : ByteArray} : ∀ w ∈ wordsL (bytesL s), ∀ c ∈ w, 0 ≤ c ∧ c < 256 := fun _ hw c hc => bytesL_bound s c ((words_mem hw).2 c hc)
theorem joined_small {s : ByteArray} (n m i : Nat) : (joinS ((((wB s).drop n).drop m).take i) ⟨#[32]⟩).size ≤ s.size := by
  unfold wB
  split
  · have : (([] : List ByteArray).drop n |>.drop m |>.take i) = [] := by simp
    rw [this]; exact Nat.zero_le _
  · rw [← List.map_drop, ← List.map_drop, ← List.map_take]
    have hs : ((((wordsL (bytesL s)).drop n).drop m).take i).Sublist (wordsL (bytesL s)) := (List.take_sublist _ _).trans ((List.drop_sublist _ _).trans (List.drop_sublist _ _))
    rw [joinS_size _ fun x hx => words_by x (hs.subset hx)]
    have := words_small hs
    rw [bL_len] at this; exact this
theorem words_count (s : ByteArray) : (wB s).length ≤ s.size + 1 := by
  unfold wB
  split
  · exact Nat.zero_le _
  · rw [List.length_map]
    have := words_len (bytesL s)
    rw [bL_len] at this; exact this
theorem cmd_again {s : ByteArray} (hs : s.size ≤ 600) : ((parseC s).2 = 0 ∧ printC (parseC s).1 ≠ ByteArray.empty ∧ parseC (printC (parseC s).1) = ((parseC s).1, 0)) ∨ ((parseC s).2 ≠ 0 ∧ (parseC s).1 = cmd0) := by
  have h := words_two (wB s) (nlB s) (fun n => by have := joined_small (s := s) 1 1 (n - 1); omega)
  rcases h with ⟨h1, h2, h3⟩ | h
  · refine .inl ⟨h1, h2.print, ?_⟩
    have hc := words_count s
    have hl : (parseC s).1.2.2.1.length ≤ 600 := by
      have h3 : (parseC s).1.2.2.1.length ≤ (wB s).length := h3
      by_cases he : (wB s).length ≤ 600
      · omega
      · -- more words than bytes cannot be
        exfalso
        unfold wB at he
        rw [if_neg (by omega), List.length_map] at he
        have h6 := words_small (b := bytesL s) (List.Sublist.refl _)
        rw [joinI_eq, bL_len] at h6
        have h7 : (wordsL (bytesL s)).length ≤ ((wordsL (bytesL s)).map (·.length)).sum := by
          have : ∀ L : List (List Int), (∀ w ∈ L, w ≠ []) → L.length ≤ (L.map (·.length)).sum := by
            intro L
            induction L with
            | nil => intro _; simp
            | cons w L ih =>
              intro h
              have h1 := ih fun x hx => h x (by simp [hx])
              have h2 : w.length ≠ 0 := fun e => h w (by simp) (List.length_eq_zero_iff.1 e)
              simp only [List.length_cons, List.map_cons, List.sum_cons]; omega
          exact this _ fun w hw => (words_mem hw).1.1
        omega
    have := cmd_back hl h2.print
    have hw : wantC (parseC s).1 = (parseC s).1 := h2.want
    rw [this, hw]
  · exact .inr h
theorem cmd_blanks {s t : ByteArray} (h : wB t = wB s) (hn : nlB t = nlB s) : parseC t = parseC s := by unfold parseC; rw [h, hn]
theorem nl_fail {s : ByteArray} (h : nlB s = true) : parseC s = (cmd0, 9) := by
  unfold parseC wordsC
  rw [if_pos (.inr h)]
end Go.X

namespace Go.X
open Go
def spT (ms : List (Int × Int)) : ByteArray := ms.foldl (fun r m => r ++ ⟨#[32]⟩ ++ prM m) ByteArray.empty
def okT (ms : List (Int × Int)) : Bool := ms.all fun m => !strEq (prM m) ⟨#[]⟩
theorem bA {a b : ByteArray} (h : a.data.toList = b.data.toList) : a = b := ByteArray.ext (Array.toList_inj.1 h)
theorem aD (a b : ByteArray) : (a ++ b).data.toList = a.data.toList ++ b.data.toList := by
  rw [ByteArray.data_append, Array.toList_append]
theorem bAss (a b c : ByteArray) : a ++ b ++ c = a ++ (b ++ c) := bA (by simp only [aD, List.append_assoc])
theorem emp_app (a : ByteArray) : ByteArray.empty ++ a = a := bA (by rw [aD]; rfl)
theorem joinS_one (a sep : ByteArray) : joinS [a] sep = a := bA (Lib.join_one a.data.toList sep.data.toList)
theorem joinS_two (a b : ByteArray) (L : List ByteArray) (sep : ByteArray) : joinS (a :: b :: L) sep = a ++ sep ++ joinS (b :: L) sep := bA (by
  rw [aD, aD]
  unfold joinS
  simp only [List.map_cons, Lib.join_cons, Lib.joinTail, List.flatten_cons, List.append_assoc])
theorem joinS_put (a b : ByteArray) (L : List ByteArray) (sep : ByteArray) : joinS (a :: b :: L) sep = joinS ((a ++ sep ++ b) :: L) sep := by
  cases L with
  | nil => rw [joinS_two, joinS_one, joinS_one]
  | cons c L => rw [joinS_two, joinS_two, joinS_two]; simp only [bAss]
theorem joinS_fold (sep : ByteArray) : ∀ (L : List ByteArray) (a : ByteArray), joinS (a :: L) sep = L.foldl (fun r x => r ++ sep ++ x) a := by
  intro L
  induction L with
  | nil => intro a; exact joinS_one a sep
  | cons b L ih => intro a; rw [joinS_put, ih]; rfl
theorem fold_front (x : ByteArray) : ∀ (ms : List (Int × Int)) (a : ByteArray), ms.foldl (fun r m => r ++ ⟨#[32]⟩ ++ prM m) (x ++ a) = x ++ ms.foldl (fun r m => r ++ ⟨#[32]⟩ ++ prM m) a := by
  intro ms
  induction ms with
  | nil => intro a; rfl
  | cons m ms ih => intro a; rw [List.foldl_cons, List.foldl_cons, ← ih]; simp only [bAss]
theorem spT_join {ms : List (Int × Int)} (hm : ms ≠ []) : spT ms = ⟨#[32]⟩ ++ joinS (ms.map prM) ⟨#[32]⟩ := by
  cases ms with
  | nil => exact absurd rfl hm
  | cons m ms =>
    rw [List.map_cons, joinS_fold]
    unfold spT
    rw [List.foldl_cons, emp_app, fold_front, List.foldl_map]
theorem ok_mv {ms : List (Int × Int)} (h : okT ms = true) : ∀ m ∈ ms, mvS m := by
  intro m hmem
  have := List.all_eq_true.1 h m hmem
  refine Classical.byContradiction fun hn => ?_
  have hp : prM m = ⟨#[]⟩ := by
    unfold prM
    refine print_no fun hh => hn ?_
    exact ⟨⟨(isSquare_iff.1 hh.1).1, (isSquare_iff.1 hh.1).2⟩, ⟨(isSquare_iff.1 hh.2).1, (isSquare_iff.1 hh.2).2⟩⟩
  rw [hp, (strEq_iff _ _).2 rfl] at this
  exact Bool.noConfusion this
theorem bad_ok (ms : List (Int × Int)) : badT ms = !okT ms := by
  cases h : okT ms with
  | true => exact text_ne (ok_mv h)
  | false =>
    have h1 : spText ms = ⟨#[]⟩ := if_neg (by unfold okT at h; rw [h]; exact Bool.noConfusion)
    have h2 : ms.isEmpty = false := by
      cases ms with
      | nil => exact absurd h (by decide)
      | cons x l => rfl
    unfold badT
    rw [h1, h2, show strEq ⟨#[]⟩ ByteArray.empty = true from (strEq_iff _ _).2 rfl]; rfl
theorem spText_ok {ms : List (Int × Int)} (h : okT ms = true) : spText ms = joinS (ms.map prM) ⟨#[32]⟩ := if_pos h
def goLit : ByteArray := ⟨#[103, 111, 32, 100, 101, 112, 116, 104, 32]⟩
def stLit : ByteArray := ⟨#[112, 111, 115, 105, 116, 105, 111, 110, 32, 115, 116, 97, 114, 116, 112, 111, 115]⟩
def feLit : ByteArray := ⟨#[112, 111, 115, 105, 116, 105, 111, 110, 32, 102, 101, 110, 32]⟩
def mvLit : ByteArray := ⟨#[32, 109, 111, 118, 101, 115]⟩
theorem go23 {p : Pos4} {ms : List (Int × Int)} {d : Int} (h1 : 1 ≤ d) (h : d ≤ 64) : goLit ++ bytesOf (digL d) = printC (5, p, ms, d) := by
  have : printC (5, p, ms, d) = joinS [tGo, tDepth, itoaB d] ⟨#[32]⟩ := by
    unfold printC
    rw [if_pos rfl, if_neg (by show ¬ (d < 1 ∨ 64 < d); omega)]
  rw [this, joinS_two, joinS_two, joinS_one, itoa_dig (by omega)]
  have e : goLit = tGo ++ ⟨#[32]⟩ ++ (tDepth ++ ⟨#[32]⟩) := by decide +kernel
  rw [e]; simp only [bAss]
theorem go23n {p : Pos4} {ms : List (Int × Int)} {d : Int} (h : d < 1 ∨ 64 < d) : ByteArray.empty = printC (5, p, ms, d) := by
  unfold printC
  rw [if_pos rfl, if_pos h]
theorem ban23 {p : Pos4} {ms : List (Int × Int)} {d : Int} (h : okT ms = true) : tBan ++ spT ms = printC (4, p, ms, d) := by
  have e : printC (4, p, ms, d) = joinS ([tBan] ++ if ms = [] then [] else [spText ms]) ⟨#[32]⟩ := by
    unfold printC
    rw [if_neg (show ¬ ((4 : Int) = 5) by decide), if_neg (show ¬ ((4 : Int) = 3) by decide), if_pos rfl, if_neg (by show ¬ badT ms = true; rw [bad_ok, h]; exact Bool.noConfusion)]
  rw [e]
  by_cases hm : ms = []
  · subst hm
    rw [if_pos rfl]
    show tBan ++ ByteArray.empty = joinS [tBan] _
    rw [joinS_one]; exact bA (by rw [aD]; simp)
  · rw [if_neg hm, spT_join hm, spText_ok h]
    show _ = joinS [tBan, _] _
    rw [joinS_two, joinS_one, bAss]
theorem ban23n {p : Pos4} {ms : List (Int × Int)} {d : Int} (h : okT ms = false) : ByteArray.empty = printC (4, p, ms, d) := by
  unfold printC
  rw [if_neg (show ¬ ((4 : Int) = 5) by decide), if_neg (show ¬ ((4 : Int) = 3) by decide), if_pos rfl, if_pos (by show badT ms = true; rw [bad_ok, h]; rfl)]
theorem set23 {p : Pos4} {ms : List (Int × Int)} {d : Int} (hk : ck p = 0) (h : okT ms = true) :
    printC (3, p, ms, d) = (if p = startC then stLit else feLit ++ prB p) ++ (if ms = [] then ByteArray.empty else mvLit ++ spT ms) := by
  have e : printC (3, p, ms, d) = joinS (setW p ms) ⟨#[32]⟩ := by
    unfold printC
    rw [if_neg (show ¬ ((3 : Int) = 5) by decide), if_pos rfl, if_neg]
    rintro (h1 | h1)
    · exact h1 hk
    · rw [bad_ok, h] at h1; exact Bool.noConfusion h1
  have e1 : stLit = tPosition ++ ⟨#[32]⟩ ++ tStart := by decide +kernel
  have e2 : feLit = tPosition ++ ⟨#[32]⟩ ++ (tFen ++ ⟨#[32]⟩) := by decide +kernel
  have e3 : mvLit = ⟨#[32]⟩ ++ tMoves := by decide +kernel
  have hd : ∀ a : ByteArray, a ++ ByteArray.empty = a := fun a => bA (by rw [aD]; simp)
  rw [e]
  unfold setW
  by_cases hp : p = startC
  · rw [if_pos hp, if_pos hp]
    by_cases hm : ms = []
    · rw [if_pos hm, if_pos hm, List.append_nil, joinS_two, joinS_one, hd, e1]
    · rw [if_neg hm, if_neg hm, spT_join hm, spText_ok h]
      show joinS [tPosition, tStart, tMoves, _] _ = _
      rw [joinS_two, joinS_two, joinS_two, joinS_one, e1, e3]; simp only [bAss]
  · rw [if_neg hp, if_neg hp]
    by_cases hm : ms = []
    · rw [if_pos hm, if_pos hm, List.append_nil, joinS_two, joinS_two, joinS_one, hd, e2]; simp only [bAss]
    · rw [if_neg hm, if_neg hm, spT_join hm, spText_ok h]
      show joinS [tPosition, tFen, prB p, tMoves, _] _ = _
      rw [joinS_two, joinS_two, joinS_two, joinS_two, joinS_one, e2, e3]; simp only [bAss]
theorem set23n {p : Pos4} {ms : List (Int × Int)} {d : Int} (h : ck p ≠ 0 ∨ okT ms = false) : ByteArray.empty = printC (3, p, ms, d) := by
  unfold printC
  rw [if_neg (show ¬ ((3 : Int) = 5) by decide), if_pos rfl, if_pos]
  rcases h with h | h
  · exact .inl h
  · refine .inr ?_
    show badT ms = true
    rw [bad_ok, h]; rfl
theorem one23 {p : Pos4} {ms : List (Int × Int)} {k d : Int} (h5 : k ≠ 5) (h3 : k ≠ 3) (h4 : k ≠ 4) : plainW k = printC (k, p, ms, d) := by
  unfold printC
  rw [if_neg h5, if_neg h3, if_neg h4]
end Go.X

namespace Go.X
open Go

def spIdxS (f : ByteArray → Bool) (l : List ByteArray) : Int := match l.findIdx? f with | some i => Int.ofNat i | none => -1
theorem idx_noneS {f : ByteArray → Bool} {l : List ByteArray} (h : ∀ x ∈ l.take l.length, f x = false) : spIdxS f l = -1 := by
  have : l.findIdx? f = none := by rw [List.findIdx?_eq_none_iff]; simpa using h
  rw [spIdxS, this]
theorem idx_someS {f : ByteArray → Bool} {l : List ByteArray} {i : Nat} (hi : i < l.length) (h : ∀ x ∈ l.take i, f x = false) (hx : f (l.getD i ByteArray.empty) = true) : spIdxS f l = Int.ofNat i := by
  have e : l.getD i ByteArray.empty = l[i] := by simp [List.getD_eq_getElem?_getD, List.getElem?_eq_getElem hi]
  have : l.findIdx? f = some i := by
    rw [List.findIdx?_eq_some_iff_getElem]
    refine ⟨hi, by rw [← e]; exact hx, fun j hj => ?_⟩
    have := h l[j] (by rw [List.mem_take_iff_getElem]; exact ⟨j, by omega, rfl⟩)
    simp [this]
  rw [spIdxS, this]
theorem take_nextS {f : ByteArray → Bool} {l : List ByteArray} {i : Nat} (hi : i < l.length) (h : ∀ x ∈ l.take i, f x = false) (hx : f (l.getD i ByteArray.empty) = false) : ∀ x ∈ l.take (i + 1), f x = false := by
  have e : l.getD i ByteArray.empty = l[i] := by simp [List.getD_eq_getElem?_getD, List.getElem?_eq_getElem hi]
  intro x hm
  rw [List.take_succ_eq_append_getElem hi, List.mem_append, List.mem_singleton] at hm
  rcases hm with hm | hm
  · exact h x hm
  · rw [hm, ← e]; exact hx
theorem idx_specS (f : ByteArray → Bool) (l : List ByteArray) : (spIdxS f l = -1 ∧ l.any f = false) ∨ ∃ i : Nat, i < l.length ∧ spIdxS f l = Int.ofNat i ∧ (∀ x ∈ l.take i, f x = false) ∧ f (l.getD i ByteArray.empty) = true := by
  cases h : l.findIdx? f with
  | none =>
    left
    refine ⟨by rw [spIdxS, h], ?_⟩
    rw [List.findIdx?_eq_none_iff] at h
    simpa using h
  | some i =>
    right
    rw [List.findIdx?_eq_some_iff_getElem] at h
    obtain ⟨hi, h1, h2⟩ := h
    have e : l.getD i ByteArray.empty = l[i] := by simp [List.getD_eq_getElem?_getD, List.getElem?_eq_getElem hi]
    refine ⟨i, hi, idx_someS hi ?_ (by rw [e]; exact h1), ?_, by rw [e]; exact h1⟩
    all_goals
      intro x hx
      rw [List.mem_take_iff_getElem] at hx
      obtain ⟨j, hj, rfl⟩ := hx
      have := h2 j (by omega)
      simpa using this
structure DelInvS (f : ByteArray → Bool) (l : List ByteArray) (w j : Nat) (row : List ByteArray) : Prop where
  lt : w < j
  le : j ≤ l.length
  len : row.length = l.length
  kept : row.take w = (l.take j).filter (fun x => !f x)
  rest : row.drop j = l.drop j
theorem DelInvS.start {f : ByteArray → Bool} {l : List ByteArray} {w : Nat} (hw : w < l.length) (h : ∀ x ∈ l.take w, f x = false) (hx : f (l.getD w ByteArray.empty) = true) : DelInvS f l w (w + 1) l := by
  have e : l.getD w ByteArray.empty = l[w] := by simp [List.getD_eq_getElem?_getD, List.getElem?_eq_getElem hw]
  refine ⟨by omega, by omega, rfl, ?_, rfl⟩
  rw [List.take_succ_eq_append_getElem hw, List.filter_append, List.filter_eq_self.2 (fun x hm => by simp [h x hm])]
  rw [e] at hx
  simp [hx]
theorem DelInvS.get {f : ByteArray → Bool} {l : List ByteArray} {w j : Nat} {row : List ByteArray} (h : DelInvS f l w j row) (hj : j < l.length) : row.getD j ByteArray.empty = l[j] := by
  have h1 : row.drop j = l.drop j := h.rest
  have h2 := congrArg (fun m => m[0]?) h1
  simp only [List.getElem?_drop, Nat.add_zero] at h2
  rw [List.getD_eq_getElem?_getD, h2, List.getElem?_eq_getElem hj]; rfl
theorem DelInvS.del {f : ByteArray → Bool} {l : List ByteArray} {w j : Nat} {row : List ByteArray} (h : DelInvS f l w j row) (hj : j < l.length) (hx' : (!f (row.getD j ByteArray.empty)) = false) : DelInvS f l w (j + 1) row := by
  have hx : f (row.getD j ByteArray.empty) = true := by simpa using hx'
  rw [h.get hj] at hx
  refine ⟨by have := h.lt; omega, by omega, h.len, ?_, ?_⟩
  · rw [h.kept, List.take_succ_eq_append_getElem hj, List.filter_append]; simp [hx]
  · have := congrArg (List.drop 1) h.rest
    simpa [List.drop_drop, Nat.add_comm] using this
theorem DelInvS.keep {f : ByteArray → Bool} {l : List ByteArray} {w j : Nat} {row : List ByteArray} (h : DelInvS f l w j row) (hj : j < l.length) (hx' : (!f (row.getD j ByteArray.empty)) = true) : DelInvS f l (w + 1) (j + 1) (row.set w (row.getD j ByteArray.empty)) := by
  have hx : f (row.getD j ByteArray.empty) = false := by simpa using hx'
  have hlt := h.lt
  have hlen := h.len
  rw [h.get hj] at hx ⊢
  refine ⟨by omega, by omega, by simpa using hlen, ?_, ?_⟩
  · rw [List.take_succ_eq_append_getElem (by simp; omega), List.take_set_of_le (by omega), h.kept, List.take_succ_eq_append_getElem hj, List.filter_append]
    simp [hx]
  · rw [List.drop_set_of_lt (by omega)]
    have := congrArg (List.drop 1) h.rest
    simpa [List.drop_drop, Nat.add_comm] using this
theorem DelInvS.done {f : ByteArray → Bool} {l : List ByteArray} {w j : Nat} {row : List ByteArray} (h : DelInvS f l w j row) (hj : ¬ j < l.length) : row.take w = l.filter (fun x => !f x) := by
  have := h.le
  rw [h.kept, List.take_of_length_le (by omega)]
theorem idx_allS {f : ByteArray → Bool} {l : List ByteArray} (h : l.any f = false) : l.filter (fun x => !f x) = l := by
  rw [List.filter_eq_self]; intro x hx
  have : ∀ x ∈ l, f x = false := by simpa using h
  simp [this x hx]

theorem idx_hit (c : UInt8) : ∀ l : List UInt8, (Lib.indexByte l c = -1 ∧ l.count c = 0) ∨ ∃ a r, l = a ++ c :: r ∧ c ∉ a ∧ Lib.indexByte l c = (a.length : Int) := by
  intro l
  induction l with
  | nil => exact .inl ⟨rfl, rfl⟩
  | cons x l ih =>
    by_cases hx : x = c
    · subst hx
      exact .inr ⟨[], l, rfl, by simp, by simp [Lib.indexByte]⟩
    · have hx' : (x == c) = false := by simpa using hx
      rw [Lib.indexByte, if_neg (by rw [hx']; exact Bool.noConfusion)]
      rcases ih with ⟨h1, h2⟩ | ⟨a, r, h1, h2, h3⟩
      · exact .inl ⟨by rw [h1]; rfl, by rw [List.count_cons, h2, hx']; simp⟩
      · refine .inr ⟨x :: a, r, by rw [h1]; rfl, by simp only [List.mem_cons, not_or]; exact ⟨fun e => hx e.symm, h2⟩, ?_⟩
        rw [h3, if_neg (by simp)]; simp
def subU (o n : UInt8) (b : UInt8) : UInt8 := if b = o then n else b
theorem sub_none {o n : UInt8} {l : List UInt8} (h : o ∉ l) : l.map (subU o n) = l := by
  conv => rhs; rw [← List.map_id l]
  refine List.map_congr_left fun b hb => ?_
  show subU o n b = b
  unfold subU
  rw [if_neg]
  intro e; subst e; exact h hb
theorem repl_k (o n : UInt8) : ∀ (k : Nat) (l : List UInt8), l.count o = k → Lib.replaceK [o] [n] k l = l.map (subU o n) := by
  intro k
  induction k with
  | zero =>
    intro l h
    rw [sub_none (List.count_eq_zero.1 h)]; rfl
  | succ k ih =>
    intro l h
    rcases idx_hit o l with ⟨_, h2⟩ | ⟨a, r, h1, h2, h3⟩
    · omega
    · have hc : r.count o = k := by
        rw [h1, List.count_append, List.count_eq_zero.2 h2, List.count_cons_self] at h
        omega
      rw [Lib.replaceK_hit [o] [n] k l a.length (by rw [Lib.index_one]; exact h3)]
      subst h1
      have e1 : (a ++ o :: r).take a.length = a := by simp
      have e2 : (a ++ o :: r).drop (a.length + [o].length) = r := by
        rw [show a.length + [o].length = (a ++ [o]).length by simp, show a ++ o :: r = (a ++ [o]) ++ r by simp, List.drop_left]
      rw [e1, e2, ih r hc, List.map_append, List.map_cons, sub_none h2]
      have : subU o n o = n := if_pos rfl
      rw [this]; simp
def tabB (s : ByteArray) : ByteArray := bytesOf ((bytesL s).map tabL)
theorem tab_sub (b : UInt8) : UInt8.ofNat (tabL (b.toNat : Int)).toNat = subU 9 32 b := by
  unfold tabL subU
  by_cases h : b = 9
  · subst h; rfl
  · rw [if_neg h, if_neg]
    · simp
    · intro e; exact h (UInt8.toNat_inj.1 (by have : (9 : UInt8).toNat = 9 := rfl; omega))
theorem repl_all (s : ByteArray) : (⟨(Lib.replaceAll s.data.toList [9] [32]).toArray⟩ : ByteArray) = tabB s := by
  have h : Lib.replaceAll s.data.toList [9] [32] = s.data.toList.map (subU 9 32) := by
    unfold Lib.replaceAll Lib.replace
    rw [if_neg (by decide)]
    unfold Lib.replaceNum
    rw [if_pos (.inl (by omega))]
    exact repl_k 9 32 _ _ (Lib.count_one 9 _).symm
  rw [h]
  apply ByteArray.ext
  apply Array.toList_inj.1
  unfold tabB
  rw [bytesOf_list]
  unfold bytesL
  rw [List.map_map, List.map_map]
  exact List.map_congr_left fun b _ => (tab_sub b).symm
theorem tab_by (s : ByteArray) : ∀ n ∈ (bytesL s).map tabL, 0 ≤ n ∧ n < 256 := by
  intro n hn
  obtain ⟨m, hm, rfl⟩ := List.mem_map.1 hn
  have := bytesL_bound s m hm
  unfold tabL
  split <;> omega
theorem tab_size (s : ByteArray) : (tabB s).size = s.size := by
  unfold tabB
  rw [bytesOf_size, List.length_map]
  exact List.length_map _
def neB (x : ByteArray) : Bool := strEq ByteArray.empty x
theorem ne_full (p : List Int) : (!neB (bytesOf p)) = fullB p := by
  unfold neB fullB
  congr 1
  cases p with
  | nil => exact (strEq_iff _ _).2 rfl
  | cons x p =>
    have : ¬ (ByteArray.empty = bytesOf (x :: p)) := by
      intro e
      have := congrArg ByteArray.size e
      rw [bytesOf_size] at this
      simp at this
    cases h : strEq ByteArray.empty (bytesOf (x :: p)) with
    | false => rfl
    | true => exact absurd ((strEq_iff _ _).1 h) this
theorem words_prog (s : ByteArray) : (pieces 32 (tabB s)).filter (fun x => !neB x) = (wordsL (bytesL s)).map bytesOf := by
  unfold pieces wordsL
  rw [List.filter_map]
  unfold tabB
  rw [bytesL_of (tab_by s)]
  congr 1
  refine List.filter_congr fun p _ => ?_
  exact ne_full p
theorem pieces_count (c : Int) (s : ByteArray) : (pieces c s).length ≤ s.size + 1 := by
  unfold pieces
  rw [List.length_map]
  have := cutAt_len c (bytesL s)
  have e : (bytesL s).length = s.size := List.length_map _
  omega

theorem nl_any (s : ByteArray) : Lib.containsAny s.data.toList [10, 13] = nlB s := by
  unfold Lib.containsAny nlB bytesL
  generalize s.data.toList = l
  induction l with
  | nil => rfl
  | cons b l ih =>
    have hge := Lib.indexAny_ge [10, 13] l
    rw [List.map_cons, List.any_cons, ← ih, Lib.indexAny]
    by_cases h : b = 10 ∨ b = 13
    · have h1 : ([10, 13] : List UInt8).contains b = true := by rcases h with rfl | rfl <;> rfl
      have h2 : ((b.toNat : Int) == 10 || (b.toNat : Int) == 13) = true := by rcases h with rfl | rfl <;> rfl
      rw [if_pos h1, h2]; rfl
    · have h1 : ([10, 13] : List UInt8).contains b = false := by
        simp only [not_or] at h
        simp [h.1, h.2]
      have h2 : ((b.toNat : Int) == 10 || (b.toNat : Int) == 13) = false := by
        simp only [not_or] at h
        rw [Bool.or_eq_false_iff]
        exact ⟨beq_eq_false_iff_ne.2 fun e => h.1 (UInt8.toNat_inj.1 (by have : (10 : UInt8).toNat = 10 := rfl; omega)), beq_eq_false_iff_ne.2 fun e => h.2 (UInt8.toNat_inj.1 (by have : (13 : UInt8).toNat = 13 := rfl; omega))⟩
      rw [h1, if_neg Bool.false_ne_true, h2, Bool.false_or]
      by_cases h3 : Lib.indexAny l [10, 13] = -1
      · rw [if_pos (by rw [h3]; rfl), h3]
      · rw [if_neg (by simpa using h3)]
        rw [Bool.eq_iff_iff]
        simp only [decide_eq_true_eq]
        omega
end Go.X

namespace Go.X
open Go

def sameT (l m : List ByteArray) : Bool := decide (l = m)
def txL (ms : List (Int × Int)) : ByteArray × Bool := if okT ms = true then (spT ms, true) else (ByteArray.empty, false)
theorem getD_memB {l : List ByteArray} {i : Nat} (hi : i < l.length) : l.getD i ByteArray.empty ∈ l := by
  rw [List.getD_eq_getElem?_getD, List.getElem?_eq_getElem hi]; exact List.getElem_mem hi
theorem mv_bad {l : List ByteArray} {i : Nat} (hi : i < l.length) (h : (iErr (l.getD i ByteArray.empty) != 0) = true) : mvL l = ([], iErr (l.getD i ByteArray.empty)) := by
  unfold mvL
  rw [if_pos (List.any_eq_true.2 ⟨_, getD_memB hi, h⟩)]
  have : iErr (l.getD i ByteArray.empty) = 6 := by
    have h := bneT h
    unfold iErr at h ⊢
    split
    · rename_i h2; rw [if_pos h2] at h; exact absurd rfl h
    · rfl
  rw [this]
theorem mv_all {l : List ByteArray} (h : ∀ j, j < l.length → iErr (l.getD j ByteArray.empty) = 0) : mvL l = if 1024 < l.length then ([], 8) else (l.map tokM, 0) := by
  unfold mvL
  rw [if_neg]
  intro ha
  obtain ⟨w, hw, h2⟩ := List.any_eq_true.1 ha
  obtain ⟨j, hj, rfl⟩ := List.mem_iff_getElem.1 hw
  have := h j hj
  rw [List.getD_eq_getElem?_getD, List.getElem?_eq_getElem hj] at this
  rw [show l[j] = (some l[j]).getD ByteArray.empty from rfl, this] at h2
  exact absurd h2 (by decide)
theorem same_lenT {l m : List ByteArray} (h : ((l.length : Int) != (m.length : Int)) = true) : sameT l m = false := by
  refine decide_eq_false fun e => ?_
  subst e
  exact bneT h rfl
theorem same_noT {l m : List ByteArray} {i : Nat} (h : (!strEq (l.getD i ByteArray.empty) (m.getD i ByteArray.empty)) = true) : sameT l m = false := by
  refine decide_eq_false fun e => ?_
  subst e
  rw [seq] at h; exact Bool.noConfusion h
theorem same_yesT {l m : List ByteArray} (hl : l.length = m.length) (h : ∀ j, j < l.length → l.getD j ByteArray.empty = m.getD j ByteArray.empty) : sameT l m = true := by
  refine decide_eq_true (List.ext_getElem hl fun j h1 h2 => ?_)
  have := h j h1
  rw [List.getD_eq_getElem?_getD, List.getElem?_eq_getElem h1, List.getD_eq_getElem?_getD, List.getElem?_eq_getElem h2] at this
  exact this
theorem spT_next {l : List (Int × Int)} {i : Nat} (hi : i < l.length) : spT (l.take (i + 1)) = spT (l.take i) ++ ⟨#[32]⟩ ++ prM (l.getD i (0, 0)) := by
  unfold spT
  rw [List.take_succ_eq_append_getElem hi, List.foldl_append, List.getD_eq_getElem?_getD, List.getElem?_eq_getElem hi]; rfl
theorem tx_bad {l : List (Int × Int)} {i : Nat} (hi : i < l.length) (h : strEq (prM (l.getD i (0, 0))) ⟨#[]⟩ = true) : txL l = (ByteArray.empty, false) := by
  unfold txL
  rw [if_neg]
  intro ha
  have := List.all_eq_true.1 ha (l.getD i (0, 0)) (by rw [List.getD_eq_getElem?_getD, List.getElem?_eq_getElem hi]; exact List.getElem_mem hi)
  rw [h] at this; exact Bool.noConfusion this
theorem tx_ok {l : List (Int × Int)} (h : ∀ j, j < l.length → strEq (prM (l.getD j (0, 0))) ⟨#[]⟩ = false) : txL l = (spT l, true) := by
  unfold txL
  rw [if_pos]
  refine List.all_eq_true.2 fun m hm => ?_
  obtain ⟨j, hj, rfl⟩ := List.mem_iff_getElem.1 hm
  have := h j hj
  rw [List.getD_eq_getElem?_getD, List.getElem?_eq_getElem hj] at this
  rw [show l[j] = (some l[j]).getD (0, 0) from rfl, this]; rfl
theorem spT_size (l : List (Int × Int)) : (spT l).size ≤ 5 * l.length := by
  unfold spT
  have key : ∀ (l : List (Int × Int)) (a : ByteArray), (l.foldl (fun r m => r ++ ⟨#[32]⟩ ++ prM m) a).size ≤ a.size + 5 * l.length := by
    intro l
    induction l with
    | nil => intro a; simp
    | cons m l ih =>
      intro a
      rw [List.foldl_cons]
      refine Nat.le_trans (ih _) ?_
      rw [ByteArray.size_append, ByteArray.size_append, List.length_cons]
      have h4 : (prM m).size ≤ 4 := by
        unfold prM
        rcases print_size (f := m.1) (t := m.2) with ⟨_, _, h⟩ | ⟨_, h⟩
        · omega
        · rw [h]; exact Nat.zero_le _
      have h1 : (⟨#[32]⟩ : ByteArray).size = 1 := rfl
      omega
  have := key l ByteArray.empty
  have h0 : ByteArray.empty.size = 0 := rfl
  omega
theorem pl_0 {l : List ByteArray} (h : ((l.length : Int) == 0) = true) : placeN l = 0 := by
  unfold placeN; rw [if_pos (by have := beqT h; omega)]
theorem pl_1 {l : List ByteArray} (h : ((l.length : Int) == 0) = false) (h1 : (strEq (l.getD 0 ByteArray.empty) tStart && endsAt l 1) = true) : placeN l = 1 := by
  unfold placeN; rw [if_neg (by have := beqF h; omega), if_pos h1]
theorem pl_n {l : List ByteArray} (h : ((l.length : Int) == 0) = false) (h1 : (strEq (l.getD 0 ByteArray.empty) tStart && endsAt l 1) = false) (h2 : (!strEq (l.getD 0 ByteArray.empty) tFen) = true) : placeN l = 0 := by
  unfold placeN; rw [if_neg (by have := beqF h; omega), if_neg (by rw [h1]; exact Bool.noConfusion), if_pos ((Bool.not_eq_true' _).mp h2)]
theorem pl_f {l : List ByteArray} (h : ((l.length : Int) == 0) = false) (h1 : (strEq (l.getD 0 ByteArray.empty) tStart && endsAt l 1) = false) (h2 : (!strEq (l.getD 0 ByteArray.empty) tFen) = false) : placeN l = if endsAt l 3 = true then 3 else if endsAt l 7 = true then 7 else 0 := by
  unfold placeN; rw [if_neg (by have := beqF h; omega), if_neg (by rw [h1]; exact Bool.noConfusion), if_neg (by rw [(Bool.not_eq_false' _).mp h2]; exact Bool.noConfusion)]
theorem place_le (l : List ByteArray) : placeN l ≤ l.length ∧ (placeN l = 0 ∨ placeN l = 1 ∨ placeN l = 3 ∨ placeN l = 7) := by
  have he : ∀ n, endsAt l n = true → n ≤ l.length := by
    intro n h
    unfold endsAt at h
    rw [Bool.or_eq_true, Bool.and_eq_true, decide_eq_true_eq, decide_eq_true_eq] at h
    rcases h with h | h <;> omega
  unfold placeN
  split
  · exact ⟨Nat.zero_le _, .inl rfl⟩
  · split
    · refine ⟨by omega, .inr (.inl rfl)⟩
    · split
      · exact ⟨Nat.zero_le _, .inl rfl⟩
      · split
        · exact ⟨he 3 ‹_›, .inr (.inr (.inl rfl))⟩
        · split
          · exact ⟨he 7 ‹_›, .inr (.inr (.inr rfl))⟩
          · exact ⟨Nat.zero_le _, .inl rfl⟩
theorem setC_0 {l : List ByteArray} (h : placeN l = 0) : setC l = (cmd0, 9) := by unfold setC; rw [if_pos h]
theorem setC_1 {l : List ByteArray} {p : Pos4 × Int} (h : placeN l ≠ 0) (hp : posE l (placeN l) = p) (he : p.2 ≠ 0) : setC l = (cmd0, p.2) := by
  unfold setC
  have hm : movE l (placeN l) p.2 = ([], p.2) := by unfold movE; rw [if_neg (fun h => he h.1)]
  rw [if_neg h, hp, hm, if_neg he]
theorem setC_2 {l : List ByteArray} {p : Pos4 × Int} (h : placeN l ≠ 0) (hp : posE l (placeN l) = p) (he : p.2 = 0) (hl : ¬ placeN l < l.length) : setC l = ((3, p.1, [], 0), 0) := by
  unfold setC
  have hm : movE l (placeN l) p.2 = ([], 0) := by unfold movE; rw [if_neg (fun h => hl h.2), he]
  rw [if_neg h, hp, hm, if_pos rfl]
theorem setC_3 {l : List ByteArray} {p : Pos4 × Int} {m : List (Int × Int) × Int} (h : placeN l ≠ 0) (hp : posE l (placeN l) = p) (he : p.2 = 0) (hl : placeN l < l.length) (hm : mvL (l.drop (placeN l + 1)) = m) (hm2 : m.2 = 0) : setC l = ((3, p.1, m.1, 0), 0) := by
  unfold setC
  have hm' : movE l (placeN l) p.2 = m := by unfold movE; rw [if_pos ⟨he, hl⟩, hm]
  rw [if_neg h, hp, hm', if_pos hm2]
theorem setC_4 {l : List ByteArray} {p : Pos4 × Int} {m : List (Int × Int) × Int} (h : placeN l ≠ 0) (hp : posE l (placeN l) = p) (he : p.2 = 0) (hl : placeN l < l.length) (hm : mvL (l.drop (placeN l + 1)) = m) (hm2 : m.2 ≠ 0) : setC l = (cmd0, m.2) := by
  unfold setC
  have hm' : movE l (placeN l) p.2 = m := by unfold movE; rw [if_pos ⟨he, hl⟩, hm]
  rw [if_neg h, hp, hm', if_neg hm2]
theorem setC_of {l : List ByteArray} {n : Nat} {p : Pos4 × Int} {m : List (Int × Int) × Int} {S : Cmd × Int} (hn : placeN l = n) (h0 : n ≠ 0) (hp : posE l n = p) (hm : mvL (l.drop (n + 1)) = m) (hS : setC l = S) :
    ((p.2 == 0 && decide ((l.length : Int) > (n : Int))) = true → (m.2 != 0) = true → S = (cmd0, m.2)) ∧
    ((p.2 == 0 && decide ((l.length : Int) > (n : Int))) = true → (m.2 != 0) = false → S = ((3, p.1, m.1, 0), 0)) ∧
    ((p.2 == 0 && decide ((l.length : Int) > (n : Int))) = false → (p.2 != 0) = true → S = (cmd0, p.2)) ∧
    ((p.2 == 0 && decide ((l.length : Int) > (n : Int))) = false → (p.2 != 0) = false → S = ((3, p.1, [], 0), 0)) := by
  subst hn
  have hc : ∀ b, (p.2 == 0 && decide ((l.length : Int) > (placeN l : Int))) = b → (b = true → p.2 = 0 ∧ placeN l < l.length) ∧ (b = false → p.2 = 0 → ¬ placeN l < l.length) := by
    intro b hb
    subst hb
    refine ⟨fun h => ?_, fun h h2 h3 => ?_⟩
    · rw [Bool.and_eq_true, beq_iff_eq, decide_eq_true_eq] at h
      exact ⟨h.1, by omega⟩
    · rw [Bool.and_eq_false_iff, beq_eq_false_iff_ne, decide_eq_false_iff_not] at h
      rcases h with h | h
      · exact h h2
      · omega
  refine ⟨fun h1 h2 => ?_, fun h1 h2 => ?_, fun h1 h2 => ?_, fun h1 h2 => ?_⟩
  · obtain ⟨h3, h4⟩ := (hc _ h1).1 rfl
    rw [← hS, setC_4 h0 hp h3 h4 hm (bneT h2)]
  · obtain ⟨h3, h4⟩ := (hc _ h1).1 rfl
    rw [← hS, setC_3 h0 hp h3 h4 hm (bneF h2)]
  · rw [← hS, setC_1 h0 hp (bneT h2)]
  · rw [← hS, setC_2 h0 hp (bneF h2) ((hc _ h1).2 rfl (bneF h2))]
theorem cut_all {α : Type} (l : List α) (n : Nat) : cutL n l.length l = l.drop n := by
  unfold cutL
  rw [List.take_of_length_le (by rw [List.length_drop]; omega)]
def sameC (a b : Cmd) : Bool := a.1 == b.1 && EK.eqb (.pair .str (.pair (.int .i64) (.pair (.int .i64) (.int .i64)))) a.2.1 b.2.1 && a.2.2.2 == b.2.2.2 && sameM a.2.2.1 b.2.2.1
end Go.X

namespace Go.X
open Go Go.Proofs Go.Shelf Go.RowKit Go.Lib
variable {P : Program} {ρ : Ren}

def nlS : ByteArray := ⟨#[10, 13]⟩

set_option maxHeartbeats 4000000 in
set_option maxRecDepth 1000000 in
theorem rune_err (L : Lays.n152 P ρ) (w : World) :
    Calls P (ρ.f 152) #[.string nlS, .int .i32 65533] w fun e w' => e = .returned (.int .i64 (-1)) ∧ ∃ pos, w' = w.iter nlS pos := by
  obtain ⟨s, hs⟩ : ∃ s, nlS = s := ⟨_, rfl⟩
  have hn0 : ∀ ty, (Instr.next (.pointer (some ⟨w.heap.size, 0, none⟩)) true ty).run P (w.iter s 0) = .ok (.tuple #[.bool true, .int .i64 (0 : Nat), .int .i32 (10 : Nat)]) (w.iter s (0 + 1)) := fun ty => by
    subst hs
    exact run_next_ascii (P := P) w nlS 0 ty (by decide) (by decide)
  have hn1 : ∀ ty, (Instr.next (.pointer (some ⟨w.heap.size, 0, none⟩)) true ty).run P (w.iter s 1) = .ok (.tuple #[.bool true, .int .i64 (1 : Nat), .int .i32 (13 : Nat)]) (w.iter s (1 + 1)) := fun ty => by
    subst hs
    exact run_next_ascii (P := P) w nlS 1 ty (by decide) (by decide)
  have hn2 : ∀ ty, (Instr.next (.pointer (some ⟨w.heap.size, 0, none⟩)) true ty).run P (w.iter s 2) = .ok (.tuple #[.bool false]) (w.iter s 2) := fun ty => by
    subst hs
    exact run_next_end (P := P) w nlS 2 ty (by decide)
  rw [hs]
  clear hs
  have t0 := L.t0; have a0 := L.a0; have z0 := L.z0; have v0 := L.v0
  have t3 := L.t3; have a3 := L.a3; have z3 := L.z3; have v3 := L.v3
  have t4 := L.t4; have a4 := L.a4; have z4 := L.z4; have v4 := L.v4
  have t5 := L.t5; have a5 := L.a5; have z5 := L.z5; have v5 := L.v5
  have t9 := L.t9; have a9 := L.a9; have z9 := L.z9; have v9 := L.v9
  have t21 := L.t21; have a21 := L.a21; have z21 := L.z21; have v21 := L.v21
  go_enter L.f152, Body.n152_ntmps ρ
  go_wp2
  go_loopg [5, 6] 2 (fun g _ _ wx => ∃ i : Nat, i + g = 2 ∧ wx = w.iter s i)
  case atStart => exact ⟨0, by omega, rfl⟩
  case round =>
    obtain ⟨i, hig, rfl⟩ := hrel
    obtain rfl | rfl | rfl : i = 0 ∨ i = 1 ∨ i = 2 := by omega
    · go_wp2
      go_roundg 1
      case measure => omega
      case rel => exact ⟨1, by omega, rfl⟩
    · go_wp2
      go_roundg 0
      case measure => omega
      case rel => exact ⟨2, by omega, rfl⟩
    · go_wp2
      go_ret
      exact ⟨rfl, _, rfl⟩
end Go.X

namespace Go.X
open Go Go.Proofs Go.Shelf Go.RowKit Go.Lib
variable {P : Program} {ρ : Ren}

theorem decode_wide (s : ByteArray) (pos : Nat) (h : pos < s.size) (ha : 128 ≤ (s[pos]'h).toNat) :
    ((Utf8.decode s pos).1 = 65533 ∨ (128 ≤ (Utf8.decode s pos).1 ∧ Utf8.valid ((Utf8.decode s pos).1 : Int) = true)) ∧ 1 ≤ (Utf8.decode s pos).2 ∧ pos + (Utf8.decode s pos).2 ≤ s.size ∧ ∀ j, 0 < j → j < (Utf8.decode s pos).2 → 128 ≤ (s.get! (pos + j)).toNat := by
  have h0 : (s.get! (pos + 0)) = s[pos]'h := get_at s pos h
  have hb : (s[pos]'h).toNat < 256 := (s[pos]'h).toNat_lt
  have h1 := (s.get! (pos + 1)).toNat_lt
  have h2 := (s.get! (pos + 2)).toNat_lt
  have h3 := (s.get! (pos + 3)).toNat_lt
  simp only [Utf8.decode, h0]
  generalize (s[pos]'h).toNat = b0 at ha hb
  rw [if_neg (by omega)]
  have hE : ∀ k : Nat, k = 1 → ((Utf8.runeError, k).1 = 65533 ∨ (128 ≤ (Utf8.runeError, k).1 ∧ Utf8.valid ((Utf8.runeError, k).1 : Int) = true)) ∧ 1 ≤ (Utf8.runeError, k).2 ∧ pos + (Utf8.runeError, k).2 ≤ s.size ∧ ∀ j, 0 < j → j < (Utf8.runeError, k).2 → 128 ≤ (s.get! (pos + j)).toNat := by
    intro k hk
    subst hk
    exact ⟨.inl rfl, Nat.le_refl _, h, fun j h1 h2 => absurd h2 (by omega)⟩
  split
  · rename_i c1
    simp only [Bool.and_eq_true, decide_eq_true_eq, beq_iff_eq] at c1
    split
    · refine ⟨.inr ⟨by assumption, ?_⟩, by show 1 ≤ 2; omega, by show pos + 2 ≤ _; omega, fun j hj1 hj2 => ?_⟩
      · rw [validRune_eq]; refine decide_eq_true (.inl ⟨?_, ?_⟩) <;> simp only <;> omega
      · obtain rfl : j = 1 := by have : j < 2 := hj2; omega
        omega
    · exact hE 1 rfl
  · split
    · rename_i c1
      simp only [Bool.and_eq_true, decide_eq_true_eq, beq_iff_eq] at c1
      split
      · rename_i c2
        simp only [Bool.and_eq_true, decide_eq_true_eq] at c2
        refine ⟨.inr ⟨by simp only; omega, c2.2⟩, by show 1 ≤ 3; omega, by show pos + 3 ≤ _; omega, fun j hj1 hj2 => ?_⟩
        have : j < 3 := hj2
        obtain rfl | rfl : j = 1 ∨ j = 2 := by omega
        · omega
        · omega
      · exact hE 1 rfl
    · split
      · rename_i c1
        simp only [Bool.and_eq_true, decide_eq_true_eq, beq_iff_eq] at c1
        split
        · rename_i c2
          simp only [Bool.and_eq_true, decide_eq_true_eq] at c2
          refine ⟨.inr ⟨by simp only; omega, c2.2⟩, by show 1 ≤ 4; omega, by show pos + 4 ≤ _; omega, fun j hj1 hj2 => ?_⟩
          have : j < 4 := hj2
          obtain rfl | rfl | rfl : j = 1 ∨ j = 2 ∨ j = 3 := by omega
          · omega
          · omega
          · omega
        · exact hE 1 rfl
      · exact hE 1 rfl

end Go.X

namespace Go.X
open Go Go.Proofs Go.Shelf Go.RowKit Go.Lib
variable {P : Program} {ρ : Ren}
theorem Below_drewN (B : Nat) (w : World) (n : Nat) : Below B w (w.drewN n) := ⟨rfl, rfl, rfl, Nat.le_refl _, fun _ _ => rfl⟩
set_option maxHeartbeats 8000000 in
set_option maxRecDepth 1000000 in
theorem rune_valid (L : Lays.n152 P ρ) (r : Int) (w : World) (h0 : 128 ≤ r) (hr2 : r ≤ 2147483647) (hv : Utf8.valid r = true) (hne : r ≠ 65533) :
    Calls P (ρ.f 152) #[.string nlS, .int .i32 r] w fun e w' => e = .returned (.int .i64 (-1)) ∧ Below w.heap.size w w' := by
  have hval : Lib.validRune r = true := by
    rw [validRune_eq] at hv; exact hv
  obtain ⟨f1, f2, f3⟩ := encode_facts r hv h0
  have hne' : (r == 65533) = false := beq_eq_false_iff_ne.2 hne
  have h128 : ¬ (r < 128) := by omega
  have h00 : (0 : Int) ≤ r := by omega
  obtain ⟨t, ht⟩ : ∃ t, Utf8.encode r = t := ⟨_, rfl⟩
  rw [ht] at f1 f2 f3
  obtain ⟨s, hs⟩ : ∃ s, nlS = s := ⟨_, rfl⟩
  have hsz : s.size = 2 := by rw [← hs]; rfl
  rw [hs]
  have H3 : Aside (∀ h : t.size - 1 < t.size, 128 ≤ (t[t.size - 1]'h).toNat) := f3
  clear f3
  have mixed := L.mixed
  have t0 := L.t0; have a0 := L.a0; have z0 := L.z0; have v0 := L.v0
  have t3 := L.t3; have a3 := L.a3; have z3 := L.z3; have v3 := L.v3
  have t4 := L.t4; have a4 := L.a4; have z4 := L.z4; have v4 := L.v4
  have t5 := L.t5; have a5 := L.a5; have z5 := L.z5; have v5 := L.v5
  have t9 := L.t9; have a9 := L.a9; have z9 := L.z9; have v9 := L.v9
  have t21 := L.t21; have a21 := L.a21; have z21 := L.z21; have v21 := L.v21
  have e119 : ∀ args w, (callFunc (ρ.f 119) args).run P w = .ok (.enter (ρ.f 119) args) w := enters_of L.f119 (by kernel_rfl) rfl
  have e137 : ∀ args w, (callFunc (ρ.f 137) args).run P w = .ok (.enter (ρ.f 137) args) w := enters_of L.f137 (by kernel_rfl) rfl
  go_enter L.f152, Body.n152_ntmps ρ
  go_wp2_with (go_at_fn (ρ.f 119); refine (Any.utf8_ValidRune { L with } _ _).mono ?_; rintro e w' ⟨rfl, hw⟩; rw [hw, hval])
  go_step3
  go_wp2
  have HS : Aside (nlS = s) := hs
  clear hs
  go_loopg [9, 10, 11, 12] 1 (fun _ s9 _ _ _ wr => s9 = .int .i64 ((t.size : Int) - 1) ∧ wr = w)
  case atStart => exact ⟨by go_num, rfl⟩
  case round =>
    obtain ⟨rfl, rfl⟩ := hrel
    by_cases h2 : t.size = 2
    · have e1 : (t.size : Int) - 1 = 1 := by omega
      have hlt : (1 : Int) < (s.size : Int) := by omega
      have hlt2 : (1 : Int) < (t.size : Int) := by omega
      have hle2 : (1 : Int) + 1 ≤ (s.size : Int) := by omega
      have hw2 : IntKind.i64.wrap 2 = 2 := by decide
      have hle3 : (2 : Int) ≤ (s.size : Int) := by omega
      have l1 : 1 < s.size := by omega
      have l2 : 1 < t.size := by omega
      have hs1 : (s[1]'l1).toNat = 13 := by have := HS.out; subst this; rfl
      have ht1 : 128 ≤ (t[1]'l2).toNat := by
        have := H3.out (by omega)
        have e : t.size - 1 = 1 := by omega
        simpa only [e] using this
      have hnn : ((((s[1]'l1).toNat : Nat) : Int) != (((t[1]'l2).toNat : Nat) : Int)) = true := by
        rw [bne_iff_ne]; omega
      have hIB : ∀ (z : ByteArray) (c : Int) (w : World), z.size = 0 → Calls P (ρ.f 137) #[.string z, .int .u8 c] w fun e w' => e = .returned (.int .i64 (-1)) ∧ w' = w := fun z c w hz => by
        have h := Any.strings_IndexByte (P := P) (ρ := ρ) { L with } z c w
        have hz' : z.data.toList = [] := List.length_eq_zero_iff.1 (by have : z.data.toList.length = z.size := rfl; omega)
        rw [hz'] at h
        exact h
      rw [e1]
      go_wp2
      go_step3
      go_wp2
      go_quiet_o (fail)
      go_wp2
      obtain ⟨w5, hw5⟩ : ∃ w5, wr.drewN nq = w5 := ⟨_, rfl⟩
      have hB5 : Below wr.heap.size wr w5 := by rw [← hw5]; exact Below_drewN _ _ _
      rw [hw5]
      clear hw5
      go_quiet_o (first | (go_at_fn (ρ.f 137); refine Calls.quiet_of_same (hIB _ _ _ rfl)))
      go_wp2
      rw [Exit.noGoto_ret]
      go_wp2
      rw [Exit.noGoto_ret]
      go_wp2
      go_ret
      exact ⟨rfl, hB5.trans (Below_drewN _ _ _)⟩
    · have hge : ¬ ((t.size : Int) - 1 < (s.size : Int)) := by omega
      go_wp2
      go_ret
      exact ⟨rfl, Below.refl _ _⟩
def RuneOk (r : Int) : Prop := (0 ≤ r ∧ r < 128) ∨ r = 65533 ∨ (128 ≤ r ∧ r ≤ 2147483647 ∧ Utf8.valid r = true)
def nlR (r : Int) : Int := if r = 10 then 0 else if r = 13 then 1 else -1
theorem rune_nl (L : Lays.n152 P ρ) (r : Int) (w : World) (h : RuneOk r) :
    Calls P (ρ.f 152) #[.string nlS, .int .i32 r] w fun e w' => e = .returned (.int .i64 (nlR r)) ∧ Below w.heap.size w w' := by
  by_cases h1 : 0 ≤ r ∧ r < 128
  · refine (Any.strings_IndexRune_ascii L nlS r w h1.1 h1.2).mono fun e w' ⟨h2, h3⟩ => ⟨?_, h3 ▸ Below.refl _ _⟩
    rw [h2]
    congr 2
    obtain ⟨n, rfl⟩ : ∃ n : Nat, r = n := ⟨r.toNat, by omega⟩
    have hn : n < 128 := by omega
    have key : ∀ n : Nat, n < 128 → Lib.indexByte nlS.data.toList ((n : Int).toNat).toUInt8 = nlR n := by decide +kernel
    exact key n hn
  · have hr : nlR r = -1 := by
      unfold nlR
      rw [if_neg (by omega), if_neg (by omega)]
    rw [hr]
    by_cases h2 : r = 65533
    · subst h2
      refine (rune_err L w).mono fun e w' ⟨h3, pos, h4⟩ => ⟨h3, ?_⟩
      rw [h4]
      exact (Below.refl _ _).alloc (Nat.le_refl _) _
    · rcases h with h | h | h
      · exact absurd h h1
      · exact absurd h h2
      · exact rune_valid L r w h.1 h.2.1 h.2.2 h2
def wPut (w : World) (k : Nat) (o : Obj) : World := { w with heap := w.heap.setIfInBounds k o }
theorem wPut_same (w : World) {k : Nat} (o : Obj) (h : k < w.heap.size) : (wPut w k o).heap[k]? = some o := by
  unfold wPut
  simp [h]
theorem wPut_size (w : World) (k : Nat) (o : Obj) : (wPut w k o).heap.size = w.heap.size := by unfold wPut; simp
theorem wPut_below {B : Nat} {w0 w : World} {k : Nat} (o : Obj) (h : Below B w0 w) (hk : B ≤ k) : Below B w0 (wPut w k o) :=
  ⟨h.os, h.tape, h.output, by rw [wPut_size]; exact h.size, fun j hj => by
    have : (wPut w k o).heap[j]? = w.heap[j]? := by
      unfold wPut
      simp only
      rw [Array.getElem?_setIfInBounds_ne (by omega)]
    rw [this]; exact h.block j hj⟩
theorem heap_lt {w : World} {k : Nat} {o : Obj} (h : w.heap[k]? = some o) : k < w.heap.size := by
  rw [Array.getElem?_eq_some_iff] at h; exact h.1
theorem noany_step {s : ByteArray} {cs : List UInt8} {pos wd : Nat} (h : Lib.NoAny s.data.toList cs pos) (h2 : ∀ j, j < wd → cs.contains (s.get! (pos + j)) = false) : Lib.NoAny s.data.toList cs (pos + wd) := by
  intro j b hj hb
  by_cases hp : j < pos
  · exact h j b hp hb
  · have := h2 (j - pos) (by omega)
    rw [show pos + (j - pos) = j by omega] at this
    have hlt : j < s.size := by
      rw [List.getElem?_eq_some_iff] at hb
      obtain ⟨h1, _⟩ := hb
      exact h1
    have e := Lib.data_getElem? s j hlt
    rw [hb] at e
    have e2 := get_at s j hlt
    rw [Nat.add_zero] at e2
    rw [e2] at this
    rw [Option.some.inj e]; exact this
theorem run_next_str (w : World) (k : Nat) (s : ByteArray) (pos : Nat) (ty : TypeId) (hk : w.heap[k]? = some (.stringIter s pos)) (h : pos < s.size) :
    (Instr.next (.pointer (some ⟨k, 0, none⟩)) true ty).run P w = .ok (.tuple #[.bool true, .int .i64 pos, .int .i32 (Utf8.decode s pos).1]) (wPut w k (.stringIter s (pos + (Utf8.decode s pos).2))) := by
  simp only [Instr.next, getObj, setObj, Sem.run_bind, Sem.run, hk, Result.andThen, h, if_true]
  rfl
theorem run_next_stop (w : World) (k : Nat) (s : ByteArray) (pos : Nat) (ty : TypeId) (hk : w.heap[k]? = some (.stringIter s pos)) (h : ¬ pos < s.size) :
    (Instr.next (.pointer (some ⟨k, 0, none⟩)) true ty).run P w = .ok (.tuple #[.bool false]) w := by
  simp [Instr.next, getObj, Sem.run, hk, h]
theorem dec_ok (s : ByteArray) (pos : Nat) (h : pos < s.size) : RuneOk (Utf8.decode s pos).1 ∧ 1 ≤ (Utf8.decode s pos).2 ∧ pos + (Utf8.decode s pos).2 ≤ s.size ∧
    ((nlR (Utf8.decode s pos).1 < 0 ∧ ∀ j, j < (Utf8.decode s pos).2 → ([10, 13] : List UInt8).contains (s.get! (pos + j)) = false) ∨ (0 ≤ nlR (Utf8.decode s pos).1 ∧ ([10, 13] : List UInt8).contains (s[pos]'h) = true)) := by
  by_cases ha : (s[pos]'h).toNat < 128
  · rw [decode_ascii s pos h ha]
    refine ⟨.inl ⟨by simp only; omega, by simp only; omega⟩, Nat.le_refl _, by show pos + 1 ≤ _; omega, ?_⟩
    have key : ∀ n : Nat, n < 128 → (nlR n < 0 ∧ ([10, 13] : List UInt8).contains (UInt8.ofNat n) = false) ∨ (0 ≤ nlR n ∧ ([10, 13] : List UInt8).contains (UInt8.ofNat n) = true) := by decide +kernel
    have e : UInt8.ofNat (s[pos]'h).toNat = s[pos]'h := by simp
    have := key (s[pos]'h).toNat ha
    rw [e] at this
    rcases this with ⟨h1, h2⟩ | h1
    · refine .inl ⟨h1, fun j hj => ?_⟩
      obtain rfl : j = 0 := by have : j < 1 := hj; omega
      rw [get_at s pos h]; exact h2
    · exact .inr h1
  · obtain ⟨h1, h2, h3, h4⟩ := decode_wide s pos h (by omega)
    have hle := decode_le s pos
    have hge := (decode_high s pos h (by omega)).1
    refine ⟨?_, h2, h3, .inl ⟨?_, fun j hj => ?_⟩⟩
    · rcases h1 with h1 | h1
      · exact .inr (.inl (by omega))
      · exact .inr (.inr ⟨by omega, by omega, h1.2⟩)
    · unfold nlR
      rw [if_neg (by omega), if_neg (by omega)]
      decide
    · have hb : 128 ≤ (s.get! (pos + j)).toNat := by
        by_cases hj0 : j = 0
        · subst hj0; rw [get_at s pos h]; omega
        · exact h4 j (by omega) hj
      have hne : ∀ c : UInt8, c.toNat < 128 → ¬ s.get! (pos + j) = c := fun c hc e => by rw [e] at hb; omega
      simp [hne 10 (by decide), hne 13 (by decide)]

set_option maxHeartbeats 8000000 in
set_option maxRecDepth 1000000 in
theorem any_short (L : Lays.n153 P ρ) (s : ByteArray) (w : World) (h8 : s.size ≤ 8) :
    Calls P (ρ.f 153) #[.string s, .string nlS] w fun e w' => e = .returned (.int .i64 (Lib.indexAny s.data.toList nlS.data.toList)) ∧ Below w.heap.size w w' := by
  obtain ⟨z, hz⟩ : ∃ z, nlS = z := ⟨_, rfl⟩
  have hnl := fun r w h => rune_nl (P := P) (ρ := ρ) { L with } r w h
  have hdl : z.data.toList = [10, 13] := by subst hz; rfl
  have hemp : z.toList.isEmpty = false := by rw [Lib.toList_data, hdl]; rfl
  have hzs : z.size = 2 := by subst hz; rfl
  have hn1 : ((z.size : Int) == 1) = false := beq_eq_false_iff_ne.2 (by omega)
  have h8z : decide ((8 : Int) < (s.size : Int)) = false := decide_eq_false (by omega)
  rw [hz] at hnl ⊢
  clear hz
  have t3 := L.t3; have a3 := L.a3; have z3 := L.z3; have v3 := L.v3
  have t4 := L.t4; have a4 := L.a4; have z4 := L.z4; have v4 := L.v4
  have t5 := L.t5; have a5 := L.a5; have z5 := L.z5; have v5 := L.v5
  have t9 := L.t9; have a9 := L.a9; have z9 := L.z9; have v9 := L.v9
  have t21 := L.t21; have a21 := L.a21; have z21 := L.z21; have v21 := L.v21
  have e152 : ∀ args w, (callFunc (ρ.f 152) args).run P w = .ok (.enter (ρ.f 152) args) w := enters_of L.f152 (by kernel_rfl) rfl
  have e226 : ∀ args w, (callFunc (ρ.f 226) args).run P w = .ok (.enter (ρ.f 226) args) w := enters_of L.f226 (by kernel_rfl) rfl
  go_enter L.f153, Body.n153_ntmps ρ
  go_wp2_with (go_at_fn (ρ.f 226); refine (Any.strings_shouldUseASCIISet { L with } _ _).mono ?_; rintro e w' ⟨rfl, hw⟩; rw [hw, h8z])
  go_loopg [9, 10] s.size (fun g _ _ wx => ∃ pos : Nat, pos ≤ s.size ∧ s.size - pos ≤ g ∧ Aside (Below w.heap.size w wx ∧ wx.heap[w.heap.size]? = some (.stringIter s pos) ∧ Lib.NoAny s.data.toList z.data.toList pos))
  case atStart => exact ⟨0, by omega, by omega, (Below.refl _ _).alloc (Nat.le_refl _) _, World.iter_heap w s 0, Lib.NoAny.zero _ _⟩
  case round =>
    obtain ⟨pos, hps, hgk, HI⟩ := hrel
    by_cases hlt : pos < s.size
    · have hnx := fun ty => run_next_str (P := P) wr w.heap.size s pos ty HI.out.2.1 hlt
      obtain ⟨hR, hw1, hw2, hcase⟩ := dec_ok s pos hlt
      generalize hr : ((Utf8.decode s pos).1 : Int) = r at hnx hR hcase
      generalize hwd : (Utf8.decode s pos).2 = wd at hnx hw1 hw2 hcase
      clear hr hwd
      have hcall := hnl r (wPut wr w.heap.size (.stringIter s (pos + wd))) hR
      have hlk : w.heap.size < wr.heap.size := heap_lt HI.out.2.1
      generalize hv : nlR r = v at hcall hcase
      have hBp : Below w.heap.size w (wPut wr w.heap.size (.stringIter s (pos + wd))) := wPut_below _ HI.out.1 (Nat.le_refl _)
      have hsm := wPut_same wr (.stringIter s (pos + wd)) hlk
      have hsz := wPut_size wr w.heap.size (.stringIter s (pos + wd))
      generalize wPut wr w.heap.size (.stringIter s (pos + wd)) = wp at hnx hcall hBp hsm hsz
      rcases hcase with ⟨h1, h2⟩ | ⟨h1, h2⟩
      · have hneg : ¬ (0 ≤ v) := by omega
        go_wp2_with (go_at_fn (ρ.f 152); refine hcall.mono ?_; rintro e w' ⟨rfl, hw⟩)
        go_roundg (s.size - (pos + wd))
        case measure => omega
        case rel =>
          refine ⟨pos + wd, by omega, by omega, hBp.trans (hw.mono (by omega)), (hw.block _ (by omega)).trans hsm, noany_step HI.out.2.2 (by rw [hdl]; exact h2)⟩
      · go_wp2_with (go_at_fn (ρ.f 152); refine hcall.mono ?_; rintro e w' ⟨rfl, hw⟩)
        go_ret
        exact ⟨by rw [Lib.indexAny_hit HI.out.2.2 (Lib.data_getElem? s pos hlt) (by rw [hdl]; exact h2)]; rfl, hBp.trans (hw.mono (by omega))⟩
    · have hnx := fun ty => run_next_stop (P := P) wr w.heap.size s pos ty HI.out.2.1 hlt
      go_wp2
      go_ret
      obtain rfl : pos = s.size := by omega
      refine ⟨by rw [Lib.indexAny_none (by rw [← Lib.size_eq]; exact HI.out.2.2)]; rfl, HI.out.1⟩
theorem any_nl (L : Lays.n153 P ρ) (h116 : (P.info? (ρ.t 116)).map (fun i => (i.zero, i.size)) = some (some (.agg (Array.replicate 256 (.bool false))), 256)) (s : ByteArray) (w : World) (hs : s.size < 4294967281) :
    Calls P (ρ.f 153) #[.string s, .string nlS] w fun e w' => e = .returned (.int .i64 (Lib.indexAny s.data.toList nlS.data.toList)) ∧ Below w.heap.size w w' := by
  by_cases h8 : s.size ≤ 8
  · exact any_short L s w h8
  · refine (Any.strings_IndexAny_long L (zero_of_info h116).1 (zero_of_info h116).2 s nlS w (by decide) (by omega) hs (by decide) (fun j b hb => ?_)).mono fun e w' ⟨h1, h2⟩ => ⟨h1, ?_⟩
    · have : nlS.data.toList = [10, 13] := rfl
      rw [this] at hb
      have hm := List.mem_of_getElem? hb
      simp only [List.mem_cons, List.not_mem_nil, or_false] at hm
      rcases hm with rfl | rfl <;> decide
    · rw [h2]
      exact ((Below.refl _ _).alloc (Nat.le_refl _) _).alloc (by simp) _
set_option maxHeartbeats 1000000 in
theorem contains_nl (L : Lays.n150 P ρ) (h116 : (P.info? (ρ.t 116)).map (fun i => (i.zero, i.size)) = some (some (.agg (Array.replicate 256 (.bool false))), 256)) (s : ByteArray) (w : World) (hs : s.size < 4294967281) :
    Calls P (ρ.f 150) #[.string s, .string nlS] w fun e w' => e = .returned (.bool (Lib.containsAny s.data.toList [10, 13])) ∧ Below w.heap.size w w' := by
  have c := any_nl { L with } h116 s w hs
  have hdl : nlS.data.toList = [10, 13] := rfl
  rw [hdl] at c
  generalize nlS = z at c ⊢
  have t3 := L.t3; have a3 := L.a3; have z3 := L.z3; have v3 := L.v3
  have t4 := L.t4; have a4 := L.a4; have z4 := L.z4; have v4 := L.v4
  have t9 := L.t9; have a9 := L.a9; have z9 := L.z9; have v9 := L.v9
  have e153 : ∀ args w, (callFunc (ρ.f 153) args).run P w = .ok (.enter (ρ.f 153) args) w := enters_of L.f153 (by kernel_rfl) rfl
  go_enter L.f150, Body.n150_ntmps ρ
  go_wp2_with (go_at_fn (ρ.f 153); refine c.mono ?_; rintro e w' ⟨rfl, hw⟩)
  go_ret
  exact ⟨rfl, hw⟩
end Go.X

namespace Go.X
open Go.RowKit Go.Sort

def cJoinV : Con
  | [.view _ lo hi _ ⟨_, .str, l, false⟩, .a (.s sep)] => some ⟨[LJ (cutL lo hi l) sep], .a (.s (joinS (cutL lo hi l) sep)), [], []⟩
  | _ => none
theorem cut_get {α : Type} {lo hi j : Nat} {l : List α} (h : j < hi - lo) : (cutL lo hi l)[j]? = l[lo + j]? := by
  unfold cutL
  rw [List.getElem?_take_of_lt h, List.getElem?_drop]
theorem add_flat {p : Addr} {n : Nat} (h : n = 0 → p.spot = none) : p.add n = ⟨p.block, p.off + n, none⟩ := by
  unfold Addr.add
  split
  · rename_i hn; subst hn
    obtain ⟨b, o, s⟩ := p
    have := h rfl
    simp only at this
    subst this; rfl
  · rfl
theorem con_joinV {P : Program} {G : Nat → World → Prop} {f : FuncId} {fn : Func} (hf : P.funcs[f]? = some fn) (hb : fn.body.isSome = true) (hname : (fn.name == "runtime.NumGoroutine") = false)
    (hs : ∀ (bk o c : Nat) (xs : List ByteArray) (sep : ByteArray) (w : World), (∀ (j : Nat) x, xs[j]? = some x → w.cell? ⟨bk, o + j, none⟩ = some (.string x)) → bk < w.heap.size → xs.length ≤ 140737488355328 → xs.length ≤ c → (Lib.join (xs.map (·.data.toList)) sep.data.toList).length ≤ 140737488355328 →
      Calls P f #[.slice (some ⟨bk, o, none⟩) xs.length c, .string sep] w fun e w' => e = .returned (.string (joinS xs sep)) ∧ Below w.heap.size w w')
    (hn : ∀ (p : Option Addr) (cap : Nat) (sep : ByteArray) (w : World), Calls P f #[.slice p 0 cap, .string sep] w fun e w' => e = .returned (.string ⟨#[]⟩) ∧ w' = w) : ConOK P G f cJoinV := by
  intro c e st w avs rvs cr vals fb fr hG hh hres hargs hcr hpre _ _
  refine ⟨⟨fn, hf, hb, hname⟩, ?_⟩
  unfold cJoinV at hcr
  split at hcr
  · rename_i id lo hi ex T' l sep
    cases hcr
    have hlj := hpre _ (List.mem_singleton.2 rfl)
    obtain ⟨v, u, rfl, h1, h2⟩ := allRes2 hres
    obtain ⟨x, xs, rfl, hx, hxs⟩ := hargs
    obtain ⟨y, ys, rfl, hy, hys⟩ := hxs
    simp only [RL] at hys
    subst hys
    have hy' := valRV_R (u := .string sep) h2 rfl hy
    subst hy'
    unfold resolve at h1
    cases v with
    | view id' lo' hi' ex' =>
      simp only [resolveF] at h1
      split at h1
      · rename_i r hr
        simp only [Option.some.injEq, RV.view.injEq] at h1
        obtain ⟨rfl, rfl, rfl, rfl, rfl⟩ := h1
        obtain ⟨r', hr', hle, hhl, a, n, c0, a', c', hρ, rfl, hp, _, _, hcap⟩ := hx
        have hr'' : some r' = some (⟨T', .str, l, false⟩ : Row) := by rw [← hr', ← hr]
        cases hr''
        obtain ⟨hpos, a1, cap1, hρ1, _, _, hcell⟩ := hh.row _ _ hr
        rw [hρ] at hρ1
        cases hρ1
        have hlen : (cutL lo' hi' l).length = hi' - lo' := by
          have hhl' : hi' ≤ l.length := hhl
          unfold cutL
          rw [List.length_take, List.length_drop]; omega
        by_cases hlt : lo' < hi'
        · obtain ⟨p, rfl, rfl⟩ := hp hlt
          have hcl : ∀ j, j < l.length → Fixed c e.M p.block ∧ ∃ x, l[j]? = some x ∧ c.w0.cell? (p.add j) = some (.string x) := by
            intro j hj
            have hx := List.getElem?_eq_getElem hj
            have hv : (valsOf .str l)[j]? = some (.string l[j]) := by rw [valsS, List.getElem?_map, hx]; rfl
            obtain ⟨b, hb1, hb2, hb3⟩ := hcell j _ hv
            cases hb1
            exact ⟨hb2, _, hx, hb3⟩
          have hhl' : hi' ≤ l.length := hhl
          have hspot : ∀ j, j < l.length → j = 0 → p.spot = none := by
            intro j hj h0
            subst h0
            obtain ⟨_, x, _, hx⟩ := hcl 0 hj
            have e0 : p.add 0 = p := rfl
            rw [e0] at hx
            unfold World.cell? at hx
            split at hx
            · split at hx
              · cases hx
              · rename_i hsp; simpa using hsp
            · cases hx
          have e1 : p.add (lo' * EK.str.size) = ⟨p.block, p.off + lo', none⟩ := by
            rw [show lo' * EK.str.size = lo' by simp [EK.size]]
            exact add_flat (hspot lo' (by omega))
          obtain ⟨hfx, _⟩ := hcl lo' (by omega)
          have e2 : (Value.slice (some (p.add (lo' * EK.str.size))) (hi' - lo') c') = .slice (some ⟨p.block, p.off + lo', none⟩) (cutL lo' hi' l).length c' := by rw [e1, hlen]
          have hmain := hs p.block (p.off + lo') c' (cutL lo' hi' l) sep w ?_ (Nat.lt_of_lt_of_le hfx.1 hh.base_le) hlj.len (by rw [hlen]; exact hcap) hlj.sz
          · rw [← e2] at hmain
            refine hmain.mono ?_
            rintro en w' ⟨rfl, hbl⟩
            exact ⟨_, e, rfl, hh.moved hbl, pres_refl, rfl⟩
          · intro j x hj
            have hjl := (List.getElem?_eq_some_iff.1 hj).1
            rw [hlen] at hjl
            rw [cut_get hjl] at hj
            obtain ⟨hf1, x', hx1, hx2⟩ := hcl (lo' + j) (by omega)
            rw [hj] at hx1
            cases hx1
            rw [add_flat (hspot (lo' + j) (by omega))] at hx2
            rw [Frame.cell hh.frame (M := e.M) (p := ⟨p.block, p.off + lo' + j, none⟩) hf1, ← hx2, Nat.add_assoc]
        · have he : hi' - lo' = 0 := by omega
          have hnil : cutL lo' hi' l = [] := List.length_eq_zero_iff.1 (by rw [hlen, he])
          rw [he]
          refine (hn a' c' sep w).mono ?_
          rintro en w' ⟨rfl, rfl⟩
          refine ⟨_, e, rfl, hh, pres_refl, ?_⟩
          show (Value.string _) = .string (joinS (cutL lo' hi' l) sep)
          rw [hnil]; rfl
      · cases h1
    | _ =>
      simp only [resolveF] at h1
      first
        | (cases h1; done)
        | (split at h1 <;> first | (cases h1; done) | (split at h1 <;> cases h1))
  · cases hcr
end Go.X

namespace Go.X
open Go.RowKit

section
variable {P : Program} {c : Ctx}
def TrAny (P : Program) (c : Ctx) (ops : Array Oper) (K : St → Prop) (fuel : Nat) (listed : Array Bool) (st : St) : Prop :=
  ∀ (e : Env) (a : Act) (w : World) (Q : Exit → Act → World → Prop), HeapOK c e st w → TmpsOK c st e a → (∀ st e a w, HeapOK c e st w → TmpsOK c st e a → K st → Q .normal a w) → wpAnyIn (W c.r) 0 P .any ops Q fuel listed a w
theorem trAny_region {id : Nat} {ops : Array Oper} {st : St} {K : Exit → St → Prop} (hm : P.follows .mixedOrders = true) (h : TrAny P c ops (fun st => K .normal st) ops.size (Array.replicate ops.size false) st) : Tr P c (.region id ops true) st K := by
  intro e a w hh ht
  refine wpIn_region_any hm ?_
  exact h e a _ _ (HeapOK_drawn hh _) ht (fun st e a w h1 h2 h3 => ⟨st, e, h1, h2, h3⟩)
theorem trAny_end {ops : Array Oper} {K : St → Prop} {n : Nat} {listed : Array Bool} {st : St} (hr : Region.ready .any ops listed = []) (h : K st) : TrAny P c ops K n listed st := by
  intro e a w Q hh ht hQ
  cases n with
  | zero => exact ⟨hr, hQ st e a w hh ht h⟩
  | succ n => exact ⟨fun _ => hQ st e a w hh ht h, fun j hj => by rw [hr] at hj; cases hj⟩
theorem trAny_step {ops : Array Oper} {K : St → Prop} {n : Nat} {listed : Array Bool} {st : St} (l : List Nat) (hr : Region.ready .any ops listed = l) (hne : l ≠ [])
    (h : ∀ j ∈ l, ∃ o, ops[j]? = some o ∧ o.guard = none ∧ TrOne P c o st (fun st' => Lf (TrAny P c ops K n (listed.setIfInBounds j true) st'))) : TrAny P c ops K (n + 1) listed st := by
  intro e a w Q hh ht hQ
  refine ⟨fun h0 => absurd (hr.symm.trans h0) hne, fun j hj => ?_⟩
  rw [hr] at hj
  obtain ⟨o, ho, hg, hone⟩ := h j hj
  refine wpOp_of (fun _ => trivial) ho ?_
  have hw : Region.wanted o (yielded ops a.tmps) = true := by simp [Region.wanted, hg]
  rw [if_pos hw]
  exact hone e a w _ Q hh ht (fun st' e' a' w' h1 h2 h3 => h3.un e' a' w' Q h1 h2 hQ)
def getO : List Oper → Nat → Option Oper
  | [], _ => none
  | x :: _, 0 => some x
  | _ :: l, n + 1 => getO l n
theorem getO_eq : ∀ (l : List Oper) (n : Nat), getO l n = l[n]? := by
  intro l
  induction l with
  | nil => intro n; rfl
  | cons x l ih => intro n; cases n with | zero => rfl | succ n => exact ih n
theorem getO_arr {ops : Array Oper} {j : Nat} {o : Oper} (h : getO ops.toList j = some o) : ops[j]? = some o := by
  rw [getO_eq] at h
  simpa using h
theorem trAny_1 {ops : Array Oper} {K : St → Prop} {n : Nat} {listed : Array Bool} {st : St} (j : Nat) {o : Oper} (hr : Region.ready .any ops listed = [j]) (ho : getO ops.toList j = some o) (hg : o.guard = none)
    (h : TrOne P c o st (fun st' => Lf (TrAny P c ops K n (listed.setIfInBounds j true) st'))) : TrAny P c ops K (n + 1) listed st :=
  trAny_step [j] hr (by simp) fun i hi => by
    obtain rfl := List.mem_singleton.1 hi
    exact ⟨o, getO_arr ho, hg, h⟩
theorem trAny_2 {ops : Array Oper} {K : St → Prop} {n : Nat} {listed : Array Bool} {st : St} (i j : Nat) {o o' : Oper} (hr : Region.ready .any ops listed = [i, j]) (ho : getO ops.toList i = some o) (hg : o.guard = none) (ho' : getO ops.toList j = some o') (hg' : o'.guard = none)
    (h : TrOne P c o st (fun st' => Lf (TrAny P c ops K n (listed.setIfInBounds i true) st'))) (h' : TrOne P c o' st (fun st' => Lf (TrAny P c ops K n (listed.setIfInBounds j true) st'))) : TrAny P c ops K (n + 1) listed st :=
  trAny_step [i, j] hr (by simp) fun k hk => by
    rcases List.mem_cons.1 hk with rfl | hk
    · exact ⟨o, getO_arr ho, hg, h⟩
    · obtain rfl := List.mem_singleton.1 hk
      exact ⟨o', getO_arr ho', hg', h'⟩
def setsAt (ts : List AV) (l : List (Nat × AV)) : List AV := match l with
  | [] => ts
  | (d, v) :: l => setsAt (backSt.setAt ts d v) l
theorem trAny_key {ops : Array Oper} {K : St → Prop} {n : Nat} {listed : Array Bool} {st : St} (l : Nat → List (Nat × AV)) (hkey : ∀ b, K ⟨setsAt st.tmps (l b), st.boxes, st.rows, [[.mp b]], st.pin⟩)
    (h : (∀ b, K ⟨setsAt st.tmps (l b), st.boxes, st.rows, [[.mp b]], st.pin⟩) → TrAny P c ops K n listed st) : TrAny P c ops K n listed st := h hkey
def noC : Nat → Option Con := fun _ => none
theorem one_pure {TT : TypeId → Option TD} (hTT : TTOK P TT) (ops : Array Oper) {o : Oper} {st : St} {k : St → Prop} (hg : o.guard = none) (h : stF st fun st => vcOp TT noC noY false st.boxes.length st.rows.length ops o st k) : TrOne P c o st k := by
  intro e a w K' Q hh ht hK
  rw [stF_eq] at h
  have hw : Region.wanted o (yielded ops a.tmps) = true := by simp [Region.wanted, hg]
  have := vcOp_sound (G := fun _ _ => True) (K' := K') (Q := Q) hTT (C := noC) (fun f con hf => by cases hf) (fun _ _ => trivial) yok_no hh ht (fun j h1 _ => getK_length _ _ _ h1) (fun j h1 _ => getK_length _ _ _ h1) h hK
  rw [if_pos hw] at this
  exact this
end
end Go.X

namespace Go.X
open Go

abbrev wd (L : List ByteArray) (n : Nat) : ByteArray := L.getD n ByteArray.empty
theorem cC_1 {L : List ByteArray} {nl : Bool} (h : ((L.length : Int) == 0 || nl) = true) : wordsC L nl = (cmd0, 9) := by
  unfold wordsC
  rw [if_pos]
  rw [Bool.or_eq_true, beq_iff_eq] at h
  exact h.imp (fun h => by omega) id
theorem cC_2 {L : List ByteArray} {nl : Bool} (h : ((L.length : Int) == 0 || nl) = false) : ¬ (L.length = 0 ∨ nl = true) := by
  rw [Bool.or_eq_false_iff, beq_eq_false_iff_ne] at h
  rintro (h1 | h1)
  · exact h.1 (by omega)
  · rw [h.2] at h1; exact Bool.noConfusion h1
theorem cC_3 {L : List ByteArray} {nl : Bool} (h : ((L.length : Int) == 0 || nl) = false) (h2 : ((plainK (wd L 0) != 0) && ((L.length : Int) == 1)) = true) : wordsC L nl = ((plainK (wd L 0), pos0, [], 0), 0) := by
  unfold wordsC
  rw [Bool.and_eq_true, beq_iff_eq] at h2
  rw [if_neg (cC_2 h), if_pos ⟨bneT h2.1, by omega⟩]
theorem cC_n {L : List ByteArray} {nl : Bool} (h : ((L.length : Int) == 0 || nl) = false) (h2 : ((plainK (wd L 0) != 0) && ((L.length : Int) == 1)) = false) : wordsC L nl = if strEq (wd L 0) tGo = true then goC L else if strEq (wd L 0) tBan = true then banC L else if strEq (wd L 0) tPosition = true then setC (L.drop 1) else (cmd0, 9) := by
  unfold wordsC
  rw [if_neg (cC_2 h), if_neg]
  rintro ⟨h3, h4⟩
  rw [Bool.and_eq_false_iff, beq_eq_false_iff_ne] at h2
  rcases h2 with h2 | h2
  · exact h3 (bneF h2)
  · exact h2 (by omega)
theorem goC_1 {L : List ByteArray} (h : (((L.length : Int) != 3 || !strEq (wd L 1) tDepth) || decide (((wd L 2).size : Int) > 2)) = true) : goC L = (cmd0, 9) := by
  unfold goC
  rw [if_neg]
  rintro ⟨h1, h2, h3, _⟩
  have h2' : strEq (wd L 1) tDepth = true := h2
  have h3' : (wd L 2).size ≤ 2 := h3
  have h4 : decide (((wd L 2).size : Int) > 2) = false := decide_eq_false (by omega)
  rw [h2', h1, h4] at h
  exact absurd h (by decide)
theorem goC_2 {L : List ByteArray} (h : goOk (wd L 2) = false) : goC L = (cmd0, 9) := by
  unfold goC
  rw [if_neg]
  rintro ⟨_, _, _, h4⟩
  have h4' : goOk (wd L 2) = true := h4
  rw [h] at h4'; exact Bool.noConfusion h4'
theorem goC_3 {L : List ByteArray} (h : (((L.length : Int) != 3 || !strEq (wd L 1) tDepth) || decide (((wd L 2).size : Int) > 2)) = false) : L.length = 3 ∧ strEq (wd L 1) tDepth = true ∧ (wd L 2).size ≤ 2 := by
  simp only [Bool.or_eq_false_iff, Bool.not_eq_false', decide_eq_false_iff_not] at h
  have := bneF h.1.1
  exact ⟨by omega, h.1.2, by omega⟩
theorem goC_4 {L : List ByteArray} (h : (((L.length : Int) != 3 || !strEq (wd L 1) tDepth) || decide (((wd L 2).size : Int) > 2)) = false) (h4 : goOk (wd L 2) = true) : goC L = ((5, pos0, [], atoiV (wd L 2)), 0) := by
  obtain ⟨h1, h2, h3⟩ := goC_3 h
  unfold goC
  rw [if_pos ⟨h1, h2, h3, h4⟩]
theorem banC_1 {L : List ByteArray} {m : List (Int × Int) × Int} (hm : mvL (L.drop 1) = m) (h : (m.2 != 0) = true) : banC L = (cmd0, m.2) := by
  subst hm
  unfold banC
  rw [if_neg (bneT h)]
theorem banC_2 {L : List ByteArray} {m : List (Int × Int) × Int} (hm : mvL (L.drop 1) = m) (h : (m.2 != 0) = false) : banC L = ((4, pos0, m.1, 0), 0) := by
  subst hm
  unfold banC
  rw [if_pos (bneF h)]
structure ReadC (L : List ByteArray) (nl : Bool) (k : Int) (m : List (Int × Int) × Int) (q S : Cmd × Int) : Prop where
  a : ((L.length : Int) == 0 || nl) = true → S = (cmd0, 9)
  b : ((L.length : Int) == 0 || nl) = false → ((k != 0) && ((L.length : Int) == 1)) = true → S = ((k, pos0, [], 0), 0)
  g1 : ((L.length : Int) == 0 || nl) = false → ((k != 0) && ((L.length : Int) == 1)) = false → strEq (wd L 0) tGo = true → (((L.length : Int) != 3 || !strEq (wd L 1) tDepth) || decide (((wd L 2).size : Int) > 2)) = true → S = (cmd0, 9)
  g2 : ((L.length : Int) == 0 || nl) = false → ((k != 0) && ((L.length : Int) == 1)) = false → strEq (wd L 0) tGo = true → goOk (wd L 2) = false → S = (cmd0, 9)
  g3 : ((L.length : Int) == 0 || nl) = false → ((k != 0) && ((L.length : Int) == 1)) = false → strEq (wd L 0) tGo = true → (((L.length : Int) != 3 || !strEq (wd L 1) tDepth) || decide (((wd L 2).size : Int) > 2)) = false → goOk (wd L 2) = true → S = ((5, pos0, [], atoiV (wd L 2)), 0)
  n1 : ((L.length : Int) == 0 || nl) = false → ((k != 0) && ((L.length : Int) == 1)) = false → strEq (wd L 0) tGo = false → strEq (wd L 0) tBan = true → (m.2 != 0) = true → S = (cmd0, m.2)
  n2 : ((L.length : Int) == 0 || nl) = false → ((k != 0) && ((L.length : Int) == 1)) = false → strEq (wd L 0) tGo = false → strEq (wd L 0) tBan = true → (m.2 != 0) = false → S = ((4, pos0, m.1, 0), 0)
  p : ((L.length : Int) == 0 || nl) = false → ((k != 0) && ((L.length : Int) == 1)) = false → strEq (wd L 0) tGo = false → strEq (wd L 0) tBan = false → strEq (wd L 0) tPosition = true → S = q
  z : ((L.length : Int) == 0 || nl) = false → ((k != 0) && ((L.length : Int) == 1)) = false → strEq (wd L 0) tGo = false → strEq (wd L 0) tBan = false → strEq (wd L 0) tPosition = false → S = (cmd0, 9)
theorem readC_of {L : List ByteArray} {nl : Bool} {k : Int} {m : List (Int × Int) × Int} {q S : Cmd × Int} (hk : plainK (wd L 0) = k) (hm : mvL (L.drop 1) = m) (hq : setC (L.drop 1) = q) (hS : wordsC L nl = S) : ReadC L nl k m q S := by
  subst hk hS
  refine ⟨cC_1, fun h h2 => cC_3 h h2, fun h h2 h3 h4 => ?_, fun h h2 h3 h4 => ?_, fun h h2 h3 h4 h5 => ?_, fun h h2 h3 h4 h5 => ?_, fun h h2 h3 h4 h5 => ?_, fun h h2 h3 h4 h5 => ?_, fun h h2 h3 h4 h5 => ?_⟩
  all_goals rw [cC_n h h2]
  · rw [if_pos h3, goC_1 h4]
  · rw [if_pos h3, goC_2 h4]
  · rw [if_pos h3, goC_4 h4 h5]
  · rw [if_neg (by rw [h3]; exact Bool.noConfusion), if_pos h4, banC_1 hm h5]
  · rw [if_neg (by rw [h3]; exact Bool.noConfusion), if_pos h4, banC_2 hm h5]
  · rw [if_neg (by rw [h3]; exact Bool.noConfusion), if_neg (by rw [h4]; exact Bool.noConfusion), if_pos h5, hq]
  · rw [if_neg (by rw [h3]; exact Bool.noConfusion), if_neg (by rw [h4]; exact Bool.noConfusion), if_neg (by rw [h5]; exact Bool.noConfusion)]
end Go.X

namespace Go.X
open Go.RowKit

section
variable {P : Program} {c : Ctx}
theorem tr_gentry {b i d : Nat} {es : Array MapEntry} {clock : Nat} {o : Oper} {x : Operand} {seen : List AV} {x0 : MapEntry} {s : ByteArray} {n : Int} {k : St → Prop} {ts : List AV} {bs : List (Option Box)} {rs : List (Option Row)} {pn : List AV} (hmem : x0 ∈ es.toList) (hnd : (es.toList.map (·.born)).Nodup) (hk1 : x0.key = .string s) (hk2 : x0.val = .int .i64 n) (ho : o.op = .entry x) (hd : o.dst = some d) (hx : opnd ts x = .pt i)
    (h : k ⟨backSt.setAt ts d (.tup [.s s, .i .i64 n]), bs, rs, [[.mp b, .pt i], seen ++ [.i .i64 (x0.born : Int)]], pn⟩) : TrOne P (ghCtx c es clock) o ⟨ts, bs, rs, [[.mp b, .pt i], seen ++ [.i .i64 (x0.born : Int)]], pn⟩ k := by
  intro e a w K' Q hh ht hK
  have hxR := opnd_R ht x
  rw [hx] at hxR
  have hout : c.J [] (fun k => (e.M k ∧ k ≠ b) ∧ k ≠ i) w ∧ (e.M b ∧ e.M i) ∧ b ≠ i ∧ w.heap[b]? = some (.map es clock) ∧ w.heap[i]? = some (.mapIter (some b) clock (seenOf (seen ++ [.i .i64 (x0.born : Int)])) clock) := hh.out
  obtain ⟨hJ, ⟨hMb, hMi⟩, hbi, hmap, hit⟩ := hout
  rw [seenOf_push] at hit
  refine wp_in (fun cl hcl => by rw [ho] at hcl; cases hcl) ?_
  unfold Oper.wp
  have hxv : a.eval x = .pointer (some ⟨i, 0, none⟩) := hxR
  have hrun := run_entry_at (P := P) w i b clock (seenOf seen) es clock x0 hit hmap hmem hnd
  have he : (execOp a.eval o).run P w = .ok (.value (.tuple #[.string s, .int .i64 n])) w := by
    simp only [execOp, ho, hxv]
    simp [hrun, Result.andThen, hk1, hk2]
  rw [he]
  simp only [Oper.upon]
  refine hK _ e _ _ (HeapOK_tmps hh) ⟨?_, by rw [hd]; exact ht.2⟩ h
  have := put_dst (a := a) (av := .tup [.s s, .i .i64 n]) (v := .tuple #[.string s, .int .i64 n]) o.dst ht.1 ⟨[.string s, .int .i64 n], rfl, _, _, rfl, rfl, _, _, rfl, rfl, rfl⟩
  rw [hd] at this ⊢
  exact RL_tmps _ _ this
def putYs (st : St) (ys : List (List AV)) : St := ⟨st.tmps, st.boxes, st.rows, ys, st.pin⟩
theorem Tr_loopY {α : Type} (ts : α → List (Nat × AV)) (bs : α → List (Nat × Option Box)) (rs : α → List (Nat × Option Row)) (ys : α → List (List AV)) (ok : α → Prop) (μ : α → Nat) {body : Code} {st : St} {K : Exit → St → Prop} (x0 : α) (h0 : ok x0)
    (hle : Le st (putYs (headOf body st (ts x0) (bs x0) (rs x0)) (ys x0)))
    (hround : ∀ x, ok x → Tr P c body (putYs (headOf body st (ts x) (bs x) (rs x)) (ys x)) (exitThen (fun st' => Again ok μ x st' (fun x' => putYs (headOf body st (ts x') (bs x') (rs x')) (ys x'))) K)) : Tr P c (.loop body) st K := by
  refine Tr_loop (fun x => putYs (headOf body st (ts x) (bs x) (rs x)) (ys x)) ok μ x0 h0 hle (fun x hx e a w hh ht => ?_)
  refine wpIn_mono (hround x hx e a w hh ht) (fun ex a' w' hq => QK_mono (fun ex' st' h => ?_) hq)
  cases ex' with
  | normal => obtain ⟨x', h1, h2, h3⟩ := h; exact ⟨x', h1, h2, h3⟩
  | _ => exact h
end
theorem left_mem {es : Array MapEntry} {seen : Array Nat} {x : MapEntry} : x ∈ (leftOf es seen).toList ↔ x ∈ es.toList ∧ seen.contains x.born = false := by
  unfold leftOf
  simp
theorem left_less {es : Array MapEntry} {seen : List AV} {x : MapEntry} (hx : x ∈ (leftOf es (seenOf seen)).toList) : (leftOf es (seenOf (seen ++ [.i .i64 (x.born : Int)]))).size < (leftOf es (seenOf seen)).size := by
  rw [seenOf_push]
  have key : ∀ s, (leftOf es s).size = (es.toList.filter fun e => !s.contains e.born).length := fun s => by
    unfold leftOf
    rw [← Array.length_toList, Array.toList_filter]
  rw [key, key]
  have h2 : (es.toList.filter fun e => !((seenOf seen).push x.born).contains e.born) = (es.toList.filter fun e => !(seenOf seen).contains e.born).filter fun e => e.born != x.born := by
    rw [List.filter_filter]
    refine List.filter_congr fun e _ => ?_
    rw [Bool.eq_iff_iff]
    simp
    exact And.comm
  rw [h2, List.length_filter_lt_length_iff_exists]
  have h3 := left_mem.1 hx
  exact ⟨x, List.mem_filter.2 ⟨h3.1, by rw [h3.2]; rfl⟩, by simp⟩
end Go.X

namespace Go.X
open Go
structure WriteC (k : Int) (p : Pos4) (ms : List (Int × Int)) (d : Int) (f : ByteArray) (e : Int) (S t : ByteArray) : Prop where
  g1 : k = 5 → (decide (d < 1) || decide (d > 64)) = true → S = ByteArray.empty
  g2 : k = 5 → (decide (d < 1) || decide (d > 64)) = false → S = joinS [tGo, tDepth, itoaB d] ⟨#[32]⟩
  s1 : k = 3 → ((e != 0) || (strEq t ByteArray.empty && decide ((ms.length : Int) > 0))) = true → S = ByteArray.empty
  s2 : k = 3 → ((e != 0) || (strEq t ByteArray.empty && decide ((ms.length : Int) > 0))) = false → p = startC → decide ((ms.length : Int) > 0) = true → S = joinS ([tPosition, tStart] ++ [tMoves, t]) ⟨#[32]⟩
  s3 : k = 3 → ((e != 0) || (strEq t ByteArray.empty && decide ((ms.length : Int) > 0))) = false → p = startC → decide ((ms.length : Int) > 0) = false → S = joinS [tPosition, tStart] ⟨#[32]⟩
  s4 : k = 3 → ((e != 0) || (strEq t ByteArray.empty && decide ((ms.length : Int) > 0))) = false → p ≠ startC → decide ((ms.length : Int) > 0) = true → S = joinS ([tPosition, tFen, f] ++ [tMoves, t]) ⟨#[32]⟩
  s5 : k = 3 → ((e != 0) || (strEq t ByteArray.empty && decide ((ms.length : Int) > 0))) = false → p ≠ startC → decide ((ms.length : Int) > 0) = false → S = joinS [tPosition, tFen, f] ⟨#[32]⟩
  b1 : k = 4 → (strEq t ByteArray.empty && decide ((ms.length : Int) > 0)) = true → S = ByteArray.empty
  b2 : k = 4 → (strEq t ByteArray.empty && decide ((ms.length : Int) > 0)) = false → decide ((ms.length : Int) > 0) = true → S = joinS ([tBan] ++ [t]) ⟨#[32]⟩
  b3 : k = 4 → (strEq t ByteArray.empty && decide ((ms.length : Int) > 0)) = false → decide ((ms.length : Int) > 0) = false → S = joinS [tBan] ⟨#[32]⟩
  o : k ≠ 5 → k ≠ 3 → k ≠ 4 → S = plainW k
theorem join_lenB (B : Nat) (sep : List UInt8) : ∀ L : List (List UInt8), (∀ x ∈ L, x.length ≤ B) → (Lib.join L sep).length ≤ (B + sep.length) * L.length := by
  intro L
  induction L with
  | nil => intro _; simp [Lib.join]
  | cons x L ih =>
    intro h
    have hx := h x (by simp)
    have := ih fun y hy => h y (by simp [hy])
    cases L with
    | nil => simp [Lib.join]; omega
    | cons y L =>
      have e : Lib.join (x :: y :: L) sep = x ++ (sep ++ Lib.join (y :: L) sep) := by simp [Lib.join, List.intercalate]
      rw [e, List.length_append, List.length_append, List.length_cons, Nat.mul_succ]
      omega
theorem lj_of {L : List ByteArray} (h : L.length ≤ 5) (hs : ∀ x ∈ L, x.size ≤ 100000) : LJ L ⟨#[32]⟩ := by
  refine ⟨by omega, ?_, trivial⟩
  refine Nat.le_trans (join_lenB 100000 _ _ fun x hx => ?_) ?_
  · obtain ⟨y, hy, rfl⟩ := List.mem_map.1 hx
    exact hs y hy
  · rw [List.length_map]
    show 100001 * L.length ≤ _
    omega
theorem printP_size (p : Pos4) : (printP p).1.size ≤ 606 := by
  unfold printP
  split
  · exact prB_size ‹_›
  · exact Nat.zero_le _
theorem spText_size (l : List (Int × Int)) : (spText l).size ≤ 5 * l.length := by
  unfold spText
  split
  · have := join_len [32] ((l.map prM).map (·.data.toList)) (fun x hx => by
      simp only [List.map_map, List.mem_map] at hx
      obtain ⟨m, _, rfl⟩ := hx
      exact print_len m.1 m.2)
    simp only [List.length_map] at this
    exact this
  · exact Nat.zero_le _
theorem len_emp {α : Type} (ms : List α) : decide ((ms.length : Int) > 0) = !ms.isEmpty := by
  cases ms with
  | nil => rfl
  | cons x l => simp
theorem writeC_of {k : Int} {p : Pos4} {ms : List (Int × Int)} {d : Int} {f : ByteArray} {e : Int} {S t : ByteArray} (hf : printP p = (f, e)) (ht : spText ms = t) (hS : printC (k, p, ms, d) = S) : WriteC k p ms d f e S t := by
  have he : ck p = 0 ↔ e = 0 := by
    unfold printP at hf
    by_cases h : ck p = 0
    · rw [if_pos h] at hf
      cases hf
      exact ⟨fun _ => rfl, fun _ => h⟩
    · rw [if_neg h] at hf
      cases hf
      exact Iff.rfl
  have hfe : e = 0 → f = prB p := fun h0 => by
    unfold printP at hf
    rw [if_pos (he.2 h0)] at hf
    cases hf; rfl
  have hb : ∀ b, (strEq t ByteArray.empty && decide ((ms.length : Int) > 0)) = b → badT ms = b := fun b h => by
    unfold badT
    rw [ht, ← len_emp]; exact h
  have hl1 : decide ((ms.length : Int) > 0) = true → ms ≠ [] := fun h e => by subst e; exact absurd h (by decide)
  have hl0 : decide ((ms.length : Int) > 0) = false → ms = [] := fun h => by
    cases ms with
    | nil => rfl
    | cons x l => rw [len_emp] at h; cases h
  have hs1 : k = 3 → ((e != 0) || (strEq t ByteArray.empty && decide ((ms.length : Int) > 0))) = true → S = ByteArray.empty := fun hk h => by
    subst hk
    rw [← hS]
    unfold printC
    rw [if_neg (show ¬ ((3 : Int) = 5) by decide), if_pos rfl, if_pos]
    rw [Bool.or_eq_true] at h
    rcases h with h | h
    · exact .inl fun h2 => bneT h (he.1 h2)
    · exact .inr (hb _ h)
  have hs2 : k = 3 → ((e != 0) || (strEq t ByteArray.empty && decide ((ms.length : Int) > 0))) = false → S = joinS (setW p ms) ⟨#[32]⟩ ∧ f = prB p := fun hk h => by
    subst hk
    rw [Bool.or_eq_false_iff] at h
    have h0 := bneF h.1
    refine ⟨?_, hfe h0⟩
    rw [← hS]
    unfold printC
    rw [if_neg (show ¬ ((3 : Int) = 5) by decide), if_pos rfl, if_neg]
    rintro (h2 | h2)
    · exact h2 (he.2 h0)
    · have h2' : badT ms = true := h2
      rw [hb _ h.2] at h2'; exact Bool.noConfusion h2'
  refine ⟨fun hk h => ?_, fun hk h => ?_, hs1, fun hk h hp hm => ?_, fun hk h hp hm => ?_, fun hk h hp hm => ?_, fun hk h hp hm => ?_, fun hk h => ?_, fun hk h hm => ?_, fun hk h hm => ?_, fun h5 h3 h4 => ?_⟩
  · subst hk
    rw [← hS, ← go23n]
    rw [Bool.or_eq_true, decide_eq_true_eq, decide_eq_true_eq] at h
    exact h
  · subst hk
    rw [← hS]
    unfold printC
    rw [if_pos rfl, if_neg]
    rw [Bool.or_eq_false_iff, decide_eq_false_iff_not, decide_eq_false_iff_not] at h
    show ¬ (d < 1 ∨ 64 < d)
    omega
  · obtain ⟨h1, h2⟩ := hs2 hk h
    rw [h1]; unfold setW; rw [if_pos hp, if_neg (hl1 hm), ht]
  · obtain ⟨h1, h2⟩ := hs2 hk h
    rw [h1]; unfold setW; rw [if_pos hp, if_pos (hl0 hm), List.append_nil]
  · obtain ⟨h1, h2⟩ := hs2 hk h
    rw [h1, h2]; unfold setW; rw [if_neg hp, if_neg (hl1 hm), ht]
  · obtain ⟨h1, h2⟩ := hs2 hk h
    rw [h1, h2]; unfold setW; rw [if_neg hp, if_pos (hl0 hm), List.append_nil]
  · subst hk
    rw [← hS]
    unfold printC
    rw [if_neg (show ¬ ((4 : Int) = 5) by decide), if_neg (show ¬ ((4 : Int) = 3) by decide), if_pos rfl, if_pos (hb _ h)]
  · subst hk
    rw [← hS]
    unfold printC
    rw [if_neg (show ¬ ((4 : Int) = 5) by decide), if_neg (show ¬ ((4 : Int) = 3) by decide), if_pos rfl, if_neg (by show ¬ badT ms = true; rw [hb _ h]; exact Bool.noConfusion)]
    show joinS ([tBan] ++ if ms = [] then [] else [spText ms]) _ = _
    rw [if_neg (hl1 hm), ht]
  · subst hk
    rw [← hS]
    unfold printC
    rw [if_neg (show ¬ ((4 : Int) = 5) by decide), if_neg (show ¬ ((4 : Int) = 3) by decide), if_pos rfl, if_neg (by show ¬ badT ms = true; rw [hb _ h]; exact Bool.noConfusion)]
    show joinS ([tBan] ++ if ms = [] then [] else [spText ms]) _ = _
    rw [if_pos (hl0 hm), List.append_nil]
  · rw [← hS, ← one23 h5 h3 h4]
theorem plainW_no {k : Int} (h1 : (1 : Int) ≠ k) (h2 : (2 : Int) ≠ k) (h6 : (6 : Int) ≠ k) (h7 : (7 : Int) ≠ k) (h8 : (8 : Int) ≠ k) : plainW k = ByteArray.empty := by
  unfold plainW
  rw [if_neg (Ne.symm h1), if_neg (Ne.symm h2), if_neg (Ne.symm h6), if_neg (Ne.symm h7), if_neg (Ne.symm h8)]
end Go.X

namespace Go.X
open Go

def tL1 : ByteArray := ⟨#[32, 112, 111, 115, 105, 116, 105, 111, 110, 32, 32, 115, 116, 97, 114, 116, 112, 111, 115, 32, 109, 111, 118, 101, 115, 32, 104, 50, 101, 50]⟩
def tL2 : ByteArray := ⟨#[103, 111, 32, 100, 101, 112, 116, 104, 32, 49, 50]⟩
def tL3 : ByteArray := ⟨#[103, 111, 32, 100, 101, 112, 116, 104, 32, 48, 49, 50]⟩
def tL4 : ByteArray := ⟨#[112, 111, 115, 105, 116, 105, 111, 110, 32, 102, 101, 110, 32, 57, 47, 57, 32, 119]⟩
def tL5 : ByteArray := ⟨#[98, 97, 110, 109, 111, 118, 101, 115, 32, 120]⟩
def tL6 : ByteArray := ⟨#[112, 111, 115, 105, 116, 105, 111, 110, 32, 115, 116, 97, 114, 116, 112, 111, 115, 32, 109, 111, 118, 101, 115, 32, 104, 50, 101, 50]⟩
def tL7 : ByteArray := ⟨#[97, 9, 98, 32]⟩
def tHE : ByteArray := ⟨#[104, 50, 101, 50]⟩
theorem w_1 : wB tL1 = [tPosition, tStart, tMoves, tHE] := by decide +kernel
theorem w_2 : wB tL2 = [tGo, tDepth, ⟨#[49, 50]⟩] := by decide +kernel
theorem w_3 : wB tL3 = [tGo, tDepth, ⟨#[48, 49, 50]⟩] := by decide +kernel
theorem w_4 : wB tL4 = [tPosition, tFen, ⟨#[57, 47, 57]⟩, ⟨#[119]⟩] := by decide +kernel
theorem w_5 : wB tL5 = [tBan, ⟨#[120]⟩] := by decide +kernel
theorem w_7 : (wB tL7).length = 2 := by decide +kernel
theorem n_1 : nlB tL1 = false := by decide +kernel
theorem n_2 : nlB tL2 = false := by decide +kernel
theorem n_3 : nlB tL3 = false := by decide +kernel
theorem n_4 : nlB tL4 = false := by decide +kernel
theorem n_5 : nlB tL5 = false := by decide +kernel
theorem p_1 : parseC tL1 = ((3, startC, [(25, 22)], 0), 0) := by
  unfold parseC; rw [w_1, n_1]; decide +kernel
theorem p_2 : parseC tL2 = ((5, pos0, [], 12), 0) := by
  unfold parseC; rw [w_2, n_2]; decide +kernel
theorem p_3 : (parseC tL3).2 = 9 := by
  unfold parseC; rw [w_3, n_3]; decide +kernel
theorem p_5 : (parseC tL5).2 = 6 := by
  unfold parseC; rw [w_5, n_5]; decide +kernel
theorem pr_6 : printC (3, startC, [(25, 22)], 0) = tL6 := by
  have h1 : setW startC [(25, 22)] = [tPosition, tStart] ++ [tMoves, tHE] := by
    unfold setW
    rw [if_pos rfl, if_neg (by decide)]
    have : spText [(25, 22)] = tHE := by decide +kernel
    rw [this]
  unfold printC
  rw [if_neg (show ¬ ((3 : Int) = 5) by decide), if_pos rfl, if_neg]
  · show joinS (setW startC [(25, 22)]) _ = _
    rw [h1]; decide +kernel
  · rintro (h | h)
    · exact h start_ck
    · have : badT [(25, 22)] = false := by decide +kernel
      have h' : badT [(25, 22)] = true := h
      rw [this] at h'; exact Bool.noConfusion h'
theorem p_4 : (parseC tL4).2 = 6 := by
  unfold parseC; rw [w_4, n_4]
  have h1 : wordsC [tPosition, tFen, ⟨#[57, 47, 57]⟩, ⟨#[119]⟩] false = setC [tFen, ⟨#[57, 47, 57]⟩, ⟨#[119]⟩] := by
    unfold wordsC
    rw [if_neg (by decide), if_neg (by decide +kernel), if_neg (by decide +kernel), if_neg (by decide +kernel), if_pos (by decide +kernel)]; rfl
  have h2 : placeN [tFen, ⟨#[57, 47, 57]⟩, ⟨#[119]⟩] = 3 := by decide +kernel
  have h3 : posE [tFen, ⟨#[57, 47, 57]⟩, ⟨#[119]⟩] 3 = parseP tB4 := by
    unfold posE
    rw [if_neg (by decide)]
    have : joinS (([tFen, ⟨#[57, 47, 57]⟩, ⟨#[119]⟩].drop 1).take (3 - 1)) ⟨#[32]⟩ = tB4 := by decide +kernel
    rw [this]
  rw [h1, setC_1 (p := parseP tB4) (by rw [h2]; decide) (by rw [h2]; exact h3) (by rw [parse_B]; decide)]
  exact parse_B
structure Lv : Prop where
  a : parseC tL1 = ((3, startC, [(25, 22)], 0), 0)
  b : parseC tL2 = ((5, pos0, [], 12), 0)
  c : (parseC tL3).2 = 9
  d : (parseC tL4).2 = 6
  e : (parseC tL5).2 = 6
  f : printC (3, startC, [(25, 22)], 0) = tL6
  g : (wB tL7).length = 2
theorem lv : Lv := ⟨p_1, p_2, p_3, p_4, p_5, pr_6, w_7⟩
end Go.X

namespace Go.X
open Go

def behB (L : List ByteArray) : ByteArray := L.foldl (fun r w => r ++ w ++ ⟨#[32]⟩) ByteArray.empty
def ahB (L : List ByteArray) : ByteArray := L.foldl (fun r w => r ++ ⟨#[9, 32]⟩ ++ w) ByteArray.empty
theorem beh_next {L : List ByteArray} {i : Nat} (h : i < L.length) : behB (L.take (i + 1)) = behB (L.take i) ++ L.getD i ByteArray.empty ++ ⟨#[32]⟩ := by
  unfold behB
  rw [List.take_succ_eq_append_getElem h, List.foldl_append, List.getD_eq_getElem?_getD, List.getElem?_eq_getElem h]; rfl
theorem ah_next {L : List ByteArray} {i : Nat} (h : i < L.length) : ahB (L.take (i + 1)) = ahB (L.take i) ++ ⟨#[9, 32]⟩ ++ L.getD i ByteArray.empty := by
  unfold ahB
  rw [List.take_succ_eq_append_getElem h, List.foldl_append, List.getD_eq_getElem?_getD, List.getElem?_eq_getElem h]; rfl
theorem beh_fold : ∀ (L : List (List Int)) (a : List Int), (L.map bytesOf).foldl (fun r w => r ++ w ++ ⟨#[32]⟩) (bytesOf a) = bytesOf (a ++ behindL L) := by
  intro L
  induction L with
  | nil => intro a; simp [behindL]
  | cons w L ih =>
    intro a
    rw [List.map_cons, List.foldl_cons]
    have e : bytesOf a ++ bytesOf w ++ (⟨#[32]⟩ : ByteArray) = bytesOf (a ++ w ++ [32]) := by
      rw [bytesOf_app, bytesOf_app]; rfl
    rw [e, ih]
    simp [behindL]
theorem ah_fold : ∀ (L : List (List Int)) (a : List Int), (L.map bytesOf).foldl (fun r w => r ++ ⟨#[9, 32]⟩ ++ w) (bytesOf a) = bytesOf (a ++ aheadL L) := by
  intro L
  induction L with
  | nil => intro a; simp [aheadL]
  | cons w L ih =>
    intro a
    rw [List.map_cons, List.foldl_cons]
    have e : bytesOf a ++ (⟨#[9, 32]⟩ : ByteArray) ++ bytesOf w = bytesOf (a ++ [9, 32] ++ w) := by
      rw [bytesOf_app, bytesOf_app]; rfl
    rw [e, ih]
    simp [aheadL]
theorem beh_is (L : List (List Int)) : behB (L.map bytesOf) = bytesOf (behindL L) := beh_fold L []
theorem ah_is (L : List (List Int)) : ahB (L.map bytesOf) = bytesOf (aheadL L) := ah_fold L []
theorem beh_by {L : List (List Int)} (h : ∀ w ∈ L, ∀ c ∈ w, 0 ≤ c ∧ c < 256) : ∀ c ∈ behindL L, c = 32 ∨ ∃ w ∈ L, c ∈ w := by
  induction L with
  | nil => intro c hc; cases hc
  | cons w L ih =>
    intro c hc
    simp only [behindL, List.mem_append, List.mem_cons] at hc
    rcases hc with hc | rfl | hc
    · exact .inr ⟨w, by simp, hc⟩
    · exact .inl rfl
    · rcases ih (fun x hx => h x (by simp [hx])) c hc with h1 | ⟨x, hx, h1⟩
      · exact .inl h1
      · exact .inr ⟨x, by simp [hx], h1⟩
theorem ah_by {L : List (List Int)} : ∀ c ∈ aheadL L, c = 32 ∨ c = 9 ∨ ∃ w ∈ L, c ∈ w := by
  induction L with
  | nil => intro c hc; cases hc
  | cons w L ih =>
    intro c hc
    simp only [aheadL, List.mem_append, List.mem_cons] at hc
    rcases hc with rfl | rfl | hc | hc
    · exact .inr (.inl rfl)
    · exact .inl rfl
    · exact .inr (.inr ⟨w, by simp, hc⟩)
    · rcases ih c hc with h1 | h1 | ⟨x, hx, h1⟩
      · exact .inl h1
      · exact .inr (.inl h1)
      · exact .inr (.inr ⟨x, by simp [hx], h1⟩)
section
variable {s : ByteArray}
theorem wB_is (hs : s.size ≤ 1000) : wB s = (wordsL (bytesL s)).map bytesOf := by unfold wB; rw [if_neg (by omega)]
theorem beh_words (hs : s.size ≤ 1000) : wB (behB (wB s)) = wB s ∧ (behB (wB s)).size ≤ 2001 := by
  have hb : ∀ c ∈ behindL (wordsL (bytesL s)), 0 ≤ c ∧ c < 256 := fun c hc => by
    rcases beh_by (L := wordsL (bytesL s)) words_by c hc with rfl | ⟨w, hw, h⟩
    · omega
    · exact words_by w hw c h
  have hz : (behindL (wordsL (bytesL s))).length ≤ 2001 := by
    rw [behind_len]
    have h1 := words_sum (bytesL s)
    have h2 := words_len (bytesL s)
    rw [bL_len] at h1 h2
    omega
  rw [wB_is hs, beh_is]
  refine ⟨?_, by rw [size_bytesOf]; exact hz⟩
  conv => lhs; unfold wB
  rw [if_neg (by rw [size_bytesOf]; omega), bytesL_of hb, words_behind fun w hw => (words_mem hw).1]
theorem ah_words (hs : s.size ≤ 1000) : wB (ahB (wB s) ++ ⟨#[32]⟩) = wB s ∧ (ahB (wB s)).size ≤ 3002 ∧ (nlB s = false → nlB (ahB (wB s) ++ ⟨#[32]⟩) = false) := by
  have hb : ∀ c ∈ aheadL (wordsL (bytesL s)) ++ [32], 0 ≤ c ∧ c < 256 := fun c hc => by
    rw [List.mem_append, List.mem_singleton] at hc
    rcases hc with hc | rfl
    · rcases ah_by c hc with rfl | rfl | ⟨w, hw, h⟩
      · omega
      · omega
      · exact words_by w hw c h
    · omega
  have hz : (aheadL (wordsL (bytesL s))).length ≤ 3002 := by
    rw [ahead_len]
    have h1 := words_sum (bytesL s)
    have h2 := words_len (bytesL s)
    rw [bL_len] at h1 h2
    omega
  have e : ahB (wB s) ++ ⟨#[32]⟩ = bytesOf (aheadL (wordsL (bytesL s)) ++ [32]) := by
    rw [wB_is hs, ah_is, bytesOf_app]; rfl
  rw [e]
  refine ⟨?_, by rw [wB_is hs, ah_is, size_bytesOf]; exact hz, fun hn => ?_⟩
  · conv => lhs; unfold wB
    rw [if_neg (by rw [size_bytesOf, List.length_append]; simp; omega), bytesL_of hb, words_ahead fun w hw => (words_mem hw).1, wB_is hs]
  · unfold nlB at hn ⊢
    rw [bytesL_of hb]
    rw [List.any_eq_false] at hn ⊢
    intro c hc
    rw [List.mem_append, List.mem_singleton] at hc
    rcases hc with hc | rfl
    · rcases ah_by c hc with rfl | rfl | ⟨w, hw, h⟩
      · decide
      · decide
      · exact hn c ((words_mem hw).2 c h)
    · decide
theorem word_at {i : Nat} (hi : i < (wB s).length) : strEq ((wB s).getD i ByteArray.empty) ⟨#[]⟩ = false ∧ ∀ k, k < ((wB s).getD i ByteArray.empty).size → byteAt ((wB s).getD i ByteArray.empty) k ≠ 32 ∧ byteAt ((wB s).getD i ByteArray.empty) k ≠ 9 := by
  have hm : (wB s).getD i ByteArray.empty ∈ wB s := getD_memB hi
  unfold wB at hm hi ⊢
  split at hm
  · cases hm
  · rename_i h
    rw [if_neg h] at hi ⊢
    obtain ⟨w, hw, hx⟩ := List.mem_map.1 hm
    rw [← hx]
    have hW := (words_mem hw).1
    have hb := words_by w hw
    refine ⟨sne fun e => hW.1 ?_, fun k hk => ?_⟩
    · have := congrArg ByteArray.size e
      rw [size_bytesOf] at this
      exact List.length_eq_zero_iff.1 this
    · rw [← bL_at, bytesL_of hb]
      rw [size_bytesOf] at hk
      have hmem : w.getD k 0 ∈ w := by rw [List.getD_eq_getElem?_getD, List.getElem?_eq_getElem hk]; exact List.getElem_mem hk
      have := hW.2 _ hmem
      exact ⟨fun h => this (.inl h), fun h => this (.inr h)⟩
theorem nl_at {i : Nat} (hi : i < s.size) (h : (byteAt s i == 10 || byteAt s i == 13) = true) : nlB s = true := by
  unfold nlB
  rw [List.any_eq_true]
  refine ⟨byteAt s i, ?_, h⟩
  rw [← bL_at, List.getD_eq_getElem?_getD, List.getElem?_eq_getElem (by rw [bL_len]; exact hi)]
  exact List.getElem_mem _
theorem nl_no (h : ∀ i, i < s.size → (byteAt s i == 10 || byteAt s i == 13) = false) : nlB s = false := by
  unfold nlB
  rw [List.any_eq_false]
  intro c hc
  obtain ⟨i, hi, rfl⟩ := List.mem_iff_getElem.1 hc
  have := h i (by rw [bL_len] at hi; exact hi)
  rw [← bL_at, List.getD_eq_getElem?_getD, List.getElem?_eq_getElem hi] at this
  rw [show (some (bytesL s)[i]).getD 0 = (bytesL s)[i] from rfl] at this
  rw [this]; exact Bool.noConfusion
end
theorem sameC_self (c : Cmd) : sameC c c = true := by
  unfold sameC
  rw [sameM_self, (pos_eqb _ _).2 rfl]
  simp
theorem beh_le (L : List ByteArray) (i : Nat) : (behB (L.take i)).size ≤ (behB L).size := by
  have key : ∀ (A : List ByteArray) (a : ByteArray), a.size ≤ (A.foldl (fun r w => r ++ w ++ (⟨#[32]⟩ : ByteArray)) a).size := by
    intro A
    induction A with
    | nil => intro a; exact Nat.le_refl _
    | cons x A ih => intro a; rw [List.foldl_cons]; refine Nat.le_trans ?_ (ih _); rw [ByteArray.size_append, ByteArray.size_append]; omega
  unfold behB
  conv => rhs; rw [← List.take_append_drop i L, List.foldl_append]
  exact key _ _
theorem ah_le (L : List ByteArray) (i : Nat) : (ahB (L.take i)).size ≤ (ahB L).size := by
  have key : ∀ (A : List ByteArray) (a : ByteArray), a.size ≤ (A.foldl (fun r w => r ++ (⟨#[9, 32]⟩ : ByteArray) ++ w) a).size := by
    intro A
    induction A with
    | nil => intro a; exact Nat.le_refl _
    | cons x A ih => intro a; rw [List.foldl_cons]; refine Nat.le_trans ?_ (ih _); rw [ByteArray.size_append, ByteArray.size_append]; omega
  unfold ahB
  conv => rhs; rw [← List.take_append_drop i L, List.foldl_append]
  exact key _ _
theorem mvL_len (l : List ByteArray) : (mvL l).1.length ≤ 1024 := by
  unfold mvL
  split
  · exact Nat.zero_le _
  · split
    · exact Nat.zero_le _
    · rw [List.length_map]; omega
theorem setC_len (l : List ByteArray) : (setC l).1.2.2.1.length ≤ 1024 := by
  unfold setC
  split
  · exact Nat.zero_le _
  · split
    · show (movE l _ _).1.length ≤ _
      unfold movE
      split
      · exact mvL_len _
      · exact Nat.zero_le _
    · exact Nat.zero_le _
theorem parse_ms (s : ByteArray) : (parseC s).1.2.2.1.length ≤ 1024 := by
  unfold parseC wordsC
  split
  · exact Nat.zero_le _
  · split
    · exact Nat.zero_le _
    · split
      · unfold goC
        split <;> exact Nat.zero_le _
      · split
        · unfold banC
          split
          · exact mvL_len _
          · exact Nat.zero_le _
        · split
          · exact setC_len _
          · exact Nat.zero_le _
end Go.X

namespace Go.X
open Go

theorem join_size {L : List ByteArray} (h : L.length ≤ 5) (hs : ∀ x ∈ L, x.size ≤ 100000) : (joinS L ⟨#[32]⟩).size ≤ 500005 := by
  have := join_lenB 100000 [32] (L.map (·.data.toList)) fun x hx => by
    obtain ⟨y, hy, rfl⟩ := List.mem_map.1 hx
    exact hs y hy
  rw [List.length_map] at this
  have e : (joinS L ⟨#[32]⟩).size = (Lib.join (L.map (·.data.toList)) [32]).length := rfl
  have e2 : ([32] : List UInt8).length = 1 := rfl
  rw [e2] at this
  rw [e]; omega
theorem printC_size {c : Cmd} (hl : c.2.2.1.length ≤ 4096) : (printC c).size ≤ 1000000 := by
  have ht : (spText c.2.2.1).size ≤ 100000 := by have := spText_size c.2.2.1; omega
  unfold printC
  split
  · split
    · exact Nat.zero_le _
    · rename_i h
      have hi := (go_num (d := c.2.2.2) (by omega) (by omega)).2.2
      refine Nat.le_trans (join_size (Nat.le_of_ble_eq_true rfl) ?_) (by decide)
      simp only [List.forall_mem_cons]
      exact ⟨by decide, by decide, by omega, fun x hx => by cases hx⟩
  · split
    · split
      · exact Nat.zero_le _
      · rename_i h
        have hk : ck c.2.1 = 0 := Classical.byContradiction fun h2 => h (.inl h2)
        have hp := prB_size hk
        refine Nat.le_trans (join_size ?_ ?_) (by decide)
        · unfold setW
          split <;> split <;> exact Nat.le_of_ble_eq_true rfl
        · unfold setW
          split <;> split <;> simp only [List.forall_mem_append, List.forall_mem_cons]
          · exact ⟨⟨by decide, by decide, fun x hx => by cases hx⟩, fun x hx => by cases hx⟩
          · exact ⟨⟨by decide, by decide, fun x hx => by cases hx⟩, by decide, ht, fun x hx => by cases hx⟩
          · exact ⟨⟨by decide, by decide, by omega, fun x hx => by cases hx⟩, fun x hx => by cases hx⟩
          · exact ⟨⟨by decide, by decide, by omega, fun x hx => by cases hx⟩, by decide, ht, fun x hx => by cases hx⟩
    · split
      · split
        · exact Nat.zero_le _
        · refine Nat.le_trans (join_size ?_ ?_) (by decide)
          · split <;> exact Nat.le_of_ble_eq_true rfl
          · split <;> simp only [List.forall_mem_append, List.forall_mem_cons]
            · exact ⟨⟨by decide, fun x hx => by cases hx⟩, fun x hx => by cases hx⟩
            · exact ⟨⟨by decide, fun x hx => by cases hx⟩, ht, fun x hx => by cases hx⟩
      · unfold plainW
        split
        · decide
        · split
          · decide
          · split
            · decide
            · split
              · decide
              · split <;> decide
theorem again_fail {s : ByteArray} (hs : s.size ≤ 600) (h : (parseC s).2 ≠ 0) : (parseC s).1 = cmd0 := by
  rcases cmd_again hs with h1 | h1
  · exact absurd h1.1 h
  · exact h1.2
theorem again_ok {s : ByteArray} (hs : s.size ≤ 600) (h : (parseC s).2 = 0) : printC (parseC s).1 ≠ ByteArray.empty ∧ parseC (printC (parseC s).1) = ((parseC s).1, 0) := by
  rcases cmd_again hs with h1 | h1
  · exact h1.2
  · exact absurd h h1.1
end Go.X
